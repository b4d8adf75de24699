/- Walks, lifted by program. No condition beyond the theorems' own premises. -/
import Derived.Test.YtbblmeecfimnkaaGreatDoorBMQ3
namespace Go.LM.BINZ
open Go Go.LL Go.MD Go.LM Go.Proofs Go.MD.BINZ
set_option maxRecDepth 100000
set_option maxHeartbeats 4000000 in
set_option maxRecDepth 100000 in
theorem Z1v_c {N:Nat} {w0:World} {H:PH} (hH:H.le w0) {oa2:Option Addr} {cap3:Nat} {p1:(List api_Op)} (hc4:p1.length≤cap3) (hr5:SR H oa2 p1) {p6:Int} {r:Bool} (hm:Z1v N p1 p6=some r):Tot Tryz.prog 71 #[.slice oa2 p1.length cap3,.int .i64 p6] w0 (fun v w'=>v=.bool r∧Keep Nil w0 w'):=by
  unfold Z1v at hm
  refine fn0 (args:=[.slice oa2 p1.length cap3,.int .i64 p6]) (F:=[(0,.slice oa2 p1.length cap3),(1,.int .i64 p6)]) Tryz.func71 rfl Tryz.ntmps71 rfl rfl fun a hF=>?_
  have hS:St w0 Nil [H] [] w0:=start1 hH
  refine th<|?_
  refine rg<|?_
  refine ls<|q1 hF rfl (e_asg hF rfl) fun a hF=>?_
  refine re<|?_
  refine tn<|th<|th<|?_
  refine rg<|?_
  refine ls<|q1 hF rfl (e_asg hF rfl) fun a hF=>?_
  refine re<|?_
  refine tn<|midK (fun a w=>(Z1w N p1)=some r∧Fr 78 [(0,.slice oa2 p1.length cap3)] a∧St w0 Nil [H] [] w) ?_ ?_
  ·
    refine wb<|lp (α:=Nat×Int) (fun (gh:Nat×Int) a w=>match gh with | (nn2,vB1)=>(Z1x N (Z1w N p1) p1 p6) nn2 vB1=some r∧Fr 78 [(0,.slice oa2 p1.length cap3),(1,.int .i64 p6),(5,.int .i64 vB1)] a∧St w0 Nil [H] [] w) (fun gh=>gh.1) (N,0) ⟨hm,hF.has ⟨rfl,rfl,rfl,trivial⟩,hS⟩ ?_
    clear hm hF hS
    rintro ⟨nn2,vB1⟩ a w ⟨hm,hF,hS⟩
    obtain _ | nn2:=nn2
    · simp [Z1x] at hm
    rw [Z1x] at hm
    refine th<|th<|?_
    refine rg<|?_
    refine ls<|q1 hF rfl (e_move hF rfl) fun a hF=>?_
    refine ls<|q1 hF rfl (e_move hF rfl) fun a hF=>?_
    refine ls<|q1 hF rfl (e_lenL (α:=api_Op) (xs:=p1) hF Tryz.runUnderlying54 rfl) fun a hF=>?_
    refine ls<|q1 hF rfl (e_lss hF rfl rfl) fun a hF=>?_
    refine re<|?_
    rcases bdich (decide (vB1 < (p1.length:Int))) with hb7 | hb7
    ·
      replace hm:=itp_t hm hb7
      refine tn<|ctv hF rfl hb7<|wk<|?_
      refine tn<|th<|wb<|th<|?_
      replace hm:=bind_some hm
      obtain ⟨xz8,h9,hm⟩:=hm
      obtain ⟨c10,g11,hl12⟩:=SR.get hr5 h9
      obtain rfl:=api_Op_open g11
      refine rxS 12 hS wide (by kernel_rfl) fun w hS=>?_
      refine x1 (St.ld hS) hF rfl rfl (fun _ _ _ h=>h) (fun w hl=>(e_move hF rfl)) fun a hF=>?_
      refine x1 (St.ld hS) hF rfl rfl (fun _ _ _ h=>h) (fun w hl=>(e_move hF rfl)) fun a hF=>?_
      refine x1 (St.ld hS) hF rfl rfl (fun _ _ _ h=>h) (fun w hl=>(e_iaI hF Tryz.runUnderlying54 Tryz.sizeOf83 rfl rfl h9 (SR.oaI hr5 (by decide) h9))) fun a hF=>?_
      refine x1 (St.ld hS) hF rfl rfl (fun _ _ _ h=>h) (fun w hl=>(e_fa hF fa83_0 rfl)) fun a hF=>?_
      refine x1 (St.ld hS) hF rfl rfl (fun _ _ _ h=>h) (fun w hl=>(e_ld hF Tryz.isAgg3 rfl (PH.le.cell (Lds.le hl) (hl12 0 _ rfl)))) fun a hF=>?_
      refine x1 (St.ld hS) hF rfl rfl (fun _ _ _ h=>h) (fun w hl=>(e_move hF rfl)) fun a hF=>?_
      refine x1 (St.ld hS) hF rfl rfl (fun _ _ _ h=>h) (fun w hl=>(e_move hF rfl)) fun a hF=>?_
      refine x1 (St.ld hS) hF rfl rfl (fun _ _ _ h=>h) (fun w hl=>(e_iaI hF Tryz.runUnderlying54 Tryz.sizeOf83 rfl rfl h9 (SR.oaI hr5 (by decide) h9))) fun a hF=>?_
      refine x1 (St.ld hS) hF rfl rfl (fun _ _ _ h=>h) (fun w hl=>(e_fa hF fa83_1 rfl)) fun a hF=>?_
      refine x1 (St.ld hS) hF rfl rfl (fun _ _ _ h=>h) (fun w hl=>(e_ld hF Tryz.isAgg3 rfl (PH.le.cell (Lds.le hl) (hl12 1 _ rfl)))) fun a hF=>?_
      refine x1 (St.ld hS) hF rfl rfl (fun _ _ _ h=>h) (fun w hl=>(e_asg hF rfl)) fun a hF=>?_
      refine x1 (St.ld hS) hF rfl rfl (fun _ _ _ h=>h) (fun w hl=>(e_asg hF rfl)) fun a hF=>?_
      refine xe<|?_
      refine tn<|th<|?_
      refine rg<|?_
      refine ls<|q1 hF rfl (e_move hF rfl) fun a hF=>?_
      refine ls<|q1 hF rfl (e_lss hF rfl rfl) fun a hF=>?_
      refine ls<|q1 hF rfl (e_move hF rfl) fun a hF=>?_
      refine grp (N:=78) (Fk:=[(0,.slice oa2 p1.length cap3),(1,.int .i64 p6),(5,.int .i64 vB1),(6,.int .i64 xz8.Kind),(7,.int .i64 xz8.N),(29,.bool ((decide (xz8.Kind < 1)) || (decide (15 < xz8.Kind))))]) (b:=(decide (xz8.Kind < 1))) 3 hS ?_ ?_ ?_
      ·
        intro hb key
        replace hF:=Fr.as hF (t:=26) rfl (congrArg Value.bool hb)
        refine ls<|gn hF rfl rfl rfl rfl fun a hF=>?_
        refine ls<|gn hF rfl rfl rfl rfl fun a hF=>?_
        refine ls<|q1 hF rfl (e_as (v':=.bool ((decide (xz8.Kind < 1)) || (decide (15 < xz8.Kind)))) (e_pickT hF rfl rfl) (by rw [hb];rfl)) fun a hF=>?_
        exact key _ _ (hF.has ⟨rfl,rfl,rfl,rfl,rfl,rfl,trivial⟩) hS
      ·
        intro hb key
        replace hF:=Fr.as hF (t:=26) rfl (congrArg Value.bool hb)
        refine ls<|gy hF rfl rfl<|q1 hF rfl (e_move hF rfl) fun a hF=>?_
        refine ls<|gy hF rfl rfl<|q1 hF rfl (e_gtr hF rfl rfl) fun a hF=>?_
        refine ls<|q1 hF rfl (e_as (v':=.bool ((decide (xz8.Kind < 1)) || (decide (15 < xz8.Kind)))) (e_pickF hF rfl rfl) (by rw [hb];rfl)) fun a hF=>?_
        exact key _ _ (hF.has ⟨rfl,rfl,rfl,rfl,rfl,rfl,trivial⟩) hS
      intro a w hF hS
      refine ls<|q1 hF rfl (e_move hF rfl) fun a hF=>?_
      refine grp (N:=78) (Fk:=[(0,.slice oa2 p1.length cap3),(1,.int .i64 p6),(5,.int .i64 vB1),(6,.int .i64 xz8.Kind),(7,.int .i64 xz8.N),(41,.bool (((decide (xz8.Kind < 1)) || (decide (15 < xz8.Kind))) || ((decide (xz8.Kind=1)) && ((decide (xz8.N < 0)) || (decide (4294967296 < xz8.N))))))]) (b:=((decide (xz8.Kind < 1)) || (decide (15 < xz8.Kind)))) 11 hS ?_ ?_ ?_
      ·
        intro hb key
        replace hF:=Fr.as hF (t:=30) rfl (congrArg Value.bool hb)
        refine ls<|gn hF rfl rfl rfl rfl fun a hF=>?_
        refine ls<|gn hF rfl rfl rfl rfl fun a hF=>?_
        refine ls<|gn hF rfl rfl rfl rfl fun a hF=>?_
        refine ls<|gnu hF rfl rfl rfl fun a hF=>?_
        refine ls<|gnu hF rfl rfl rfl fun a hF=>?_
        refine ls<|gnu hF rfl rfl rfl fun a hF=>?_
        refine ls<|gnu hF rfl rfl rfl fun a hF=>?_
        refine ls<|gnu hF rfl rfl rfl fun a hF=>?_
        refine ls<|gnu hF rfl rfl rfl fun a hF=>?_
        refine ls<|gn hF rfl rfl rfl rfl fun a hF=>?_
        refine ls<|q1 hF rfl (e_as (v':=.bool (((decide (xz8.Kind < 1)) || (decide (15 < xz8.Kind))) || ((decide (xz8.Kind=1)) && ((decide (xz8.N < 0)) || (decide (4294967296 < xz8.N)))))) (e_pickT hF rfl rfl) (by rw [hb];rfl)) fun a hF=>?_
        exact key _ _ (hF.has ⟨rfl,rfl,rfl,rfl,rfl,rfl,trivial⟩) hS
      ·
        intro hb key
        replace hF:=Fr.as hF (t:=30) rfl (congrArg Value.bool hb)
        refine ls<|gy hF rfl rfl<|q1 hF rfl (e_move hF rfl) fun a hF=>?_
        refine ls<|gy hF rfl rfl<|q1 hF rfl (e_eql hF rfl rfl) fun a hF=>?_
        refine ls<|gy hF rfl rfl<|q1 hF rfl (e_move hF rfl) fun a hF=>?_
        refine grp (N:=78) (Fk:=[(0,.slice oa2 p1.length cap3),(1,.int .i64 p6),(5,.int .i64 vB1),(6,.int .i64 xz8.Kind),(7,.int .i64 xz8.N),(30,.bool false),(40,.bool ((decide (xz8.Kind=1)) && ((decide (xz8.N < 0)) || (decide (4294967296 < xz8.N)))))]) (b:=(decide (xz8.Kind=1))) 7 hS ?_ ?_ ?_
        ·
          intro hb key
          replace hF:=Fr.as hF (t:=33) rfl (congrArg Value.bool hb)
          refine ls<|gy hF rfl rfl<|q1 hF rfl (e_move hF rfl) fun a hF=>?_
          refine ls<|gy hF rfl rfl<|q1 hF rfl (e_lss hF rfl rfl) fun a hF=>?_
          refine ls<|gy hF rfl rfl<|q1 hF rfl (e_move hF rfl) fun a hF=>?_
          refine grp (N:=78) (Fk:=[(0,.slice oa2 p1.length cap3),(1,.int .i64 p6),(5,.int .i64 vB1),(6,.int .i64 xz8.Kind),(7,.int .i64 xz8.N),(30,.bool false),(33,.bool true),(39,.bool ((decide (xz8.N < 0)) || (decide (4294967296 < xz8.N))))]) (b:=(decide (xz8.N < 0))) 3 hS ?_ ?_ ?_
          ·
            intro hb key
            replace hF:=Fr.as hF (t:=36) rfl (congrArg Value.bool hb)
            refine ls<|gn hF rfl rfl rfl rfl fun a hF=>?_
            refine ls<|gn hF rfl rfl rfl rfl fun a hF=>?_
            refine ls<|gy hF rfl rfl<|q1 hF rfl (e_as (v':=.bool ((decide (xz8.N < 0)) || (decide (4294967296 < xz8.N)))) (e_pickT hF rfl rfl) (by rw [hb];rfl)) fun a hF=>?_
            exact key _ _ (hF.has ⟨rfl,rfl,rfl,rfl,rfl,rfl,rfl,rfl,trivial⟩) hS
          ·
            intro hb key
            replace hF:=Fr.as hF (t:=36) rfl (congrArg Value.bool hb)
            refine ls<|gy hF rfl rfl<|q1 hF rfl (e_move hF rfl) fun a hF=>?_
            refine ls<|gy hF rfl rfl<|q1 hF rfl (e_gtr hF rfl rfl) fun a hF=>?_
            refine ls<|gy hF rfl rfl<|q1 hF rfl (e_as (v':=.bool ((decide (xz8.N < 0)) || (decide (4294967296 < xz8.N)))) (e_pickF hF rfl rfl) (by rw [hb];rfl)) fun a hF=>?_
            exact key _ _ (hF.has ⟨rfl,rfl,rfl,rfl,rfl,rfl,rfl,rfl,trivial⟩) hS
          intro a w hF hS
          refine ls<|gy hF rfl rfl<|q1 hF rfl (e_as (v':=.bool ((decide (xz8.Kind=1)) && ((decide (xz8.N < 0)) || (decide (4294967296 < xz8.N))))) (e_pickT hF rfl rfl) (by rw [hb];rfl)) fun a hF=>?_
          exact key _ _ (hF.has ⟨rfl,rfl,rfl,rfl,rfl,rfl,rfl,trivial⟩) hS
        ·
          intro hb key
          replace hF:=Fr.as hF (t:=33) rfl (congrArg Value.bool hb)
          refine ls<|gn hF rfl rfl rfl rfl fun a hF=>?_
          refine ls<|gn hF rfl rfl rfl rfl fun a hF=>?_
          refine ls<|gn hF rfl rfl rfl rfl fun a hF=>?_
          refine ls<|gnu hF rfl rfl rfl fun a hF=>?_
          refine ls<|gnu hF rfl rfl rfl fun a hF=>?_
          refine ls<|gn hF rfl rfl rfl rfl fun a hF=>?_
          refine ls<|gy hF rfl rfl<|q1 hF rfl (e_as (v':=.bool ((decide (xz8.Kind=1)) && ((decide (xz8.N < 0)) || (decide (4294967296 < xz8.N))))) (e_pickF hF rfl rfl) (by rw [hb];rfl)) fun a hF=>?_
          exact key _ _ (hF.has ⟨rfl,rfl,rfl,rfl,rfl,rfl,rfl,trivial⟩) hS
        intro a w hF hS
        refine ls<|q1 hF rfl (e_as (v':=.bool (((decide (xz8.Kind < 1)) || (decide (15 < xz8.Kind))) || ((decide (xz8.Kind=1)) && ((decide (xz8.N < 0)) || (decide (4294967296 < xz8.N)))))) (e_pickF hF rfl rfl) (by rw [hb];rfl)) fun a hF=>?_
        exact key _ _ (hF.has ⟨rfl,rfl,rfl,rfl,rfl,rfl,trivial⟩) hS
      intro a w hF hS
      refine ls<|q1 hF rfl (e_move hF rfl) fun a hF=>?_
      refine grp (N:=78) (Fk:=[(0,.slice oa2 p1.length cap3),(1,.int .i64 p6),(5,.int .i64 vB1),(6,.int .i64 xz8.Kind),(7,.int .i64 xz8.N),(54,.bool ((((decide (xz8.Kind < 1)) || (decide (15 < xz8.Kind))) || ((decide (xz8.Kind=1)) && ((decide (xz8.N < 0)) || (decide (4294967296 < xz8.N))))) || ((decide (xz8.Kind=2)) && ((decide (xz8.N < 0)) || (decide (p6≤xz8.N))))))]) (b:=(((decide (xz8.Kind < 1)) || (decide (15 < xz8.Kind))) || ((decide (xz8.Kind=1)) && ((decide (xz8.N < 0)) || (decide (4294967296 < xz8.N)))))) 12 hS ?_ ?_ ?_
      ·
        intro hb key
        replace hF:=Fr.as hF (t:=42) rfl (congrArg Value.bool hb)
        refine ls<|gn hF rfl rfl rfl rfl fun a hF=>?_
        refine ls<|gn hF rfl rfl rfl rfl fun a hF=>?_
        refine ls<|gn hF rfl rfl rfl rfl fun a hF=>?_
        refine ls<|gnu hF rfl rfl rfl fun a hF=>?_
        refine ls<|gnu hF rfl rfl rfl fun a hF=>?_
        refine ls<|gnu hF rfl rfl rfl fun a hF=>?_
        refine ls<|gnu hF rfl rfl rfl fun a hF=>?_
        refine ls<|gnu hF rfl rfl rfl fun a hF=>?_
        refine ls<|gnu hF rfl rfl rfl fun a hF=>?_
        refine ls<|gnu hF rfl rfl rfl fun a hF=>?_
        refine ls<|gn hF rfl rfl rfl rfl fun a hF=>?_
        refine ls<|q1 hF rfl (e_as (v':=.bool ((((decide (xz8.Kind < 1)) || (decide (15 < xz8.Kind))) || ((decide (xz8.Kind=1)) && ((decide (xz8.N < 0)) || (decide (4294967296 < xz8.N))))) || ((decide (xz8.Kind=2)) && ((decide (xz8.N < 0)) || (decide (p6≤xz8.N)))))) (e_pickT hF rfl rfl) (by rw [hb];rfl)) fun a hF=>?_
        exact key _ _ (hF.has ⟨rfl,rfl,rfl,rfl,rfl,rfl,trivial⟩) hS
      ·
        intro hb key
        replace hF:=Fr.as hF (t:=42) rfl (congrArg Value.bool hb)
        refine ls<|gy hF rfl rfl<|q1 hF rfl (e_move hF rfl) fun a hF=>?_
        refine ls<|gy hF rfl rfl<|q1 hF rfl (e_eql hF rfl rfl) fun a hF=>?_
        refine ls<|gy hF rfl rfl<|q1 hF rfl (e_move hF rfl) fun a hF=>?_
        refine grp (N:=78) (Fk:=[(0,.slice oa2 p1.length cap3),(1,.int .i64 p6),(5,.int .i64 vB1),(6,.int .i64 xz8.Kind),(7,.int .i64 xz8.N),(42,.bool false),(53,.bool ((decide (xz8.Kind=2)) && ((decide (xz8.N < 0)) || (decide (p6≤xz8.N)))))]) (b:=(decide (xz8.Kind=2))) 8 hS ?_ ?_ ?_
        ·
          intro hb key
          replace hF:=Fr.as hF (t:=45) rfl (congrArg Value.bool hb)
          refine ls<|gy hF rfl rfl<|q1 hF rfl (e_move hF rfl) fun a hF=>?_
          refine ls<|gy hF rfl rfl<|q1 hF rfl (e_lss hF rfl rfl) fun a hF=>?_
          refine ls<|gy hF rfl rfl<|q1 hF rfl (e_move hF rfl) fun a hF=>?_
          refine grp (N:=78) (Fk:=[(0,.slice oa2 p1.length cap3),(1,.int .i64 p6),(5,.int .i64 vB1),(6,.int .i64 xz8.Kind),(7,.int .i64 xz8.N),(42,.bool false),(45,.bool true),(52,.bool ((decide (xz8.N < 0)) || (decide (p6≤xz8.N))))]) (b:=(decide (xz8.N < 0))) 4 hS ?_ ?_ ?_
          ·
            intro hb key
            replace hF:=Fr.as hF (t:=48) rfl (congrArg Value.bool hb)
            refine ls<|gn hF rfl rfl rfl rfl fun a hF=>?_
            refine ls<|gn hF rfl rfl rfl rfl fun a hF=>?_
            refine ls<|gn hF rfl rfl rfl rfl fun a hF=>?_
            refine ls<|gy hF rfl rfl<|q1 hF rfl (e_as (v':=.bool ((decide (xz8.N < 0)) || (decide (p6≤xz8.N)))) (e_pickT hF rfl rfl) (by rw [hb];rfl)) fun a hF=>?_
            exact key _ _ (hF.has ⟨rfl,rfl,rfl,rfl,rfl,rfl,rfl,rfl,trivial⟩) hS
          ·
            intro hb key
            replace hF:=Fr.as hF (t:=48) rfl (congrArg Value.bool hb)
            refine ls<|gy hF rfl rfl<|q1 hF rfl (e_move hF rfl) fun a hF=>?_
            refine ls<|gy hF rfl rfl<|q1 hF rfl (e_move hF rfl) fun a hF=>?_
            refine ls<|gy hF rfl rfl<|q1 hF rfl (e_geq hF rfl rfl) fun a hF=>?_
            refine ls<|gy hF rfl rfl<|q1 hF rfl (e_as (v':=.bool ((decide (xz8.N < 0)) || (decide (p6≤xz8.N)))) (e_pickF hF rfl rfl) (by rw [hb];rfl)) fun a hF=>?_
            exact key _ _ (hF.has ⟨rfl,rfl,rfl,rfl,rfl,rfl,rfl,rfl,trivial⟩) hS
          intro a w hF hS
          refine ls<|gy hF rfl rfl<|q1 hF rfl (e_as (v':=.bool ((decide (xz8.Kind=2)) && ((decide (xz8.N < 0)) || (decide (p6≤xz8.N))))) (e_pickT hF rfl rfl) (by rw [hb];rfl)) fun a hF=>?_
          exact key _ _ (hF.has ⟨rfl,rfl,rfl,rfl,rfl,rfl,rfl,trivial⟩) hS
        ·
          intro hb key
          replace hF:=Fr.as hF (t:=45) rfl (congrArg Value.bool hb)
          refine ls<|gn hF rfl rfl rfl rfl fun a hF=>?_
          refine ls<|gn hF rfl rfl rfl rfl fun a hF=>?_
          refine ls<|gn hF rfl rfl rfl rfl fun a hF=>?_
          refine ls<|gnu hF rfl rfl rfl fun a hF=>?_
          refine ls<|gnu hF rfl rfl rfl fun a hF=>?_
          refine ls<|gnu hF rfl rfl rfl fun a hF=>?_
          refine ls<|gn hF rfl rfl rfl rfl fun a hF=>?_
          refine ls<|gy hF rfl rfl<|q1 hF rfl (e_as (v':=.bool ((decide (xz8.Kind=2)) && ((decide (xz8.N < 0)) || (decide (p6≤xz8.N))))) (e_pickF hF rfl rfl) (by rw [hb];rfl)) fun a hF=>?_
          exact key _ _ (hF.has ⟨rfl,rfl,rfl,rfl,rfl,rfl,rfl,trivial⟩) hS
        intro a w hF hS
        refine ls<|q1 hF rfl (e_as (v':=.bool ((((decide (xz8.Kind < 1)) || (decide (15 < xz8.Kind))) || ((decide (xz8.Kind=1)) && ((decide (xz8.N < 0)) || (decide (4294967296 < xz8.N))))) || ((decide (xz8.Kind=2)) && ((decide (xz8.N < 0)) || (decide (p6≤xz8.N)))))) (e_pickF hF rfl rfl) (by rw [hb];rfl)) fun a hF=>?_
        exact key _ _ (hF.has ⟨rfl,rfl,rfl,rfl,rfl,rfl,trivial⟩) hS
      intro a w hF hS
      refine ls<|q1 hF rfl (e_move hF rfl) fun a hF=>?_
      refine grp (N:=78) (Fk:=[(0,.slice oa2 p1.length cap3),(1,.int .i64 p6),(5,.int .i64 vB1),(62,.bool (((((decide (xz8.Kind < 1)) || (decide (15 < xz8.Kind))) || ((decide (xz8.Kind=1)) && ((decide (xz8.N < 0)) || (decide (4294967296 < xz8.N))))) || ((decide (xz8.Kind=2)) && ((decide (xz8.N < 0)) || (decide (p6≤xz8.N))))) || ((decide (2 < xz8.Kind)) && (decide (xz8.N≠0)))))]) (b:=((((decide (xz8.Kind < 1)) || (decide (15 < xz8.Kind))) || ((decide (xz8.Kind=1)) && ((decide (xz8.N < 0)) || (decide (4294967296 < xz8.N))))) || ((decide (xz8.Kind=2)) && ((decide (xz8.N < 0)) || (decide (p6≤xz8.N)))))) 7 hS ?_ ?_ ?_
      ·
        intro hb key
        replace hF:=Fr.as hF (t:=55) rfl (congrArg Value.bool hb)
        refine ls<|gn hF rfl rfl rfl rfl fun a hF=>?_
        refine ls<|gn hF rfl rfl rfl rfl fun a hF=>?_
        refine ls<|gn hF rfl rfl rfl rfl fun a hF=>?_
        refine ls<|gnu hF rfl rfl rfl fun a hF=>?_
        refine ls<|gnu hF rfl rfl rfl fun a hF=>?_
        refine ls<|gn hF rfl rfl rfl rfl fun a hF=>?_
        refine ls<|q1 hF rfl (e_as (v':=.bool (((((decide (xz8.Kind < 1)) || (decide (15 < xz8.Kind))) || ((decide (xz8.Kind=1)) && ((decide (xz8.N < 0)) || (decide (4294967296 < xz8.N))))) || ((decide (xz8.Kind=2)) && ((decide (xz8.N < 0)) || (decide (p6≤xz8.N))))) || ((decide (2 < xz8.Kind)) && (decide (xz8.N≠0))))) (e_pickT hF rfl rfl) (by rw [hb];rfl)) fun a hF=>?_
        exact key _ _ (hF.has ⟨rfl,rfl,rfl,rfl,trivial⟩) hS
      ·
        intro hb key
        replace hF:=Fr.as hF (t:=55) rfl (congrArg Value.bool hb)
        refine ls<|gy hF rfl rfl<|q1 hF rfl (e_move hF rfl) fun a hF=>?_
        refine ls<|gy hF rfl rfl<|q1 hF rfl (e_gtr hF rfl rfl) fun a hF=>?_
        refine ls<|gy hF rfl rfl<|q1 hF rfl (e_move hF rfl) fun a hF=>?_
        refine grp (N:=78) (Fk:=[(0,.slice oa2 p1.length cap3),(1,.int .i64 p6),(5,.int .i64 vB1),(55,.bool false),(61,.bool ((decide (2 < xz8.Kind)) && (decide (xz8.N≠0))))]) (b:=(decide (2 < xz8.Kind))) 3 hS ?_ ?_ ?_
        ·
          intro hb key
          replace hF:=Fr.as hF (t:=58) rfl (congrArg Value.bool hb)
          refine ls<|gy hF rfl rfl<|q1 hF rfl (e_move hF rfl) fun a hF=>?_
          refine ls<|gy hF rfl rfl<|q1 hF rfl (e_neq hF rfl rfl) fun a hF=>?_
          refine ls<|gy hF rfl rfl<|q1 hF rfl (e_as (v':=.bool ((decide (2 < xz8.Kind)) && (decide (xz8.N≠0)))) (e_pickT hF rfl rfl) (by rw [hb];rfl)) fun a hF=>?_
          exact key _ _ (hF.has ⟨rfl,rfl,rfl,rfl,rfl,trivial⟩) hS
        ·
          intro hb key
          replace hF:=Fr.as hF (t:=58) rfl (congrArg Value.bool hb)
          refine ls<|gn hF rfl rfl rfl rfl fun a hF=>?_
          refine ls<|gn hF rfl rfl rfl rfl fun a hF=>?_
          refine ls<|gy hF rfl rfl<|q1 hF rfl (e_as (v':=.bool ((decide (2 < xz8.Kind)) && (decide (xz8.N≠0)))) (e_pickF hF rfl rfl) (by rw [hb];rfl)) fun a hF=>?_
          exact key _ _ (hF.has ⟨rfl,rfl,rfl,rfl,rfl,trivial⟩) hS
        intro a w hF hS
        refine ls<|q1 hF rfl (e_as (v':=.bool (((((decide (xz8.Kind < 1)) || (decide (15 < xz8.Kind))) || ((decide (xz8.Kind=1)) && ((decide (xz8.N < 0)) || (decide (4294967296 < xz8.N))))) || ((decide (xz8.Kind=2)) && ((decide (xz8.N < 0)) || (decide (p6≤xz8.N))))) || ((decide (2 < xz8.Kind)) && (decide (xz8.N≠0))))) (e_pickF hF rfl rfl) (by rw [hb];rfl)) fun a hF=>?_
        exact key _ _ (hF.has ⟨rfl,rfl,rfl,rfl,trivial⟩) hS
      intro a w hF hS
      refine re<|?_
      rcases bdich (((((decide (xz8.Kind < 1)) || (decide (15 < xz8.Kind))) || ((decide (xz8.Kind=1)) && ((decide (xz8.N < 0)) || (decide (4294967296 < xz8.N))))) || ((decide (xz8.Kind=2)) && ((decide (xz8.N < 0)) || (decide (p6≤xz8.N))))) || ((decide (2 < xz8.Kind)) && (decide (xz8.N≠0)))) with hb13 | hb13
      ·
        replace hm:=ite_t hm hb13
        refine tn<|ctv hF rfl hb13<|th<|?_
        refine rg<|?_
        refine ls<|q1 hF rfl (e_asg hF rfl) fun a hF=>?_
        refine re<|?_
        refine tn<|?_
        refine wr<|br<|tr<|tr<|br<|tr<|?_
        obtain rfl:=Option.some.inj hm
        exact r1 hF Tryz.results71 rfl ⟨rfl,hS.keep⟩
      ·
        replace hm:=ite_f hm hb13
        refine tn<|cfv hF rfl hb13<|wk<|?_
        refine bn<|tn<|?_
        refine rg<|?_
        refine ls<|q1 hF rfl (e_move hF rfl) fun a hF=>?_
        refine ls<|q1 hF rfl (e_add hF rfl rfl) fun a hF=>?_
        refine ls<|q1 hF rfl (e_asg hF rfl) fun a hF=>?_
        refine re<|?_
        refine tn<|?_
        exact ⟨(nn2,(IntKind.i64.wrap (vB1+1))),⟨hm,hF.has ⟨rfl,rfl,rfl,trivial⟩,hS⟩,Nat.lt_succ_self _⟩
    ·
      replace hm:=itp_f hm hb7
      refine tn<|cfv hF rfl hb7<|?_
      refine we<|tx<|tx<|bx<|?_
      refine tn<|?_
      exact ⟨hm,hF.has ⟨rfl,trivial⟩,hS⟩
  clear hm hF hS
  rintro a w ⟨hm,hF,hS⟩
  unfold Z1w at hm
  refine th<|?_
  rcases bdich ((decide (1≤(p1.length:Int))) && (decide ((p1.length:Int)≤40))) with hb14 | hb14
  ·
    replace hm:=ite_t hm hb14
    replace hm:=bind_some hm
    obtain ⟨r15,h16,hm⟩:=hm
    refine rg<|?_
    refine ls<|q1 hF rfl (e_move hF rfl) fun a hF=>?_
    refine ls<|q1 hF rfl (e_lenL (α:=api_Op) (xs:=p1) hF Tryz.runUnderlying54 rfl) fun a hF=>?_
    refine ls<|q1 hF rfl (e_geq hF rfl rfl) fun a hF=>?_
    refine ls<|q1 hF rfl (e_move hF rfl) fun a hF=>?_
    refine grp (N:=78) (Fk:=[(0,.slice oa2 p1.length cap3),(70,.bool ((decide (1≤(p1.length:Int))) && (decide ((p1.length:Int)≤40))))]) (b:=(decide (1≤(p1.length:Int)))) 4 hS ?_ ?_ ?_
    ·
      intro hb key
      replace hF:=Fr.as hF (t:=66) rfl (congrArg Value.bool hb)
      refine ls<|gy hF rfl rfl<|q1 hF rfl (e_move hF rfl) fun a hF=>?_
      refine ls<|gy hF rfl rfl<|q1 hF rfl (e_lenL (α:=api_Op) (xs:=p1) hF Tryz.runUnderlying54 rfl) fun a hF=>?_
      refine ls<|gy hF rfl rfl<|q1 hF rfl (e_leq hF rfl rfl) fun a hF=>?_
      refine ls<|q1 hF rfl (e_as (v':=.bool ((decide (1≤(p1.length:Int))) && (decide ((p1.length:Int)≤40)))) (e_pickT hF rfl rfl) (by rw [hb];rfl)) fun a hF=>?_
      exact key _ _ (hF.has ⟨rfl,rfl,trivial⟩) hS
    ·
      intro hb key
      replace hF:=Fr.as hF (t:=66) rfl (congrArg Value.bool hb)
      refine ls<|gn hF rfl rfl rfl rfl fun a hF=>?_
      refine ls<|gn hF rfl rfl rfl rfl fun a hF=>?_
      refine ls<|gn hF rfl rfl rfl rfl fun a hF=>?_
      refine ls<|q1 hF rfl (e_as (v':=.bool ((decide (1≤(p1.length:Int))) && (decide ((p1.length:Int)≤40)))) (e_pickF hF rfl rfl) (by rw [hb];rfl)) fun a hF=>?_
      exact key _ _ (hF.has ⟨rfl,rfl,trivial⟩) hS
    intro a w hF hS
    refine ls<|q1 hF rfl (e_as (e_move hF rfl) (congrArg Value.bool hb14)) fun a hF=>?_
    refine ls<|gy hF rfl rfl<|q1 hF rfl (e_move hF rfl) fun a hF=>?_
    refine ls<|gy hF rfl rfl<|q1 hF rfl (e_move hF rfl) fun a hF=>?_
    refine ls<|gy hF rfl rfl<|q1 hF rfl (e_lenL (α:=api_Op) (xs:=p1) hF Tryz.runUnderlying54 rfl) fun a hF=>?_
    refine ls<|gy hF rfl rfl<|c1 hF rfl Tryz.call115 (Z21_c (hp_le _) hc4 (St.srH hS hr5) h16) ⟨rfl,rfl,trivial⟩ (fun v w a hR hF=>?_)
    obtain ⟨rfl,hk⟩:=hR
    replace hS:=hS.pass hk
    clear hk
    refine ls<|gy hF rfl rfl<|q1 hF rfl (e_eql hF rfl rfl) fun a hF=>?_
    refine ls<|q1 hF rfl (e_pickT hF rfl rfl) fun a hF=>?_
    refine ls<|q1 hF rfl (e_asg hF rfl) fun a hF=>?_
    refine re<|?_
    refine tn<|?_
    refine wr<|?_
    obtain rfl:=Option.some.inj hm
    exact r1 hF Tryz.results71 rfl ⟨rfl,hS.keep⟩
  ·
    replace hm:=ite_f hm hb14
    refine rg<|?_
    refine ls<|q1 hF rfl (e_move hF rfl) fun a hF=>?_
    refine ls<|q1 hF rfl (e_lenL (α:=api_Op) (xs:=p1) hF Tryz.runUnderlying54 rfl) fun a hF=>?_
    refine ls<|q1 hF rfl (e_geq hF rfl rfl) fun a hF=>?_
    refine ls<|q1 hF rfl (e_move hF rfl) fun a hF=>?_
    refine grp (N:=78) (Fk:=[(0,.slice oa2 p1.length cap3),(70,.bool ((decide (1≤(p1.length:Int))) && (decide ((p1.length:Int)≤40))))]) (b:=(decide (1≤(p1.length:Int)))) 4 hS ?_ ?_ ?_
    ·
      intro hb key
      replace hF:=Fr.as hF (t:=66) rfl (congrArg Value.bool hb)
      refine ls<|gy hF rfl rfl<|q1 hF rfl (e_move hF rfl) fun a hF=>?_
      refine ls<|gy hF rfl rfl<|q1 hF rfl (e_lenL (α:=api_Op) (xs:=p1) hF Tryz.runUnderlying54 rfl) fun a hF=>?_
      refine ls<|gy hF rfl rfl<|q1 hF rfl (e_leq hF rfl rfl) fun a hF=>?_
      refine ls<|q1 hF rfl (e_as (v':=.bool ((decide (1≤(p1.length:Int))) && (decide ((p1.length:Int)≤40)))) (e_pickT hF rfl rfl) (by rw [hb];rfl)) fun a hF=>?_
      exact key _ _ (hF.has ⟨rfl,rfl,trivial⟩) hS
    ·
      intro hb key
      replace hF:=Fr.as hF (t:=66) rfl (congrArg Value.bool hb)
      refine ls<|gn hF rfl rfl rfl rfl fun a hF=>?_
      refine ls<|gn hF rfl rfl rfl rfl fun a hF=>?_
      refine ls<|gn hF rfl rfl rfl rfl fun a hF=>?_
      refine ls<|q1 hF rfl (e_as (v':=.bool ((decide (1≤(p1.length:Int))) && (decide ((p1.length:Int)≤40)))) (e_pickF hF rfl rfl) (by rw [hb];rfl)) fun a hF=>?_
      exact key _ _ (hF.has ⟨rfl,rfl,trivial⟩) hS
    intro a w hF hS
    refine ls<|q1 hF rfl (e_as (e_move hF rfl) (congrArg Value.bool hb14)) fun a hF=>?_
    refine ls<|gn hF rfl rfl rfl rfl fun a hF=>?_
    refine ls<|gn hF rfl rfl rfl rfl fun a hF=>?_
    refine ls<|gn hF rfl rfl rfl rfl fun a hF=>?_
    refine ls<|gn hF rfl rfl rfl rfl fun a hF=>?_
    refine ls<|gn hF rfl rfl rfl rfl fun a hF=>?_
    refine ls<|q1 hF rfl (e_pickF hF rfl rfl) fun a hF=>?_
    refine ls<|q1 hF rfl (e_asg hF rfl) fun a hF=>?_
    refine re<|?_
    refine tn<|?_
    refine wr<|?_
    obtain rfl:=Option.some.inj hm
    exact r1 hF Tryz.results71 rfl ⟨rfl,hS.keep⟩
set_option maxHeartbeats 4000000 in
set_option maxRecDepth 100000 in
theorem Z2w_c {N:Nat} {w0:World} {H:PH} (hH:H.le w0) {cs2:List Value} {p1:api_Instr} (g3:Enc.rep H cs2 p1) {cs5:List Value} {p4:api_Code} (g6:Enc.rep H cs5 p4) {p7:Int} {p8:Int} {p9:Int} {r:Bool} (hm:Z2w N p1 p4 p7 p8 p9=some r):Tot Tryz.prog 112 #[.agg cs2.toArray,.agg cs5.toArray,.int .i64 p7,.int .i64 p8,.int .i64 p9] w0 (fun v w'=>v=.bool r∧Keep Nil w0 w'):=by
  unfold Z2w at hm
  refine fn0 (args:=[.agg cs2.toArray,.agg cs5.toArray,.int .i64 p7,.int .i64 p8,.int .i64 p9]) (F:=[(0,.agg cs2.toArray),(1,.agg cs5.toArray),(2,.int .i64 p7),(3,.int .i64 p8),(4,.int .i64 p9)]) Tryz.func112 rfl Tryz.ntmps112 rfl rfl fun a hF=>?_
  have hS:St w0 Nil [H] [] w0:=start1 hH
  obtain ⟨oa10,cap11,oa14,cap15,rfl,hc12,hr13,hc16,hr17⟩:=api_Instr_open g3
  obtain ⟨oa18,cap19,rfl,hc20,hr21⟩:=api_Code_open g6
  refine th<|?_
  refine rg<|?_
  refine ls<|a_box (cs:=[.int .i64 p1.Kind,.int .i64 p1.A,.int .i64 p1.B,.slice oa10 p1.E.length cap11,.slice oa14 p1.F.length cap15,.int .i64 p1.To].toArray) hF rfl hS rfl rfl fun b22 w a hS hF=>?_
  refine ls<|a_box (cs:=[.int .i64 p4.Regs,.int .i64 p4.Counts,.slice oa18 p4.L.length cap19].toArray) hF rfl hS rfl rfl fun b23 w a hS hF=>?_
  refine ls<|q1 hF rfl (e_asg hF rfl) fun a hF=>?_
  refine re<|?_
  refine tn<|th<|?_
  refine rg<|?_
  refine ls<|q1 hF rfl (e_fa hF fa85_0 rfl) fun a hF=>?_
  refine ls<|q1 hF rfl (e_ld hF Tryz.isAgg3 rfl ((St.ld hS).cellB (.tail _ (.head _)) rfl)) fun a hF=>?_
  refine ls<|q1 hF rfl (e_asg hF rfl) fun a hF=>?_
  refine re<|?_
  refine tn<|th<|?_
  refine rxS 8 hS wide (by kernel_rfl) fun w hS=>?_
  refine x1 (St.ld hS) hF rfl rfl (fun _ _ _ h=>h) (fun w hl=>(e_fa hF fa85_1 rfl)) fun a hF=>?_
  refine x1 (St.ld hS) hF rfl rfl (fun _ _ _ h=>h) (fun w hl=>(e_ld hF Tryz.isAgg3 rfl (hl.cellB (.tail _ (.head _)) rfl))) fun a hF=>?_
  refine x1 (St.ld hS) hF rfl rfl (fun _ _ _ h=>h) (fun w hl=>(e_eql hF rfl rfl)) fun a hF=>?_
  refine x1 (St.ld hS) hF rfl rfl (fun _ _ _ h=>h) (fun w hl=>(e_fa hF fa85_2 rfl)) fun a hF=>?_
  refine x1 (St.ld hS) hF rfl rfl (fun _ _ _ h=>h) (fun w hl=>(e_ld hF Tryz.isAgg3 rfl (hl.cellB (.tail _ (.head _)) rfl))) fun a hF=>?_
  refine x1 (St.ld hS) hF rfl rfl (fun _ _ _ h=>h) (fun w hl=>(e_eql hF rfl rfl)) fun a hF=>?_
  refine x1 (St.ld hS) hF rfl rfl (fun _ _ _ h=>h) (fun w hl=>(e_asg hF rfl)) fun a hF=>?_
  refine x1 (St.ld hS) hF rfl rfl (fun _ _ _ h=>h) (fun w hl=>(e_asg hF rfl)) fun a hF=>?_
  refine xe<|?_
  refine tn<|th<|?_
  refine rg<|?_
  refine ls<|q1 hF rfl (e_move hF rfl) fun a hF=>?_
  refine ls<|q1 hF rfl (e_eql hF rfl rfl) fun a hF=>?_
  refine ls<|q1 hF rfl (e_move hF rfl) fun a hF=>?_
  refine grp (N:=153) (Fk:=[(2,.int .i64 p7),(3,.int .i64 p8),(4,.int .i64 p9),(5,.pointer (some ⟨b22,0,none⟩)),(6,.pointer (some ⟨b23,0,none⟩)),(11,.int .i64 p1.Kind),(12,.bool (decide (p1.A=0))),(13,.bool (decide (p1.B=0))),(28,.bool ((decide (p1.Kind=1)) || (decide (p1.Kind=3))))]) (b:=(decide (p1.Kind=1))) 3 hS ?_ ?_ ?_
  ·
    intro hb key
    replace hF:=Fr.as hF (t:=25) rfl (congrArg Value.bool hb)
    refine ls<|gn hF rfl rfl rfl rfl fun a hF=>?_
    refine ls<|gn hF rfl rfl rfl rfl fun a hF=>?_
    refine ls<|q1 hF rfl (e_as (v':=.bool ((decide (p1.Kind=1)) || (decide (p1.Kind=3)))) (e_pickT hF rfl rfl) (by rw [hb];rfl)) fun a hF=>?_
    exact key _ _ (hF.has ⟨rfl,rfl,rfl,rfl,rfl,rfl,rfl,rfl,rfl,trivial⟩) hS
  ·
    intro hb key
    replace hF:=Fr.as hF (t:=25) rfl (congrArg Value.bool hb)
    refine ls<|gy hF rfl rfl<|q1 hF rfl (e_move hF rfl) fun a hF=>?_
    refine ls<|gy hF rfl rfl<|q1 hF rfl (e_eql hF rfl rfl) fun a hF=>?_
    refine ls<|q1 hF rfl (e_as (v':=.bool ((decide (p1.Kind=1)) || (decide (p1.Kind=3)))) (e_pickF hF rfl rfl) (by rw [hb];rfl)) fun a hF=>?_
    exact key _ _ (hF.has ⟨rfl,rfl,rfl,rfl,rfl,rfl,rfl,rfl,rfl,trivial⟩) hS
  intro a w hF hS
  refine ls<|q1 hF rfl (e_move hF rfl) fun a hF=>?_
  refine grp (N:=153) (Fk:=[(2,.int .i64 p7),(3,.int .i64 p8),(4,.int .i64 p9),(5,.pointer (some ⟨b22,0,none⟩)),(6,.pointer (some ⟨b23,0,none⟩)),(11,.int .i64 p1.Kind),(12,.bool (decide (p1.A=0))),(13,.bool (decide (p1.B=0))),(32,.bool (((decide (p1.Kind=1)) || (decide (p1.Kind=3))) || (decide (p1.Kind=4))))]) (b:=((decide (p1.Kind=1)) || (decide (p1.Kind=3)))) 3 hS ?_ ?_ ?_
  ·
    intro hb key
    replace hF:=Fr.as hF (t:=29) rfl (congrArg Value.bool hb)
    refine ls<|gn hF rfl rfl rfl rfl fun a hF=>?_
    refine ls<|gn hF rfl rfl rfl rfl fun a hF=>?_
    refine ls<|q1 hF rfl (e_as (v':=.bool (((decide (p1.Kind=1)) || (decide (p1.Kind=3))) || (decide (p1.Kind=4)))) (e_pickT hF rfl rfl) (by rw [hb];rfl)) fun a hF=>?_
    exact key _ _ (hF.has ⟨rfl,rfl,rfl,rfl,rfl,rfl,rfl,rfl,rfl,trivial⟩) hS
  ·
    intro hb key
    replace hF:=Fr.as hF (t:=29) rfl (congrArg Value.bool hb)
    refine ls<|gy hF rfl rfl<|q1 hF rfl (e_move hF rfl) fun a hF=>?_
    refine ls<|gy hF rfl rfl<|q1 hF rfl (e_eql hF rfl rfl) fun a hF=>?_
    refine ls<|q1 hF rfl (e_as (v':=.bool (((decide (p1.Kind=1)) || (decide (p1.Kind=3))) || (decide (p1.Kind=4)))) (e_pickF hF rfl rfl) (by rw [hb];rfl)) fun a hF=>?_
    exact key _ _ (hF.has ⟨rfl,rfl,rfl,rfl,rfl,rfl,rfl,rfl,rfl,trivial⟩) hS
  intro a w hF hS
  refine ls<|q1 hF rfl (e_move hF rfl) fun a hF=>?_
  refine grp (N:=153) (Fk:=[(2,.int .i64 p7),(3,.int .i64 p8),(4,.int .i64 p9),(5,.pointer (some ⟨b22,0,none⟩)),(6,.pointer (some ⟨b23,0,none⟩)),(11,.int .i64 p1.Kind),(12,.bool (decide (p1.A=0))),(13,.bool (decide (p1.B=0))),(36,.bool ((((decide (p1.Kind=1)) || (decide (p1.Kind=3))) || (decide (p1.Kind=4))) || (decide (p1.Kind=12))))]) (b:=(((decide (p1.Kind=1)) || (decide (p1.Kind=3))) || (decide (p1.Kind=4)))) 3 hS ?_ ?_ ?_
  ·
    intro hb key
    replace hF:=Fr.as hF (t:=33) rfl (congrArg Value.bool hb)
    refine ls<|gn hF rfl rfl rfl rfl fun a hF=>?_
    refine ls<|gn hF rfl rfl rfl rfl fun a hF=>?_
    refine ls<|q1 hF rfl (e_as (v':=.bool ((((decide (p1.Kind=1)) || (decide (p1.Kind=3))) || (decide (p1.Kind=4))) || (decide (p1.Kind=12)))) (e_pickT hF rfl rfl) (by rw [hb];rfl)) fun a hF=>?_
    exact key _ _ (hF.has ⟨rfl,rfl,rfl,rfl,rfl,rfl,rfl,rfl,rfl,trivial⟩) hS
  ·
    intro hb key
    replace hF:=Fr.as hF (t:=33) rfl (congrArg Value.bool hb)
    refine ls<|gy hF rfl rfl<|q1 hF rfl (e_move hF rfl) fun a hF=>?_
    refine ls<|gy hF rfl rfl<|q1 hF rfl (e_eql hF rfl rfl) fun a hF=>?_
    refine ls<|q1 hF rfl (e_as (v':=.bool ((((decide (p1.Kind=1)) || (decide (p1.Kind=3))) || (decide (p1.Kind=4))) || (decide (p1.Kind=12)))) (e_pickF hF rfl rfl) (by rw [hb];rfl)) fun a hF=>?_
    exact key _ _ (hF.has ⟨rfl,rfl,rfl,rfl,rfl,rfl,rfl,rfl,rfl,trivial⟩) hS
  intro a w hF hS
  refine ls<|q1 hF rfl (e_move hF rfl) fun a hF=>?_
  refine grp (N:=153) (Fk:=[(2,.int .i64 p7),(3,.int .i64 p8),(4,.int .i64 p9),(5,.pointer (some ⟨b22,0,none⟩)),(6,.pointer (some ⟨b23,0,none⟩)),(11,.int .i64 p1.Kind),(12,.bool (decide (p1.A=0))),(13,.bool (decide (p1.B=0))),(40,.bool (((((decide (p1.Kind=1)) || (decide (p1.Kind=3))) || (decide (p1.Kind=4))) || (decide (p1.Kind=12))) || (decide (p1.Kind=15))))]) (b:=((((decide (p1.Kind=1)) || (decide (p1.Kind=3))) || (decide (p1.Kind=4))) || (decide (p1.Kind=12)))) 3 hS ?_ ?_ ?_
  ·
    intro hb key
    replace hF:=Fr.as hF (t:=37) rfl (congrArg Value.bool hb)
    refine ls<|gn hF rfl rfl rfl rfl fun a hF=>?_
    refine ls<|gn hF rfl rfl rfl rfl fun a hF=>?_
    refine ls<|q1 hF rfl (e_as (v':=.bool (((((decide (p1.Kind=1)) || (decide (p1.Kind=3))) || (decide (p1.Kind=4))) || (decide (p1.Kind=12))) || (decide (p1.Kind=15)))) (e_pickT hF rfl rfl) (by rw [hb];rfl)) fun a hF=>?_
    exact key _ _ (hF.has ⟨rfl,rfl,rfl,rfl,rfl,rfl,rfl,rfl,rfl,trivial⟩) hS
  ·
    intro hb key
    replace hF:=Fr.as hF (t:=37) rfl (congrArg Value.bool hb)
    refine ls<|gy hF rfl rfl<|q1 hF rfl (e_move hF rfl) fun a hF=>?_
    refine ls<|gy hF rfl rfl<|q1 hF rfl (e_eql hF rfl rfl) fun a hF=>?_
    refine ls<|q1 hF rfl (e_as (v':=.bool (((((decide (p1.Kind=1)) || (decide (p1.Kind=3))) || (decide (p1.Kind=4))) || (decide (p1.Kind=12))) || (decide (p1.Kind=15)))) (e_pickF hF rfl rfl) (by rw [hb];rfl)) fun a hF=>?_
    exact key _ _ (hF.has ⟨rfl,rfl,rfl,rfl,rfl,rfl,rfl,rfl,rfl,trivial⟩) hS
  intro a w hF hS
  refine ls<|q1 hF rfl (e_asg hF rfl) fun a hF=>?_
  refine re<|?_
  refine tn<|th<|th<|?_
  refine rg<|?_
  refine ls<|q1 hF rfl (e_move hF rfl) fun a hF=>?_
  refine ls<|q1 hF rfl (e_eql hF rfl rfl) fun a hF=>?_
  refine ls<|q1 hF rfl (e_move hF rfl) fun a hF=>?_
  refine grp (N:=153) (Fk:=[(2,.int .i64 p7),(3,.int .i64 p8),(4,.int .i64 p9),(5,.pointer (some ⟨b22,0,none⟩)),(6,.pointer (some ⟨b23,0,none⟩)),(11,.int .i64 p1.Kind),(12,.bool (decide (p1.A=0))),(13,.bool (decide (p1.B=0))),(14,.bool (((((decide (p1.Kind=1)) || (decide (p1.Kind=3))) || (decide (p1.Kind=4))) || (decide (p1.Kind=12))) || (decide (p1.Kind=15)))),(46,.bool ((decide (p1.Kind=1)) || (decide (p1.Kind=2))))]) (b:=(decide (p1.Kind=1))) 3 hS ?_ ?_ ?_
  ·
    intro hb key
    replace hF:=Fr.as hF (t:=43) rfl (congrArg Value.bool hb)
    refine ls<|gn hF rfl rfl rfl rfl fun a hF=>?_
    refine ls<|gn hF rfl rfl rfl rfl fun a hF=>?_
    refine ls<|q1 hF rfl (e_as (v':=.bool ((decide (p1.Kind=1)) || (decide (p1.Kind=2)))) (e_pickT hF rfl rfl) (by rw [hb];rfl)) fun a hF=>?_
    exact key _ _ (hF.has ⟨rfl,rfl,rfl,rfl,rfl,rfl,rfl,rfl,rfl,rfl,trivial⟩) hS
  ·
    intro hb key
    replace hF:=Fr.as hF (t:=43) rfl (congrArg Value.bool hb)
    refine ls<|gy hF rfl rfl<|q1 hF rfl (e_move hF rfl) fun a hF=>?_
    refine ls<|gy hF rfl rfl<|q1 hF rfl (e_eql hF rfl rfl) fun a hF=>?_
    refine ls<|q1 hF rfl (e_as (v':=.bool ((decide (p1.Kind=1)) || (decide (p1.Kind=2)))) (e_pickF hF rfl rfl) (by rw [hb];rfl)) fun a hF=>?_
    exact key _ _ (hF.has ⟨rfl,rfl,rfl,rfl,rfl,rfl,rfl,rfl,rfl,rfl,trivial⟩) hS
  intro a w hF hS
  refine ls<|q1 hF rfl (e_move hF rfl) fun a hF=>?_
  refine grp (N:=153) (Fk:=[(2,.int .i64 p7),(3,.int .i64 p8),(4,.int .i64 p9),(5,.pointer (some ⟨b22,0,none⟩)),(6,.pointer (some ⟨b23,0,none⟩)),(11,.int .i64 p1.Kind),(12,.bool (decide (p1.A=0))),(13,.bool (decide (p1.B=0))),(14,.bool (((((decide (p1.Kind=1)) || (decide (p1.Kind=3))) || (decide (p1.Kind=4))) || (decide (p1.Kind=12))) || (decide (p1.Kind=15)))),(50,.bool (((decide (p1.Kind=1)) || (decide (p1.Kind=2))) || (decide (p1.Kind=4))))]) (b:=((decide (p1.Kind=1)) || (decide (p1.Kind=2)))) 3 hS ?_ ?_ ?_
  ·
    intro hb key
    replace hF:=Fr.as hF (t:=47) rfl (congrArg Value.bool hb)
    refine ls<|gn hF rfl rfl rfl rfl fun a hF=>?_
    refine ls<|gn hF rfl rfl rfl rfl fun a hF=>?_
    refine ls<|q1 hF rfl (e_as (v':=.bool (((decide (p1.Kind=1)) || (decide (p1.Kind=2))) || (decide (p1.Kind=4)))) (e_pickT hF rfl rfl) (by rw [hb];rfl)) fun a hF=>?_
    exact key _ _ (hF.has ⟨rfl,rfl,rfl,rfl,rfl,rfl,rfl,rfl,rfl,rfl,trivial⟩) hS
  ·
    intro hb key
    replace hF:=Fr.as hF (t:=47) rfl (congrArg Value.bool hb)
    refine ls<|gy hF rfl rfl<|q1 hF rfl (e_move hF rfl) fun a hF=>?_
    refine ls<|gy hF rfl rfl<|q1 hF rfl (e_eql hF rfl rfl) fun a hF=>?_
    refine ls<|q1 hF rfl (e_as (v':=.bool (((decide (p1.Kind=1)) || (decide (p1.Kind=2))) || (decide (p1.Kind=4)))) (e_pickF hF rfl rfl) (by rw [hb];rfl)) fun a hF=>?_
    exact key _ _ (hF.has ⟨rfl,rfl,rfl,rfl,rfl,rfl,rfl,rfl,rfl,rfl,trivial⟩) hS
  intro a w hF hS
  refine re<|?_
  refine tn<|midK (fun a w=>∃ (vA1:Bool),(Z2x N p1 p4 p7 p8 p9) vA1=some r∧Fr 153 [(2,.int .i64 p7),(3,.int .i64 p8),(4,.int .i64 p9),(5,.pointer (some ⟨b22,0,none⟩)),(6,.pointer (some ⟨b23,0,none⟩)),(11,.int .i64 p1.Kind),(12,.bool vA1),(13,.bool (decide (p1.B=0))),(14,.bool (((((decide (p1.Kind=1)) || (decide (p1.Kind=3))) || (decide (p1.Kind=4))) || (decide (p1.Kind=12))) || (decide (p1.Kind=15))))] a∧St w0 Nil [H] [blk b22 (.cells [.int .i64 p1.Kind,.int .i64 p1.A,.int .i64 p1.B,.slice oa10 p1.E.length cap11,.slice oa14 p1.F.length cap15,.int .i64 p1.To].toArray 85 (0,0)),blk b23 (.cells [.int .i64 p4.Regs,.int .i64 p4.Counts,.slice oa18 p4.L.length cap19].toArray 26 (0,0))] w) ?_ ?_
  ·
    rcases bdich (((decide (p1.Kind=1)) || (decide (p1.Kind=2))) || (decide (p1.Kind=4))) with hb24 | hb24
    ·
      replace hm:=ite_t hm hb24
      refine ctv hF rfl hb24<|?_
      replace hm:=bind_some hm
      obtain ⟨r25,h26,hm⟩:=hm
      refine rg<|?_
      refine ls<|q1 hF rfl (e_fa hF fa85_1 rfl) fun a hF=>?_
      refine ls<|q1 hF rfl (e_ld hF Tryz.isAgg3 rfl ((St.ld hS).cellB (.tail _ (.head _)) rfl)) fun a hF=>?_
      refine ls<|q1 hF rfl (e_fa hF fa26_0 rfl) fun a hF=>?_
      refine ls<|q1 hF rfl (e_ld hF Tryz.isAgg3 rfl ((St.ld hS).cellB (.head _) rfl)) fun a hF=>?_
      refine ls<|c1 hF rfl Tryz.call134 (Z34_c (hp_le _) h26) ⟨rfl,rfl,trivial⟩ (fun v w a hR hF=>?_)
      obtain ⟨rfl,hk⟩:=hR
      replace hS:=hS.pass hk
      clear hk
      refine ls<|q1 hF rfl (e_asg hF rfl) fun a hF=>?_
      refine re<|?_
      refine tn<|?_
      replace hS:=hS.pickL (.cons (.tail .head) (.cons .head .nil))
      exact ⟨r25,hm,hF.has ⟨rfl,rfl,rfl,rfl,rfl,rfl,rfl,rfl,rfl,trivial⟩,hS⟩
    ·
      replace hm:=ite_f hm hb24
      refine cfv hF rfl hb24<|wk<|?_
      refine tn<|?_
      replace hS:=hS.pickL (.cons (.tail .head) (.cons .head .nil))
      exact ⟨(decide (p1.A=0)),hm,hF.has ⟨rfl,rfl,rfl,rfl,rfl,rfl,rfl,rfl,rfl,trivial⟩,hS⟩
  clear hm hF hS
  rintro a w ⟨vA1,hm,hF,hS⟩
  unfold Z2x at hm
  refine th<|th<|?_
  refine rg<|?_
  refine ls<|q1 hF rfl (e_move hF rfl) fun a hF=>?_
  refine ls<|q1 hF rfl (e_eql hF rfl rfl) fun a hF=>?_
  refine ls<|q1 hF rfl (e_move hF rfl) fun a hF=>?_
  refine grp (N:=153) (Fk:=[(2,.int .i64 p7),(3,.int .i64 p8),(4,.int .i64 p9),(5,.pointer (some ⟨b22,0,none⟩)),(6,.pointer (some ⟨b23,0,none⟩)),(11,.int .i64 p1.Kind),(12,.bool vA1),(13,.bool (decide (p1.B=0))),(14,.bool (((((decide (p1.Kind=1)) || (decide (p1.Kind=3))) || (decide (p1.Kind=4))) || (decide (p1.Kind=12))) || (decide (p1.Kind=15)))),(61,.bool ((decide (p1.Kind=13)) || (decide (p1.Kind=14))))]) (b:=(decide (p1.Kind=13))) 3 hS ?_ ?_ ?_
  ·
    intro hb key
    replace hF:=Fr.as hF (t:=58) rfl (congrArg Value.bool hb)
    refine ls<|gn hF rfl rfl rfl rfl fun a hF=>?_
    refine ls<|gn hF rfl rfl rfl rfl fun a hF=>?_
    refine ls<|q1 hF rfl (e_as (v':=.bool ((decide (p1.Kind=13)) || (decide (p1.Kind=14)))) (e_pickT hF rfl rfl) (by rw [hb];rfl)) fun a hF=>?_
    exact key _ _ (hF.has ⟨rfl,rfl,rfl,rfl,rfl,rfl,rfl,rfl,rfl,rfl,trivial⟩) hS
  ·
    intro hb key
    replace hF:=Fr.as hF (t:=58) rfl (congrArg Value.bool hb)
    refine ls<|gy hF rfl rfl<|q1 hF rfl (e_move hF rfl) fun a hF=>?_
    refine ls<|gy hF rfl rfl<|q1 hF rfl (e_eql hF rfl rfl) fun a hF=>?_
    refine ls<|q1 hF rfl (e_as (v':=.bool ((decide (p1.Kind=13)) || (decide (p1.Kind=14)))) (e_pickF hF rfl rfl) (by rw [hb];rfl)) fun a hF=>?_
    exact key _ _ (hF.has ⟨rfl,rfl,rfl,rfl,rfl,rfl,rfl,rfl,rfl,rfl,trivial⟩) hS
  intro a w hF hS
  refine re<|?_
  refine tn<|midK (fun a w=>∃ (vA2:Bool),(Z2y N p1 p4 p7 p8 p9) vA2=some r∧Fr 153 [(2,.int .i64 p7),(3,.int .i64 p8),(4,.int .i64 p9),(5,.pointer (some ⟨b22,0,none⟩)),(6,.pointer (some ⟨b23,0,none⟩)),(11,.int .i64 p1.Kind),(12,.bool vA2),(13,.bool (decide (p1.B=0))),(14,.bool (((((decide (p1.Kind=1)) || (decide (p1.Kind=3))) || (decide (p1.Kind=4))) || (decide (p1.Kind=12))) || (decide (p1.Kind=15))))] a∧St w0 Nil [H] [blk b22 (.cells [.int .i64 p1.Kind,.int .i64 p1.A,.int .i64 p1.B,.slice oa10 p1.E.length cap11,.slice oa14 p1.F.length cap15,.int .i64 p1.To].toArray 85 (0,0)),blk b23 (.cells [.int .i64 p4.Regs,.int .i64 p4.Counts,.slice oa18 p4.L.length cap19].toArray 26 (0,0))] w) ?_ ?_
  ·
    rcases bdich ((decide (p1.Kind=13)) || (decide (p1.Kind=14))) with hb27 | hb27
    ·
      replace hm:=ite_t hm hb27
      refine ctv hF rfl hb27<|?_
      replace hm:=bind_some hm
      obtain ⟨r28,h29,hm⟩:=hm
      refine rg<|?_
      refine ls<|q1 hF rfl (e_fa hF fa85_1 rfl) fun a hF=>?_
      refine ls<|q1 hF rfl (e_ld hF Tryz.isAgg3 rfl ((St.ld hS).cellB (.head _) rfl)) fun a hF=>?_
      refine ls<|q1 hF rfl (e_fa hF fa26_1 rfl) fun a hF=>?_
      refine ls<|q1 hF rfl (e_ld hF Tryz.isAgg3 rfl ((St.ld hS).cellB (.tail _ (.head _)) rfl)) fun a hF=>?_
      refine ls<|c1 hF rfl Tryz.call134 (Z34_c (hp_le _) h29) ⟨rfl,rfl,trivial⟩ (fun v w a hR hF=>?_)
      obtain ⟨rfl,hk⟩:=hR
      replace hS:=hS.pass hk
      clear hk
      refine ls<|q1 hF rfl (e_asg hF rfl) fun a hF=>?_
      refine re<|?_
      refine tn<|?_
      exact ⟨r28,hm,hF.has ⟨rfl,rfl,rfl,rfl,rfl,rfl,rfl,rfl,rfl,trivial⟩,hS⟩
    ·
      replace hm:=ite_f hm hb27
      refine cfv hF rfl hb27<|wk<|?_
      refine tn<|?_
      exact ⟨vA1,hm,hF.has ⟨rfl,rfl,rfl,rfl,rfl,rfl,rfl,rfl,rfl,trivial⟩,hS⟩
  clear hm hF hS
  rintro a w ⟨vA2,hm,hF,hS⟩
  unfold Z2y at hm
  refine th<|th<|?_
  refine rg<|?_
  refine ls<|q1 hF rfl (e_move hF rfl) fun a hF=>?_
  refine re<|?_
  refine tn<|midK (fun a w=>∃ (vA3:Bool),(Z2z N p1 p4 vA2) vA3=some r∧Fr 153 [(5,.pointer (some ⟨b22,0,none⟩)),(6,.pointer (some ⟨b23,0,none⟩)),(11,.int .i64 p1.Kind),(12,.bool vA2),(13,.bool vA3),(14,.bool (((((decide (p1.Kind=1)) || (decide (p1.Kind=3))) || (decide (p1.Kind=4))) || (decide (p1.Kind=12))) || (decide (p1.Kind=15))))] a∧St w0 Nil [H] [blk b22 (.cells [.int .i64 p1.Kind,.int .i64 p1.A,.int .i64 p1.B,.slice oa10 p1.E.length cap11,.slice oa14 p1.F.length cap15,.int .i64 p1.To].toArray 85 (0,0)),blk b23 (.cells [.int .i64 p4.Regs,.int .i64 p4.Counts,.slice oa18 p4.L.length cap19].toArray 26 (0,0))] w) ?_ ?_
  ·
    refine wb<|th<|th<|?_
    refine rg<|?_
    refine ls<|q1 hF rfl (e_eql hF rfl rfl) fun a hF=>?_
    refine ls<|q1 hF rfl (e_asg hF rfl) fun a hF=>?_
    refine re<|?_
    refine tn<|midK (fun a w=>∃ (vB1:Bool),(Z30 N (Z2z N p1 p4 vA2) p1 p7 p8 p9) vB1=some r∧Fr 153 [(2,.int .i64 p7),(3,.int .i64 p8),(4,.int .i64 p9),(5,.pointer (some ⟨b22,0,none⟩)),(6,.pointer (some ⟨b23,0,none⟩)),(11,.int .i64 p1.Kind),(12,.bool vA2),(13,.bool (decide (p1.B=0))),(14,.bool (((((decide (p1.Kind=1)) || (decide (p1.Kind=3))) || (decide (p1.Kind=4))) || (decide (p1.Kind=12))) || (decide (p1.Kind=15)))),(67,.int .i64 p1.Kind),(68,.bool vB1)] a∧St w0 Nil [H] [blk b22 (.cells [.int .i64 p1.Kind,.int .i64 p1.A,.int .i64 p1.B,.slice oa10 p1.E.length cap11,.slice oa14 p1.F.length cap15,.int .i64 p1.To].toArray 85 (0,0)),blk b23 (.cells [.int .i64 p4.Regs,.int .i64 p4.Counts,.slice oa18 p4.L.length cap19].toArray 26 (0,0))] w) ?_ ?_
    ·
      rcases bdich (decide (p1.Kind=2)) with hb30 | hb30
      ·
        replace hm:=itp_t hm hb30
        refine ctv hF rfl hb30<|wk<|?_
        refine tn<|?_
        exact ⟨(decide (p1.Kind=2)),hm,hF.has ⟨rfl,rfl,rfl,rfl,rfl,rfl,rfl,rfl,rfl,rfl,rfl,trivial⟩,hS⟩
      ·
        replace hm:=itp_f hm hb30
        refine cfv hF rfl hb30<|th<|?_
        refine rg<|?_
        refine ls<|q1 hF rfl (e_eql hF rfl rfl) fun a hF=>?_
        refine ls<|q1 hF rfl (e_asg hF rfl) fun a hF=>?_
        refine re<|?_
        rcases bdich (decide (p1.Kind=3)) with hb31 | hb31
        ·
          replace hm:=itp_t hm hb31
          refine tn<|ctv hF rfl hb31<|wk<|?_
          refine tn<|?_
          exact ⟨(decide (p1.Kind=3)),hm,hF.has ⟨rfl,rfl,rfl,rfl,rfl,rfl,rfl,rfl,rfl,rfl,rfl,trivial⟩,hS⟩
        ·
          replace hm:=itp_f hm hb31
          refine tn<|cfv hF rfl hb31<|?_
          refine rg<|?_
          refine ls<|q1 hF rfl (e_eql hF rfl rfl) fun a hF=>?_
          refine ls<|q1 hF rfl (e_asg hF rfl) fun a hF=>?_
          refine re<|?_
          refine tn<|?_
          exact ⟨(decide (p1.Kind=4)),hm,hF.has ⟨rfl,rfl,rfl,rfl,rfl,rfl,rfl,rfl,rfl,rfl,rfl,trivial⟩,hS⟩
    clear hm hF hS
    rintro a w ⟨vB1,hm,hF,hS⟩
    unfold Z30 at hm
    rcases bdich vB1 with hb32 | hb32
    ·
      replace hm:=ite_t hm hb32
      refine ctv hF rfl hb32<|?_
      replace hm:=bind_some hm
      obtain ⟨r33,h34,hm⟩:=hm
      refine rg<|?_
      refine ls<|q1 hF rfl (e_fa hF fa85_2 rfl) fun a hF=>?_
      refine ls<|q1 hF rfl (e_ld hF Tryz.isAgg3 rfl ((St.ld hS).cellB (.head _) rfl)) fun a hF=>?_
      refine ls<|q1 hF rfl (e_move hF rfl) fun a hF=>?_
      refine ls<|c1 hF rfl Tryz.call134 (Z34_c (hp_le _) h34) ⟨rfl,rfl,trivial⟩ (fun v w a hR hF=>?_)
      obtain ⟨rfl,hk⟩:=hR
      replace hS:=hS.pass hk
      clear hk
      refine ls<|q1 hF rfl (e_asg hF rfl) fun a hF=>?_
      refine re<|?_
      refine bn<|tn<|?_
      exact ⟨r33,hm,hF.has ⟨rfl,rfl,rfl,rfl,rfl,rfl,trivial⟩,hS⟩
    ·
      replace hm:=ite_f hm hb32
      refine cfv hF rfl hb32<|th<|th<|?_
      refine rg<|?_
      refine ls<|q1 hF rfl (e_eql hF rfl rfl) fun a hF=>?_
      refine ls<|q1 hF rfl (e_asg hF rfl) fun a hF=>?_
      refine re<|?_
      refine tn<|midK (fun a w=>∃ (vB2:Bool),(Z31 N (Z2z N p1 p4 vA2) p1 p8 p9) vB2=some r∧Fr 153 [(3,.int .i64 p8),(4,.int .i64 p9),(5,.pointer (some ⟨b22,0,none⟩)),(6,.pointer (some ⟨b23,0,none⟩)),(11,.int .i64 p1.Kind),(12,.bool vA2),(13,.bool (decide (p1.B=0))),(14,.bool (((((decide (p1.Kind=1)) || (decide (p1.Kind=3))) || (decide (p1.Kind=4))) || (decide (p1.Kind=12))) || (decide (p1.Kind=15)))),(67,.int .i64 p1.Kind),(76,.bool vB2)] a∧St w0 Nil [H] [blk b22 (.cells [.int .i64 p1.Kind,.int .i64 p1.A,.int .i64 p1.B,.slice oa10 p1.E.length cap11,.slice oa14 p1.F.length cap15,.int .i64 p1.To].toArray 85 (0,0)),blk b23 (.cells [.int .i64 p4.Regs,.int .i64 p4.Counts,.slice oa18 p4.L.length cap19].toArray 26 (0,0))] w) ?_ ?_
      ·
        rcases bdich (decide (p1.Kind=5)) with hb35 | hb35
        ·
          replace hm:=itp_t hm hb35
          refine ctv hF rfl hb35<|wk<|?_
          refine tn<|?_
          exact ⟨(decide (p1.Kind=5)),hm,hF.has ⟨rfl,rfl,rfl,rfl,rfl,rfl,rfl,rfl,rfl,rfl,trivial⟩,hS⟩
        ·
          replace hm:=itp_f hm hb35
          refine cfv hF rfl hb35<|?_
          refine rg<|?_
          refine ls<|q1 hF rfl (e_eql hF rfl rfl) fun a hF=>?_
          refine ls<|q1 hF rfl (e_asg hF rfl) fun a hF=>?_
          refine re<|?_
          refine tn<|?_
          exact ⟨(decide (p1.Kind=6)),hm,hF.has ⟨rfl,rfl,rfl,rfl,rfl,rfl,rfl,rfl,rfl,rfl,trivial⟩,hS⟩
      clear hm hF hS
      rintro a w ⟨vB2,hm,hF,hS⟩
      unfold Z31 at hm
      rcases bdich vB2 with hb36 | hb36
      ·
        replace hm:=ite_t hm hb36
        refine ctv hF rfl hb36<|?_
        replace hm:=bind_some hm
        obtain ⟨r37,h38,hm⟩:=hm
        refine rg<|?_
        refine ls<|q1 hF rfl (e_fa hF fa85_2 rfl) fun a hF=>?_
        refine ls<|q1 hF rfl (e_ld hF Tryz.isAgg3 rfl ((St.ld hS).cellB (.head _) rfl)) fun a hF=>?_
        refine ls<|q1 hF rfl (e_move hF rfl) fun a hF=>?_
        refine ls<|c1 hF rfl Tryz.call134 (Z34_c (hp_le _) h38) ⟨rfl,rfl,trivial⟩ (fun v w a hR hF=>?_)
        obtain ⟨rfl,hk⟩:=hR
        replace hS:=hS.pass hk
        clear hk
        refine ls<|q1 hF rfl (e_asg hF rfl) fun a hF=>?_
        refine re<|?_
        refine bn<|tn<|?_
        exact ⟨r37,hm,hF.has ⟨rfl,rfl,rfl,rfl,rfl,rfl,trivial⟩,hS⟩
      ·
        replace hm:=ite_f hm hb36
        refine cfv hF rfl hb36<|th<|th<|?_
        refine rg<|?_
        refine ls<|q1 hF rfl (e_eql hF rfl rfl) fun a hF=>?_
        refine ls<|q1 hF rfl (e_asg hF rfl) fun a hF=>?_
        refine re<|?_
        refine tn<|midK (fun a w=>∃ (vB3:Bool),(Z32 N (Z2z N p1 p4 vA2) p1 p9) vB3=some r∧Fr 153 [(4,.int .i64 p9),(5,.pointer (some ⟨b22,0,none⟩)),(6,.pointer (some ⟨b23,0,none⟩)),(11,.int .i64 p1.Kind),(12,.bool vA2),(13,.bool (decide (p1.B=0))),(14,.bool (((((decide (p1.Kind=1)) || (decide (p1.Kind=3))) || (decide (p1.Kind=4))) || (decide (p1.Kind=12))) || (decide (p1.Kind=15)))),(67,.int .i64 p1.Kind),(83,.bool vB3)] a∧St w0 Nil [H] [blk b22 (.cells [.int .i64 p1.Kind,.int .i64 p1.A,.int .i64 p1.B,.slice oa10 p1.E.length cap11,.slice oa14 p1.F.length cap15,.int .i64 p1.To].toArray 85 (0,0)),blk b23 (.cells [.int .i64 p4.Regs,.int .i64 p4.Counts,.slice oa18 p4.L.length cap19].toArray 26 (0,0))] w) ?_ ?_
        ·
          rcases bdich (decide (p1.Kind=9)) with hb39 | hb39
          ·
            replace hm:=itp_t hm hb39
            refine ctv hF rfl hb39<|wk<|?_
            refine tn<|?_
            exact ⟨(decide (p1.Kind=9)),hm,hF.has ⟨rfl,rfl,rfl,rfl,rfl,rfl,rfl,rfl,rfl,trivial⟩,hS⟩
          ·
            replace hm:=itp_f hm hb39
            refine cfv hF rfl hb39<|?_
            refine rg<|?_
            refine ls<|q1 hF rfl (e_eql hF rfl rfl) fun a hF=>?_
            refine ls<|q1 hF rfl (e_asg hF rfl) fun a hF=>?_
            refine re<|?_
            refine tn<|?_
            exact ⟨(decide (p1.Kind=10)),hm,hF.has ⟨rfl,rfl,rfl,rfl,rfl,rfl,rfl,rfl,rfl,trivial⟩,hS⟩
        clear hm hF hS
        rintro a w ⟨vB3,hm,hF,hS⟩
        unfold Z32 at hm
        rcases bdich vB3 with hb40 | hb40
        ·
          replace hm:=ite_t hm hb40
          refine ctv hF rfl hb40<|?_
          replace hm:=bind_some hm
          obtain ⟨r41,h42,hm⟩:=hm
          refine rg<|?_
          refine ls<|q1 hF rfl (e_fa hF fa85_2 rfl) fun a hF=>?_
          refine ls<|q1 hF rfl (e_ld hF Tryz.isAgg3 rfl ((St.ld hS).cellB (.head _) rfl)) fun a hF=>?_
          refine ls<|q1 hF rfl (e_move hF rfl) fun a hF=>?_
          refine ls<|c1 hF rfl Tryz.call134 (Z34_c (hp_le _) h42) ⟨rfl,rfl,trivial⟩ (fun v w a hR hF=>?_)
          obtain ⟨rfl,hk⟩:=hR
          replace hS:=hS.pass hk
          clear hk
          refine ls<|q1 hF rfl (e_asg hF rfl) fun a hF=>?_
          refine re<|?_
          refine bn<|tn<|?_
          exact ⟨r41,hm,hF.has ⟨rfl,rfl,rfl,rfl,rfl,rfl,trivial⟩,hS⟩
        ·
          replace hm:=ite_f hm hb40
          refine cfv hF rfl hb40<|th<|?_
          refine rg<|?_
          refine ls<|q1 hF rfl (e_eql hF rfl rfl) fun a hF=>?_
          refine ls<|q1 hF rfl (e_asg hF rfl) fun a hF=>?_
          refine re<|?_
          rcases bdich (decide (p1.Kind=13)) with hb43 | hb43
          ·
            replace hm:=itp_t hm hb43
            refine tn<|ctv hF rfl hb43<|?_
            refine rg<|?_
            refine ls<|q1 hF rfl (e_fa hF fa85_2 rfl) fun a hF=>?_
            refine ls<|q1 hF rfl (e_ld hF Tryz.isAgg3 rfl ((St.ld hS).cellB (.head _) rfl)) fun a hF=>?_
            refine ls<|q1 hF rfl (e_geq hF rfl rfl) fun a hF=>?_
            refine ls<|q1 hF rfl (e_move hF rfl) fun a hF=>?_
            refine grp (N:=153) (Fk:=[(5,.pointer (some ⟨b22,0,none⟩)),(6,.pointer (some ⟨b23,0,none⟩)),(11,.int .i64 p1.Kind),(12,.bool vA2),(14,.bool (((((decide (p1.Kind=1)) || (decide (p1.Kind=3))) || (decide (p1.Kind=4))) || (decide (p1.Kind=12))) || (decide (p1.Kind=15)))),(99,.bool ((decide (1≤p1.B)) && (decide (p1.B≤8))))]) (b:=(decide (1≤p1.B))) 4 hS ?_ ?_ ?_
            ·
              intro hb key
              replace hF:=Fr.as hF (t:=95) rfl (congrArg Value.bool hb)
              refine ls<|gy hF rfl rfl<|q1 hF rfl (e_fa hF fa85_2 rfl) fun a hF=>?_
              refine ls<|gy hF rfl rfl<|q1 hF rfl (e_ld hF Tryz.isAgg3 rfl ((St.ld hS).cellB (.head _) rfl)) fun a hF=>?_
              refine ls<|gy hF rfl rfl<|q1 hF rfl (e_leq hF rfl rfl) fun a hF=>?_
              refine ls<|q1 hF rfl (e_as (v':=.bool ((decide (1≤p1.B)) && (decide (p1.B≤8)))) (e_pickT hF rfl rfl) (by rw [hb];rfl)) fun a hF=>?_
              exact key _ _ (hF.has ⟨rfl,rfl,rfl,rfl,rfl,rfl,trivial⟩) hS
            ·
              intro hb key
              replace hF:=Fr.as hF (t:=95) rfl (congrArg Value.bool hb)
              refine ls<|gn hF rfl rfl rfl rfl fun a hF=>?_
              refine ls<|gn hF rfl rfl rfl rfl fun a hF=>?_
              refine ls<|gn hF rfl rfl rfl rfl fun a hF=>?_
              refine ls<|q1 hF rfl (e_as (v':=.bool ((decide (1≤p1.B)) && (decide (p1.B≤8)))) (e_pickF hF rfl rfl) (by rw [hb];rfl)) fun a hF=>?_
              exact key _ _ (hF.has ⟨rfl,rfl,rfl,rfl,rfl,rfl,trivial⟩) hS
            intro a w hF hS
            refine ls<|q1 hF rfl (e_asg hF rfl) fun a hF=>?_
            refine re<|?_
            refine bn<|tn<|?_
            exact ⟨((decide (1≤p1.B)) && (decide (p1.B≤8))),hm,hF.has ⟨rfl,rfl,rfl,rfl,rfl,rfl,trivial⟩,hS⟩
          ·
            replace hm:=itp_f hm hb43
            refine tn<|cfv hF rfl hb43<|wk<|?_
            refine bn<|tn<|?_
            exact ⟨(decide (p1.B=0)),hm,hF.has ⟨rfl,rfl,rfl,rfl,rfl,rfl,trivial⟩,hS⟩
  clear hm hF hS
  rintro a w ⟨vA3,hm,hF,hS⟩
  unfold Z2z at hm
  refine th<|th<|midK (fun a w=>∃ (vA4:Bool),(Z33 p1 vA2 vA3) vA4=some r∧Fr 153 [(11,.int .i64 p1.Kind),(12,.bool vA2),(13,.bool vA3),(140,.bool vA4)] a∧St w0 Nil [H] [] w) ?_ ?_
  ·
    rcases bdich (((((decide (p1.Kind=1)) || (decide (p1.Kind=3))) || (decide (p1.Kind=4))) || (decide (p1.Kind=12))) || (decide (p1.Kind=15))) with hb44 | hb44
    ·
      replace hm:=ite_t hm hb44
      replace hm:=bind_some hm
      obtain ⟨r45,h46,hm⟩:=hm
      rcases bdich ((!r45) || ((!(((((decide (p1.Kind=1)) || (decide (p1.Kind=3))) || (decide (p1.Kind=4))) || (decide (p1.Kind=12))) || (decide (p1.Kind=15)))) && (decide (0 < (p1.E.length:Int))))) with hb47 | hb47
      ·
        replace hm:=ite_t hm hb47
        refine rg<|?_
        refine ls<|q1 hF rfl (e_move hF rfl) fun a hF=>?_
        refine ls<|q1 hF rfl (e_as (e_move hF rfl) (congrArg Value.bool hb44)) fun a hF=>?_
        refine ls<|gy hF rfl rfl<|q1 hF rfl (e_fa hF fa85_3 rfl) fun a hF=>?_
        refine ls<|gy hF rfl rfl<|q1 hF rfl (e_ld hF Tryz.isAgg54 rfl ((St.ld hS).cellB (.head _) rfl)) fun a hF=>?_
        refine ls<|gy hF rfl rfl<|q1 hF rfl (e_fa hF fa26_0 rfl) fun a hF=>?_
        refine ls<|gy hF rfl rfl<|q1 hF rfl (e_ld hF Tryz.isAgg3 rfl ((St.ld hS).cellB (.tail _ (.head _)) rfl)) fun a hF=>?_
        refine ls<|gy hF rfl rfl<|c1 hF rfl Tryz.call71 (Z1v_c (hp_le _) hc12 (St.srH hS hr13) h46) ⟨rfl,rfl,trivial⟩ (fun v w a hR hF=>?_)
        obtain ⟨rfl,hk⟩:=hR
        replace hS:=hS.pass hk
        clear hk
        refine ls<|gy hF rfl rfl<|q1 hF rfl (e_not hF rfl) fun a hF=>?_
        refine ls<|q1 hF rfl (e_pickT hF rfl rfl) fun a hF=>?_
        refine ls<|q1 hF rfl (e_move hF rfl) fun a hF=>?_
        refine grp (N:=153) (Fk:=[(5,.pointer (some ⟨b22,0,none⟩)),(6,.pointer (some ⟨b23,0,none⟩)),(11,.int .i64 p1.Kind),(12,.bool vA2),(13,.bool vA3),(118,.bool ((!r45) || ((!(((((decide (p1.Kind=1)) || (decide (p1.Kind=3))) || (decide (p1.Kind=4))) || (decide (p1.Kind=12))) || (decide (p1.Kind=15)))) && (decide (0 < (p1.E.length:Int))))))]) (b:=(!r45)) 9 hS ?_ ?_ ?_
        ·
          intro hb key
          replace hF:=Fr.as hF (t:=109) rfl (congrArg Value.bool hb)
          refine ls<|gn hF rfl rfl rfl rfl fun a hF=>?_
          refine ls<|gn hF rfl rfl rfl rfl fun a hF=>?_
          refine ls<|gn hF rfl rfl rfl rfl fun a hF=>?_
          refine ls<|gnu hF rfl rfl rfl fun a hF=>?_
          refine ls<|gnu hF rfl rfl rfl fun a hF=>?_
          refine ls<|gnu hF rfl rfl rfl fun a hF=>?_
          refine ls<|gnu hF rfl rfl rfl fun a hF=>?_
          refine ls<|gn hF rfl rfl rfl rfl fun a hF=>?_
          refine ls<|q1 hF rfl (e_as (v':=.bool ((!r45) || ((!(((((decide (p1.Kind=1)) || (decide (p1.Kind=3))) || (decide (p1.Kind=4))) || (decide (p1.Kind=12))) || (decide (p1.Kind=15)))) && (decide (0 < (p1.E.length:Int)))))) (e_pickT hF rfl rfl) (by rw [hb];rfl)) fun a hF=>?_
          exact key _ _ (hF.has ⟨rfl,rfl,rfl,rfl,rfl,rfl,trivial⟩) hS
        ·
          intro hb key
          replace hF:=Fr.as hF (t:=109) rfl (congrArg Value.bool hb)
          refine ls<|gy hF rfl rfl<|q1 hF rfl (e_move hF rfl) fun a hF=>?_
          refine ls<|gy hF rfl rfl<|q1 hF rfl (e_not hF rfl) fun a hF=>?_
          refine ls<|gy hF rfl rfl<|q1 hF rfl (e_move hF rfl) fun a hF=>?_
          refine grp (N:=153) (Fk:=[(5,.pointer (some ⟨b22,0,none⟩)),(6,.pointer (some ⟨b23,0,none⟩)),(11,.int .i64 p1.Kind),(12,.bool vA2),(13,.bool vA3),(109,.bool false),(117,.bool ((!(((((decide (p1.Kind=1)) || (decide (p1.Kind=3))) || (decide (p1.Kind=4))) || (decide (p1.Kind=12))) || (decide (p1.Kind=15)))) && (decide (0 < (p1.E.length:Int)))))]) (b:=(!(((((decide (p1.Kind=1)) || (decide (p1.Kind=3))) || (decide (p1.Kind=4))) || (decide (p1.Kind=12))) || (decide (p1.Kind=15))))) 5 hS ?_ ?_ ?_
          ·
            intro hb key
            replace hF:=Fr.as hF (t:=112) rfl (congrArg Value.bool hb)
            refine ls<|gy hF rfl rfl<|q1 hF rfl (e_fa hF fa85_3 rfl) fun a hF=>?_
            refine ls<|gy hF rfl rfl<|q1 hF rfl (e_ld hF Tryz.isAgg54 rfl ((St.ld hS).cellB (.head _) rfl)) fun a hF=>?_
            refine ls<|gy hF rfl rfl<|q1 hF rfl (e_lenL (α:=api_Op) (xs:=p1.E) hF Tryz.runUnderlying54 rfl) fun a hF=>?_
            refine ls<|gy hF rfl rfl<|q1 hF rfl (e_gtr hF rfl rfl) fun a hF=>?_
            refine ls<|gy hF rfl rfl<|q1 hF rfl (e_as (v':=.bool ((!(((((decide (p1.Kind=1)) || (decide (p1.Kind=3))) || (decide (p1.Kind=4))) || (decide (p1.Kind=12))) || (decide (p1.Kind=15)))) && (decide (0 < (p1.E.length:Int))))) (e_pickT hF rfl rfl) (by rw [hb];rfl)) fun a hF=>?_
            exact key _ _ (hF.has ⟨rfl,rfl,rfl,rfl,rfl,rfl,rfl,trivial⟩) hS
          ·
            intro hb key
            replace hF:=Fr.as hF (t:=112) rfl (congrArg Value.bool hb)
            refine ls<|gn hF rfl rfl rfl rfl fun a hF=>?_
            refine ls<|gn hF rfl rfl rfl rfl fun a hF=>?_
            refine ls<|gn hF rfl rfl rfl rfl fun a hF=>?_
            refine ls<|gn hF rfl rfl rfl rfl fun a hF=>?_
            refine ls<|gy hF rfl rfl<|q1 hF rfl (e_as (v':=.bool ((!(((((decide (p1.Kind=1)) || (decide (p1.Kind=3))) || (decide (p1.Kind=4))) || (decide (p1.Kind=12))) || (decide (p1.Kind=15)))) && (decide (0 < (p1.E.length:Int))))) (e_pickF hF rfl rfl) (by rw [hb];rfl)) fun a hF=>?_
            exact key _ _ (hF.has ⟨rfl,rfl,rfl,rfl,rfl,rfl,rfl,trivial⟩) hS
          intro a w hF hS
          refine ls<|q1 hF rfl (e_as (v':=.bool ((!r45) || ((!(((((decide (p1.Kind=1)) || (decide (p1.Kind=3))) || (decide (p1.Kind=4))) || (decide (p1.Kind=12))) || (decide (p1.Kind=15)))) && (decide (0 < (p1.E.length:Int)))))) (e_pickF hF rfl rfl) (by rw [hb];rfl)) fun a hF=>?_
          exact key _ _ (hF.has ⟨rfl,rfl,rfl,rfl,rfl,rfl,trivial⟩) hS
        intro a w hF hS
        refine ls<|q1 hF rfl (e_as (e_move hF rfl) (congrArg Value.bool hb47)) fun a hF=>?_
        refine ls<|gn hF rfl rfl rfl rfl fun a hF=>?_
        refine ls<|gn hF rfl rfl rfl rfl fun a hF=>?_
        refine ls<|gn hF rfl rfl rfl rfl fun a hF=>?_
        refine ls<|gnu hF rfl rfl rfl fun a hF=>?_
        refine ls<|gnu hF rfl rfl rfl fun a hF=>?_
        refine ls<|gnu hF rfl rfl rfl fun a hF=>?_
        refine ls<|gnu hF rfl rfl rfl fun a hF=>?_
        refine ls<|gnu hF rfl rfl rfl fun a hF=>?_
        refine ls<|gnu hF rfl rfl rfl fun a hF=>?_
        refine ls<|gn hF rfl rfl rfl rfl fun a hF=>?_
        refine ls<|q1 hF rfl (e_pickT hF rfl rfl) fun a hF=>?_
        refine ls<|q1 hF rfl (e_move hF rfl) fun a hF=>?_
        refine ls<|gn hF rfl rfl rfl rfl fun a hF=>?_
        refine ls<|gn hF rfl rfl rfl rfl fun a hF=>?_
        refine ls<|gn hF rfl rfl rfl rfl fun a hF=>?_
        refine ls<|gnu hF rfl rfl rfl fun a hF=>?_
        refine ls<|gnu hF rfl rfl rfl fun a hF=>?_
        refine ls<|gnu hF rfl rfl rfl fun a hF=>?_
        refine ls<|gnu hF rfl rfl rfl fun a hF=>?_
        refine ls<|gn hF rfl rfl rfl rfl fun a hF=>?_
        refine ls<|q1 hF rfl (e_pickT hF rfl rfl) fun a hF=>?_
        refine re<|?_
        refine tn<|?_
        replace hS:=hS.pickL .nil
        exact ⟨true,hm,hF.has ⟨rfl,rfl,rfl,rfl,trivial⟩,hS⟩
      ·
        replace hm:=ite_f hm hb47
        rcases bdich (decide (p1.Kind=4)) with hb48 | hb48
        ·
          replace hm:=itp_t hm hb48
          replace hm:=bind_some hm
          obtain ⟨r49,h50,hm⟩:=hm
          refine rg<|?_
          refine ls<|q1 hF rfl (e_move hF rfl) fun a hF=>?_
          refine ls<|q1 hF rfl (e_as (e_move hF rfl) (congrArg Value.bool hb44)) fun a hF=>?_
          refine ls<|gy hF rfl rfl<|q1 hF rfl (e_fa hF fa85_3 rfl) fun a hF=>?_
          refine ls<|gy hF rfl rfl<|q1 hF rfl (e_ld hF Tryz.isAgg54 rfl ((St.ld hS).cellB (.head _) rfl)) fun a hF=>?_
          refine ls<|gy hF rfl rfl<|q1 hF rfl (e_fa hF fa26_0 rfl) fun a hF=>?_
          refine ls<|gy hF rfl rfl<|q1 hF rfl (e_ld hF Tryz.isAgg3 rfl ((St.ld hS).cellB (.tail _ (.head _)) rfl)) fun a hF=>?_
          refine ls<|gy hF rfl rfl<|c1 hF rfl Tryz.call71 (Z1v_c (hp_le _) hc12 (St.srH hS hr13) h46) ⟨rfl,rfl,trivial⟩ (fun v w a hR hF=>?_)
          obtain ⟨rfl,hk⟩:=hR
          replace hS:=hS.pass hk
          clear hk
          refine ls<|gy hF rfl rfl<|q1 hF rfl (e_not hF rfl) fun a hF=>?_
          refine ls<|q1 hF rfl (e_pickT hF rfl rfl) fun a hF=>?_
          refine ls<|q1 hF rfl (e_move hF rfl) fun a hF=>?_
          refine grp (N:=153) (Fk:=[(5,.pointer (some ⟨b22,0,none⟩)),(6,.pointer (some ⟨b23,0,none⟩)),(11,.int .i64 p1.Kind),(12,.bool vA2),(13,.bool vA3),(118,.bool ((!r45) || ((!(((((decide (p1.Kind=1)) || (decide (p1.Kind=3))) || (decide (p1.Kind=4))) || (decide (p1.Kind=12))) || (decide (p1.Kind=15)))) && (decide (0 < (p1.E.length:Int))))))]) (b:=(!r45)) 9 hS ?_ ?_ ?_
          ·
            intro hb key
            replace hF:=Fr.as hF (t:=109) rfl (congrArg Value.bool hb)
            refine ls<|gn hF rfl rfl rfl rfl fun a hF=>?_
            refine ls<|gn hF rfl rfl rfl rfl fun a hF=>?_
            refine ls<|gn hF rfl rfl rfl rfl fun a hF=>?_
            refine ls<|gnu hF rfl rfl rfl fun a hF=>?_
            refine ls<|gnu hF rfl rfl rfl fun a hF=>?_
            refine ls<|gnu hF rfl rfl rfl fun a hF=>?_
            refine ls<|gnu hF rfl rfl rfl fun a hF=>?_
            refine ls<|gn hF rfl rfl rfl rfl fun a hF=>?_
            refine ls<|q1 hF rfl (e_as (v':=.bool ((!r45) || ((!(((((decide (p1.Kind=1)) || (decide (p1.Kind=3))) || (decide (p1.Kind=4))) || (decide (p1.Kind=12))) || (decide (p1.Kind=15)))) && (decide (0 < (p1.E.length:Int)))))) (e_pickT hF rfl rfl) (by rw [hb];rfl)) fun a hF=>?_
            exact key _ _ (hF.has ⟨rfl,rfl,rfl,rfl,rfl,rfl,trivial⟩) hS
          ·
            intro hb key
            replace hF:=Fr.as hF (t:=109) rfl (congrArg Value.bool hb)
            refine ls<|gy hF rfl rfl<|q1 hF rfl (e_move hF rfl) fun a hF=>?_
            refine ls<|gy hF rfl rfl<|q1 hF rfl (e_not hF rfl) fun a hF=>?_
            refine ls<|gy hF rfl rfl<|q1 hF rfl (e_move hF rfl) fun a hF=>?_
            refine grp (N:=153) (Fk:=[(5,.pointer (some ⟨b22,0,none⟩)),(6,.pointer (some ⟨b23,0,none⟩)),(11,.int .i64 p1.Kind),(12,.bool vA2),(13,.bool vA3),(109,.bool false),(117,.bool ((!(((((decide (p1.Kind=1)) || (decide (p1.Kind=3))) || (decide (p1.Kind=4))) || (decide (p1.Kind=12))) || (decide (p1.Kind=15)))) && (decide (0 < (p1.E.length:Int)))))]) (b:=(!(((((decide (p1.Kind=1)) || (decide (p1.Kind=3))) || (decide (p1.Kind=4))) || (decide (p1.Kind=12))) || (decide (p1.Kind=15))))) 5 hS ?_ ?_ ?_
            ·
              intro hb key
              replace hF:=Fr.as hF (t:=112) rfl (congrArg Value.bool hb)
              refine ls<|gy hF rfl rfl<|q1 hF rfl (e_fa hF fa85_3 rfl) fun a hF=>?_
              refine ls<|gy hF rfl rfl<|q1 hF rfl (e_ld hF Tryz.isAgg54 rfl ((St.ld hS).cellB (.head _) rfl)) fun a hF=>?_
              refine ls<|gy hF rfl rfl<|q1 hF rfl (e_lenL (α:=api_Op) (xs:=p1.E) hF Tryz.runUnderlying54 rfl) fun a hF=>?_
              refine ls<|gy hF rfl rfl<|q1 hF rfl (e_gtr hF rfl rfl) fun a hF=>?_
              refine ls<|gy hF rfl rfl<|q1 hF rfl (e_as (v':=.bool ((!(((((decide (p1.Kind=1)) || (decide (p1.Kind=3))) || (decide (p1.Kind=4))) || (decide (p1.Kind=12))) || (decide (p1.Kind=15)))) && (decide (0 < (p1.E.length:Int))))) (e_pickT hF rfl rfl) (by rw [hb];rfl)) fun a hF=>?_
              exact key _ _ (hF.has ⟨rfl,rfl,rfl,rfl,rfl,rfl,rfl,trivial⟩) hS
            ·
              intro hb key
              replace hF:=Fr.as hF (t:=112) rfl (congrArg Value.bool hb)
              refine ls<|gn hF rfl rfl rfl rfl fun a hF=>?_
              refine ls<|gn hF rfl rfl rfl rfl fun a hF=>?_
              refine ls<|gn hF rfl rfl rfl rfl fun a hF=>?_
              refine ls<|gn hF rfl rfl rfl rfl fun a hF=>?_
              refine ls<|gy hF rfl rfl<|q1 hF rfl (e_as (v':=.bool ((!(((((decide (p1.Kind=1)) || (decide (p1.Kind=3))) || (decide (p1.Kind=4))) || (decide (p1.Kind=12))) || (decide (p1.Kind=15)))) && (decide (0 < (p1.E.length:Int))))) (e_pickF hF rfl rfl) (by rw [hb];rfl)) fun a hF=>?_
              exact key _ _ (hF.has ⟨rfl,rfl,rfl,rfl,rfl,rfl,rfl,trivial⟩) hS
            intro a w hF hS
            refine ls<|q1 hF rfl (e_as (v':=.bool ((!r45) || ((!(((((decide (p1.Kind=1)) || (decide (p1.Kind=3))) || (decide (p1.Kind=4))) || (decide (p1.Kind=12))) || (decide (p1.Kind=15)))) && (decide (0 < (p1.E.length:Int)))))) (e_pickF hF rfl rfl) (by rw [hb];rfl)) fun a hF=>?_
            exact key _ _ (hF.has ⟨rfl,rfl,rfl,rfl,rfl,rfl,trivial⟩) hS
          intro a w hF hS
          refine ls<|q1 hF rfl (e_as (e_move hF rfl) (congrArg Value.bool hb47)) fun a hF=>?_
          refine ls<|gy hF rfl rfl<|q1 hF rfl (e_move hF rfl) fun a hF=>?_
          refine ls<|gy hF rfl rfl<|q1 hF rfl (e_eql hF rfl rfl) fun a hF=>?_
          refine ls<|gy hF rfl rfl<|q1 hF rfl (e_as (e_move hF rfl) (congrArg Value.bool hb48)) fun a hF=>?_
          refine ls<|gy hF rfl rfl<|q1 hF rfl (e_fa hF fa85_4 rfl) fun a hF=>?_
          refine ls<|gy hF rfl rfl<|q1 hF rfl (e_ld hF Tryz.isAgg54 rfl ((St.ld hS).cellB (.head _) rfl)) fun a hF=>?_
          refine ls<|gy hF rfl rfl<|q1 hF rfl (e_fa hF fa26_0 rfl) fun a hF=>?_
          refine ls<|gy hF rfl rfl<|q1 hF rfl (e_ld hF Tryz.isAgg3 rfl ((St.ld hS).cellB (.tail _ (.head _)) rfl)) fun a hF=>?_
          refine ls<|gy hF rfl rfl<|c1 hF rfl Tryz.call71 (Z1v_c (hp_le _) hc16 (St.srH hS hr17) h50) ⟨rfl,rfl,trivial⟩ (fun v w a hR hF=>?_)
          obtain ⟨rfl,hk⟩:=hR
          replace hS:=hS.pass hk
          clear hk
          refine ls<|gy hF rfl rfl<|q1 hF rfl (e_not hF rfl) fun a hF=>?_
          refine ls<|gy hF rfl rfl<|q1 hF rfl (e_pickT hF rfl rfl) fun a hF=>?_
          refine ls<|q1 hF rfl (e_pickF hF rfl rfl) fun a hF=>?_
          refine ls<|q1 hF rfl (e_move hF rfl) fun a hF=>?_
          refine grp (N:=153) (Fk:=[(11,.int .i64 p1.Kind),(12,.bool vA2),(13,.bool vA3),(140,.bool ((!r49) || ((decide (p1.Kind≠4)) && (decide (0 < (p1.F.length:Int))))))]) (b:=(!r49)) 9 hS ?_ ?_ ?_
          ·
            intro hb key
            replace hF:=Fr.as hF (t:=131) rfl (congrArg Value.bool hb)
            refine ls<|gn hF rfl rfl rfl rfl fun a hF=>?_
            refine ls<|gn hF rfl rfl rfl rfl fun a hF=>?_
            refine ls<|gn hF rfl rfl rfl rfl fun a hF=>?_
            refine ls<|gnu hF rfl rfl rfl fun a hF=>?_
            refine ls<|gnu hF rfl rfl rfl fun a hF=>?_
            refine ls<|gnu hF rfl rfl rfl fun a hF=>?_
            refine ls<|gnu hF rfl rfl rfl fun a hF=>?_
            refine ls<|gn hF rfl rfl rfl rfl fun a hF=>?_
            refine ls<|q1 hF rfl (e_as (v':=.bool ((!r49) || ((decide (p1.Kind≠4)) && (decide (0 < (p1.F.length:Int)))))) (e_pickT hF rfl rfl) (by rw [hb];rfl)) fun a hF=>?_
            exact key _ _ (hF.has ⟨rfl,rfl,rfl,rfl,trivial⟩) hS
          ·
            intro hb key
            replace hF:=Fr.as hF (t:=131) rfl (congrArg Value.bool hb)
            refine ls<|gy hF rfl rfl<|q1 hF rfl (e_move hF rfl) fun a hF=>?_
            refine ls<|gy hF rfl rfl<|q1 hF rfl (e_neq hF rfl rfl) fun a hF=>?_
            refine ls<|gy hF rfl rfl<|q1 hF rfl (e_move hF rfl) fun a hF=>?_
            refine grp (N:=153) (Fk:=[(11,.int .i64 p1.Kind),(12,.bool vA2),(13,.bool vA3),(131,.bool false),(139,.bool ((decide (p1.Kind≠4)) && (decide (0 < (p1.F.length:Int)))))]) (b:=(decide (p1.Kind≠4))) 5 hS ?_ ?_ ?_
            ·
              intro hb key
              replace hF:=Fr.as hF (t:=134) rfl (congrArg Value.bool hb)
              refine ls<|gy hF rfl rfl<|q1 hF rfl (e_fa hF fa85_4 rfl) fun a hF=>?_
              refine ls<|gy hF rfl rfl<|q1 hF rfl (e_ld hF Tryz.isAgg54 rfl ((St.ld hS).cellB (.head _) rfl)) fun a hF=>?_
              refine ls<|gy hF rfl rfl<|q1 hF rfl (e_lenL (α:=api_Op) (xs:=p1.F) hF Tryz.runUnderlying54 rfl) fun a hF=>?_
              refine ls<|gy hF rfl rfl<|q1 hF rfl (e_gtr hF rfl rfl) fun a hF=>?_
              refine ls<|gy hF rfl rfl<|q1 hF rfl (e_as (v':=.bool ((decide (p1.Kind≠4)) && (decide (0 < (p1.F.length:Int))))) (e_pickT hF rfl rfl) (by rw [hb];rfl)) fun a hF=>?_
              exact key _ _ (hF.has ⟨rfl,rfl,rfl,rfl,rfl,trivial⟩) hS
            ·
              intro hb key
              replace hF:=Fr.as hF (t:=134) rfl (congrArg Value.bool hb)
              refine ls<|gn hF rfl rfl rfl rfl fun a hF=>?_
              refine ls<|gn hF rfl rfl rfl rfl fun a hF=>?_
              refine ls<|gn hF rfl rfl rfl rfl fun a hF=>?_
              refine ls<|gn hF rfl rfl rfl rfl fun a hF=>?_
              refine ls<|gy hF rfl rfl<|q1 hF rfl (e_as (v':=.bool ((decide (p1.Kind≠4)) && (decide (0 < (p1.F.length:Int))))) (e_pickF hF rfl rfl) (by rw [hb];rfl)) fun a hF=>?_
              exact key _ _ (hF.has ⟨rfl,rfl,rfl,rfl,rfl,trivial⟩) hS
            intro a w hF hS
            refine ls<|q1 hF rfl (e_as (v':=.bool ((!r49) || ((decide (p1.Kind≠4)) && (decide (0 < (p1.F.length:Int)))))) (e_pickF hF rfl rfl) (by rw [hb];rfl)) fun a hF=>?_
            exact key _ _ (hF.has ⟨rfl,rfl,rfl,rfl,trivial⟩) hS
          intro a w hF hS
          refine re<|?_
          refine tn<|?_
          replace hS:=hS.pickL .nil
          exact ⟨((!r49) || ((decide (p1.Kind≠4)) && (decide (0 < (p1.F.length:Int))))),hm,hF.has ⟨rfl,rfl,rfl,rfl,trivial⟩,hS⟩
        ·
          replace hm:=itp_f hm hb48
          refine rg<|?_
          refine ls<|q1 hF rfl (e_move hF rfl) fun a hF=>?_
          refine ls<|q1 hF rfl (e_as (e_move hF rfl) (congrArg Value.bool hb44)) fun a hF=>?_
          refine ls<|gy hF rfl rfl<|q1 hF rfl (e_fa hF fa85_3 rfl) fun a hF=>?_
          refine ls<|gy hF rfl rfl<|q1 hF rfl (e_ld hF Tryz.isAgg54 rfl ((St.ld hS).cellB (.head _) rfl)) fun a hF=>?_
          refine ls<|gy hF rfl rfl<|q1 hF rfl (e_fa hF fa26_0 rfl) fun a hF=>?_
          refine ls<|gy hF rfl rfl<|q1 hF rfl (e_ld hF Tryz.isAgg3 rfl ((St.ld hS).cellB (.tail _ (.head _)) rfl)) fun a hF=>?_
          refine ls<|gy hF rfl rfl<|c1 hF rfl Tryz.call71 (Z1v_c (hp_le _) hc12 (St.srH hS hr13) h46) ⟨rfl,rfl,trivial⟩ (fun v w a hR hF=>?_)
          obtain ⟨rfl,hk⟩:=hR
          replace hS:=hS.pass hk
          clear hk
          refine ls<|gy hF rfl rfl<|q1 hF rfl (e_not hF rfl) fun a hF=>?_
          refine ls<|q1 hF rfl (e_pickT hF rfl rfl) fun a hF=>?_
          refine ls<|q1 hF rfl (e_move hF rfl) fun a hF=>?_
          refine grp (N:=153) (Fk:=[(5,.pointer (some ⟨b22,0,none⟩)),(6,.pointer (some ⟨b23,0,none⟩)),(11,.int .i64 p1.Kind),(12,.bool vA2),(13,.bool vA3),(118,.bool ((!r45) || ((!(((((decide (p1.Kind=1)) || (decide (p1.Kind=3))) || (decide (p1.Kind=4))) || (decide (p1.Kind=12))) || (decide (p1.Kind=15)))) && (decide (0 < (p1.E.length:Int))))))]) (b:=(!r45)) 9 hS ?_ ?_ ?_
          ·
            intro hb key
            replace hF:=Fr.as hF (t:=109) rfl (congrArg Value.bool hb)
            refine ls<|gn hF rfl rfl rfl rfl fun a hF=>?_
            refine ls<|gn hF rfl rfl rfl rfl fun a hF=>?_
            refine ls<|gn hF rfl rfl rfl rfl fun a hF=>?_
            refine ls<|gnu hF rfl rfl rfl fun a hF=>?_
            refine ls<|gnu hF rfl rfl rfl fun a hF=>?_
            refine ls<|gnu hF rfl rfl rfl fun a hF=>?_
            refine ls<|gnu hF rfl rfl rfl fun a hF=>?_
            refine ls<|gn hF rfl rfl rfl rfl fun a hF=>?_
            refine ls<|q1 hF rfl (e_as (v':=.bool ((!r45) || ((!(((((decide (p1.Kind=1)) || (decide (p1.Kind=3))) || (decide (p1.Kind=4))) || (decide (p1.Kind=12))) || (decide (p1.Kind=15)))) && (decide (0 < (p1.E.length:Int)))))) (e_pickT hF rfl rfl) (by rw [hb];rfl)) fun a hF=>?_
            exact key _ _ (hF.has ⟨rfl,rfl,rfl,rfl,rfl,rfl,trivial⟩) hS
          ·
            intro hb key
            replace hF:=Fr.as hF (t:=109) rfl (congrArg Value.bool hb)
            refine ls<|gy hF rfl rfl<|q1 hF rfl (e_move hF rfl) fun a hF=>?_
            refine ls<|gy hF rfl rfl<|q1 hF rfl (e_not hF rfl) fun a hF=>?_
            refine ls<|gy hF rfl rfl<|q1 hF rfl (e_move hF rfl) fun a hF=>?_
            refine grp (N:=153) (Fk:=[(5,.pointer (some ⟨b22,0,none⟩)),(6,.pointer (some ⟨b23,0,none⟩)),(11,.int .i64 p1.Kind),(12,.bool vA2),(13,.bool vA3),(109,.bool false),(117,.bool ((!(((((decide (p1.Kind=1)) || (decide (p1.Kind=3))) || (decide (p1.Kind=4))) || (decide (p1.Kind=12))) || (decide (p1.Kind=15)))) && (decide (0 < (p1.E.length:Int)))))]) (b:=(!(((((decide (p1.Kind=1)) || (decide (p1.Kind=3))) || (decide (p1.Kind=4))) || (decide (p1.Kind=12))) || (decide (p1.Kind=15))))) 5 hS ?_ ?_ ?_
            ·
              intro hb key
              replace hF:=Fr.as hF (t:=112) rfl (congrArg Value.bool hb)
              refine ls<|gy hF rfl rfl<|q1 hF rfl (e_fa hF fa85_3 rfl) fun a hF=>?_
              refine ls<|gy hF rfl rfl<|q1 hF rfl (e_ld hF Tryz.isAgg54 rfl ((St.ld hS).cellB (.head _) rfl)) fun a hF=>?_
              refine ls<|gy hF rfl rfl<|q1 hF rfl (e_lenL (α:=api_Op) (xs:=p1.E) hF Tryz.runUnderlying54 rfl) fun a hF=>?_
              refine ls<|gy hF rfl rfl<|q1 hF rfl (e_gtr hF rfl rfl) fun a hF=>?_
              refine ls<|gy hF rfl rfl<|q1 hF rfl (e_as (v':=.bool ((!(((((decide (p1.Kind=1)) || (decide (p1.Kind=3))) || (decide (p1.Kind=4))) || (decide (p1.Kind=12))) || (decide (p1.Kind=15)))) && (decide (0 < (p1.E.length:Int))))) (e_pickT hF rfl rfl) (by rw [hb];rfl)) fun a hF=>?_
              exact key _ _ (hF.has ⟨rfl,rfl,rfl,rfl,rfl,rfl,rfl,trivial⟩) hS
            ·
              intro hb key
              replace hF:=Fr.as hF (t:=112) rfl (congrArg Value.bool hb)
              refine ls<|gn hF rfl rfl rfl rfl fun a hF=>?_
              refine ls<|gn hF rfl rfl rfl rfl fun a hF=>?_
              refine ls<|gn hF rfl rfl rfl rfl fun a hF=>?_
              refine ls<|gn hF rfl rfl rfl rfl fun a hF=>?_
              refine ls<|gy hF rfl rfl<|q1 hF rfl (e_as (v':=.bool ((!(((((decide (p1.Kind=1)) || (decide (p1.Kind=3))) || (decide (p1.Kind=4))) || (decide (p1.Kind=12))) || (decide (p1.Kind=15)))) && (decide (0 < (p1.E.length:Int))))) (e_pickF hF rfl rfl) (by rw [hb];rfl)) fun a hF=>?_
              exact key _ _ (hF.has ⟨rfl,rfl,rfl,rfl,rfl,rfl,rfl,trivial⟩) hS
            intro a w hF hS
            refine ls<|q1 hF rfl (e_as (v':=.bool ((!r45) || ((!(((((decide (p1.Kind=1)) || (decide (p1.Kind=3))) || (decide (p1.Kind=4))) || (decide (p1.Kind=12))) || (decide (p1.Kind=15)))) && (decide (0 < (p1.E.length:Int)))))) (e_pickF hF rfl rfl) (by rw [hb];rfl)) fun a hF=>?_
            exact key _ _ (hF.has ⟨rfl,rfl,rfl,rfl,rfl,rfl,trivial⟩) hS
          intro a w hF hS
          refine ls<|q1 hF rfl (e_as (e_move hF rfl) (congrArg Value.bool hb47)) fun a hF=>?_
          refine ls<|gy hF rfl rfl<|q1 hF rfl (e_move hF rfl) fun a hF=>?_
          refine ls<|gy hF rfl rfl<|q1 hF rfl (e_eql hF rfl rfl) fun a hF=>?_
          refine ls<|gy hF rfl rfl<|q1 hF rfl (e_as (e_move hF rfl) (congrArg Value.bool hb48)) fun a hF=>?_
          refine ls<|gn hF rfl rfl rfl rfl fun a hF=>?_
          refine ls<|gn hF rfl rfl rfl rfl fun a hF=>?_
          refine ls<|gn hF rfl rfl rfl rfl fun a hF=>?_
          refine ls<|gn hF rfl rfl rfl rfl fun a hF=>?_
          refine ls<|gn hF rfl rfl rfl rfl fun a hF=>?_
          refine ls<|gn hF rfl rfl rfl rfl fun a hF=>?_
          refine ls<|gy hF rfl rfl<|q1 hF rfl (e_pickF hF rfl rfl) fun a hF=>?_
          refine ls<|q1 hF rfl (e_pickF hF rfl rfl) fun a hF=>?_
          refine ls<|q1 hF rfl (e_move hF rfl) fun a hF=>?_
          refine ls<|gy hF rfl rfl<|q1 hF rfl (e_move hF rfl) fun a hF=>?_
          refine ls<|gy hF rfl rfl<|q1 hF rfl (e_neq hF rfl rfl) fun a hF=>?_
          refine ls<|gy hF rfl rfl<|q1 hF rfl (e_move hF rfl) fun a hF=>?_
          refine grp (N:=153) (Fk:=[(11,.int .i64 p1.Kind),(12,.bool vA2),(13,.bool vA3),(131,.bool false),(139,.bool ((decide (p1.Kind≠4)) && (decide (0 < (p1.F.length:Int)))))]) (b:=(decide (p1.Kind≠4))) 5 hS ?_ ?_ ?_
          ·
            intro hb key
            replace hF:=Fr.as hF (t:=134) rfl (congrArg Value.bool hb)
            refine ls<|gy hF rfl rfl<|q1 hF rfl (e_fa hF fa85_4 rfl) fun a hF=>?_
            refine ls<|gy hF rfl rfl<|q1 hF rfl (e_ld hF Tryz.isAgg54 rfl ((St.ld hS).cellB (.head _) rfl)) fun a hF=>?_
            refine ls<|gy hF rfl rfl<|q1 hF rfl (e_lenL (α:=api_Op) (xs:=p1.F) hF Tryz.runUnderlying54 rfl) fun a hF=>?_
            refine ls<|gy hF rfl rfl<|q1 hF rfl (e_gtr hF rfl rfl) fun a hF=>?_
            refine ls<|gy hF rfl rfl<|q1 hF rfl (e_as (v':=.bool ((decide (p1.Kind≠4)) && (decide (0 < (p1.F.length:Int))))) (e_pickT hF rfl rfl) (by rw [hb];rfl)) fun a hF=>?_
            exact key _ _ (hF.has ⟨rfl,rfl,rfl,rfl,rfl,trivial⟩) hS
          ·
            intro hb key
            replace hF:=Fr.as hF (t:=134) rfl (congrArg Value.bool hb)
            refine ls<|gn hF rfl rfl rfl rfl fun a hF=>?_
            refine ls<|gn hF rfl rfl rfl rfl fun a hF=>?_
            refine ls<|gn hF rfl rfl rfl rfl fun a hF=>?_
            refine ls<|gn hF rfl rfl rfl rfl fun a hF=>?_
            refine ls<|gy hF rfl rfl<|q1 hF rfl (e_as (v':=.bool ((decide (p1.Kind≠4)) && (decide (0 < (p1.F.length:Int))))) (e_pickF hF rfl rfl) (by rw [hb];rfl)) fun a hF=>?_
            exact key _ _ (hF.has ⟨rfl,rfl,rfl,rfl,rfl,trivial⟩) hS
          intro a w hF hS
          refine ls<|q1 hF rfl (e_pickF hF rfl rfl) fun a hF=>?_
          refine re<|?_
          refine tn<|?_
          replace hS:=hS.pickL .nil
          exact ⟨((decide (p1.Kind≠4)) && (decide (0 < (p1.F.length:Int)))),hm,hF.has ⟨rfl,rfl,rfl,rfl,trivial⟩,hS⟩
    ·
      replace hm:=ite_f hm hb44
      rcases bdich ((!(((((decide (p1.Kind=1)) || (decide (p1.Kind=3))) || (decide (p1.Kind=4))) || (decide (p1.Kind=12))) || (decide (p1.Kind=15)))) && (decide (0 < (p1.E.length:Int)))) with hb51 | hb51
      ·
        replace hm:=ite_t hm hb51
        refine rg<|?_
        refine ls<|q1 hF rfl (e_move hF rfl) fun a hF=>?_
        refine ls<|q1 hF rfl (e_as (e_move hF rfl) (congrArg Value.bool hb44)) fun a hF=>?_
        refine ls<|gn hF rfl rfl rfl rfl fun a hF=>?_
        refine ls<|gn hF rfl rfl rfl rfl fun a hF=>?_
        refine ls<|gn hF rfl rfl rfl rfl fun a hF=>?_
        refine ls<|gn hF rfl rfl rfl rfl fun a hF=>?_
        refine ls<|gn hF rfl rfl rfl rfl fun a hF=>?_
        refine ls<|gn hF rfl rfl rfl rfl fun a hF=>?_
        refine ls<|q1 hF rfl (e_pickF hF rfl rfl) fun a hF=>?_
        refine ls<|q1 hF rfl (e_move hF rfl) fun a hF=>?_
        refine ls<|gy hF rfl rfl<|q1 hF rfl (e_move hF rfl) fun a hF=>?_
        refine ls<|gy hF rfl rfl<|q1 hF rfl (e_not hF rfl) fun a hF=>?_
        refine ls<|gy hF rfl rfl<|q1 hF rfl (e_move hF rfl) fun a hF=>?_
        refine grp (N:=153) (Fk:=[(5,.pointer (some ⟨b22,0,none⟩)),(6,.pointer (some ⟨b23,0,none⟩)),(11,.int .i64 p1.Kind),(12,.bool vA2),(13,.bool vA3),(109,.bool false),(117,.bool ((!(((((decide (p1.Kind=1)) || (decide (p1.Kind=3))) || (decide (p1.Kind=4))) || (decide (p1.Kind=12))) || (decide (p1.Kind=15)))) && (decide (0 < (p1.E.length:Int)))))]) (b:=(!(((((decide (p1.Kind=1)) || (decide (p1.Kind=3))) || (decide (p1.Kind=4))) || (decide (p1.Kind=12))) || (decide (p1.Kind=15))))) 5 hS ?_ ?_ ?_
        ·
          intro hb key
          replace hF:=Fr.as hF (t:=112) rfl (congrArg Value.bool hb)
          refine ls<|gy hF rfl rfl<|q1 hF rfl (e_fa hF fa85_3 rfl) fun a hF=>?_
          refine ls<|gy hF rfl rfl<|q1 hF rfl (e_ld hF Tryz.isAgg54 rfl ((St.ld hS).cellB (.head _) rfl)) fun a hF=>?_
          refine ls<|gy hF rfl rfl<|q1 hF rfl (e_lenL (α:=api_Op) (xs:=p1.E) hF Tryz.runUnderlying54 rfl) fun a hF=>?_
          refine ls<|gy hF rfl rfl<|q1 hF rfl (e_gtr hF rfl rfl) fun a hF=>?_
          refine ls<|gy hF rfl rfl<|q1 hF rfl (e_as (v':=.bool ((!(((((decide (p1.Kind=1)) || (decide (p1.Kind=3))) || (decide (p1.Kind=4))) || (decide (p1.Kind=12))) || (decide (p1.Kind=15)))) && (decide (0 < (p1.E.length:Int))))) (e_pickT hF rfl rfl) (by rw [hb];rfl)) fun a hF=>?_
          exact key _ _ (hF.has ⟨rfl,rfl,rfl,rfl,rfl,rfl,rfl,trivial⟩) hS
        ·
          intro hb key
          replace hF:=Fr.as hF (t:=112) rfl (congrArg Value.bool hb)
          refine ls<|gn hF rfl rfl rfl rfl fun a hF=>?_
          refine ls<|gn hF rfl rfl rfl rfl fun a hF=>?_
          refine ls<|gn hF rfl rfl rfl rfl fun a hF=>?_
          refine ls<|gn hF rfl rfl rfl rfl fun a hF=>?_
          refine ls<|gy hF rfl rfl<|q1 hF rfl (e_as (v':=.bool ((!(((((decide (p1.Kind=1)) || (decide (p1.Kind=3))) || (decide (p1.Kind=4))) || (decide (p1.Kind=12))) || (decide (p1.Kind=15)))) && (decide (0 < (p1.E.length:Int))))) (e_pickF hF rfl rfl) (by rw [hb];rfl)) fun a hF=>?_
          exact key _ _ (hF.has ⟨rfl,rfl,rfl,rfl,rfl,rfl,rfl,trivial⟩) hS
        intro a w hF hS
        refine ls<|q1 hF rfl (e_pickF hF rfl rfl) fun a hF=>?_
        refine ls<|q1 hF rfl (e_as (e_move hF rfl) (congrArg Value.bool hb51)) fun a hF=>?_
        refine ls<|gn hF rfl rfl rfl rfl fun a hF=>?_
        refine ls<|gn hF rfl rfl rfl rfl fun a hF=>?_
        refine ls<|gn hF rfl rfl rfl rfl fun a hF=>?_
        refine ls<|gnu hF rfl rfl rfl fun a hF=>?_
        refine ls<|gnu hF rfl rfl rfl fun a hF=>?_
        refine ls<|gnu hF rfl rfl rfl fun a hF=>?_
        refine ls<|gnu hF rfl rfl rfl fun a hF=>?_
        refine ls<|gnu hF rfl rfl rfl fun a hF=>?_
        refine ls<|gnu hF rfl rfl rfl fun a hF=>?_
        refine ls<|gn hF rfl rfl rfl rfl fun a hF=>?_
        refine ls<|q1 hF rfl (e_pickT hF rfl rfl) fun a hF=>?_
        refine ls<|q1 hF rfl (e_move hF rfl) fun a hF=>?_
        refine ls<|gn hF rfl rfl rfl rfl fun a hF=>?_
        refine ls<|gn hF rfl rfl rfl rfl fun a hF=>?_
        refine ls<|gn hF rfl rfl rfl rfl fun a hF=>?_
        refine ls<|gnu hF rfl rfl rfl fun a hF=>?_
        refine ls<|gnu hF rfl rfl rfl fun a hF=>?_
        refine ls<|gnu hF rfl rfl rfl fun a hF=>?_
        refine ls<|gnu hF rfl rfl rfl fun a hF=>?_
        refine ls<|gn hF rfl rfl rfl rfl fun a hF=>?_
        refine ls<|q1 hF rfl (e_pickT hF rfl rfl) fun a hF=>?_
        refine re<|?_
        refine tn<|?_
        replace hS:=hS.pickL .nil
        exact ⟨true,hm,hF.has ⟨rfl,rfl,rfl,rfl,trivial⟩,hS⟩
      ·
        replace hm:=ite_f hm hb51
        rcases bdich (decide (p1.Kind=4)) with hb52 | hb52
        ·
          replace hm:=itp_t hm hb52
          replace hm:=bind_some hm
          obtain ⟨r53,h54,hm⟩:=hm
          refine rg<|?_
          refine ls<|q1 hF rfl (e_move hF rfl) fun a hF=>?_
          refine ls<|q1 hF rfl (e_as (e_move hF rfl) (congrArg Value.bool hb44)) fun a hF=>?_
          refine ls<|gn hF rfl rfl rfl rfl fun a hF=>?_
          refine ls<|gn hF rfl rfl rfl rfl fun a hF=>?_
          refine ls<|gn hF rfl rfl rfl rfl fun a hF=>?_
          refine ls<|gn hF rfl rfl rfl rfl fun a hF=>?_
          refine ls<|gn hF rfl rfl rfl rfl fun a hF=>?_
          refine ls<|gn hF rfl rfl rfl rfl fun a hF=>?_
          refine ls<|q1 hF rfl (e_pickF hF rfl rfl) fun a hF=>?_
          refine ls<|q1 hF rfl (e_move hF rfl) fun a hF=>?_
          refine ls<|gy hF rfl rfl<|q1 hF rfl (e_move hF rfl) fun a hF=>?_
          refine ls<|gy hF rfl rfl<|q1 hF rfl (e_not hF rfl) fun a hF=>?_
          refine ls<|gy hF rfl rfl<|q1 hF rfl (e_move hF rfl) fun a hF=>?_
          refine grp (N:=153) (Fk:=[(5,.pointer (some ⟨b22,0,none⟩)),(6,.pointer (some ⟨b23,0,none⟩)),(11,.int .i64 p1.Kind),(12,.bool vA2),(13,.bool vA3),(109,.bool false),(117,.bool ((!(((((decide (p1.Kind=1)) || (decide (p1.Kind=3))) || (decide (p1.Kind=4))) || (decide (p1.Kind=12))) || (decide (p1.Kind=15)))) && (decide (0 < (p1.E.length:Int)))))]) (b:=(!(((((decide (p1.Kind=1)) || (decide (p1.Kind=3))) || (decide (p1.Kind=4))) || (decide (p1.Kind=12))) || (decide (p1.Kind=15))))) 5 hS ?_ ?_ ?_
          ·
            intro hb key
            replace hF:=Fr.as hF (t:=112) rfl (congrArg Value.bool hb)
            refine ls<|gy hF rfl rfl<|q1 hF rfl (e_fa hF fa85_3 rfl) fun a hF=>?_
            refine ls<|gy hF rfl rfl<|q1 hF rfl (e_ld hF Tryz.isAgg54 rfl ((St.ld hS).cellB (.head _) rfl)) fun a hF=>?_
            refine ls<|gy hF rfl rfl<|q1 hF rfl (e_lenL (α:=api_Op) (xs:=p1.E) hF Tryz.runUnderlying54 rfl) fun a hF=>?_
            refine ls<|gy hF rfl rfl<|q1 hF rfl (e_gtr hF rfl rfl) fun a hF=>?_
            refine ls<|gy hF rfl rfl<|q1 hF rfl (e_as (v':=.bool ((!(((((decide (p1.Kind=1)) || (decide (p1.Kind=3))) || (decide (p1.Kind=4))) || (decide (p1.Kind=12))) || (decide (p1.Kind=15)))) && (decide (0 < (p1.E.length:Int))))) (e_pickT hF rfl rfl) (by rw [hb];rfl)) fun a hF=>?_
            exact key _ _ (hF.has ⟨rfl,rfl,rfl,rfl,rfl,rfl,rfl,trivial⟩) hS
          ·
            intro hb key
            replace hF:=Fr.as hF (t:=112) rfl (congrArg Value.bool hb)
            refine ls<|gn hF rfl rfl rfl rfl fun a hF=>?_
            refine ls<|gn hF rfl rfl rfl rfl fun a hF=>?_
            refine ls<|gn hF rfl rfl rfl rfl fun a hF=>?_
            refine ls<|gn hF rfl rfl rfl rfl fun a hF=>?_
            refine ls<|gy hF rfl rfl<|q1 hF rfl (e_as (v':=.bool ((!(((((decide (p1.Kind=1)) || (decide (p1.Kind=3))) || (decide (p1.Kind=4))) || (decide (p1.Kind=12))) || (decide (p1.Kind=15)))) && (decide (0 < (p1.E.length:Int))))) (e_pickF hF rfl rfl) (by rw [hb];rfl)) fun a hF=>?_
            exact key _ _ (hF.has ⟨rfl,rfl,rfl,rfl,rfl,rfl,rfl,trivial⟩) hS
          intro a w hF hS
          refine ls<|q1 hF rfl (e_pickF hF rfl rfl) fun a hF=>?_
          refine ls<|q1 hF rfl (e_as (e_move hF rfl) (congrArg Value.bool hb51)) fun a hF=>?_
          refine ls<|gy hF rfl rfl<|q1 hF rfl (e_move hF rfl) fun a hF=>?_
          refine ls<|gy hF rfl rfl<|q1 hF rfl (e_eql hF rfl rfl) fun a hF=>?_
          refine ls<|gy hF rfl rfl<|q1 hF rfl (e_as (e_move hF rfl) (congrArg Value.bool hb52)) fun a hF=>?_
          refine ls<|gy hF rfl rfl<|q1 hF rfl (e_fa hF fa85_4 rfl) fun a hF=>?_
          refine ls<|gy hF rfl rfl<|q1 hF rfl (e_ld hF Tryz.isAgg54 rfl ((St.ld hS).cellB (.head _) rfl)) fun a hF=>?_
          refine ls<|gy hF rfl rfl<|q1 hF rfl (e_fa hF fa26_0 rfl) fun a hF=>?_
          refine ls<|gy hF rfl rfl<|q1 hF rfl (e_ld hF Tryz.isAgg3 rfl ((St.ld hS).cellB (.tail _ (.head _)) rfl)) fun a hF=>?_
          refine ls<|gy hF rfl rfl<|c1 hF rfl Tryz.call71 (Z1v_c (hp_le _) hc16 (St.srH hS hr17) h54) ⟨rfl,rfl,trivial⟩ (fun v w a hR hF=>?_)
          obtain ⟨rfl,hk⟩:=hR
          replace hS:=hS.pass hk
          clear hk
          refine ls<|gy hF rfl rfl<|q1 hF rfl (e_not hF rfl) fun a hF=>?_
          refine ls<|gy hF rfl rfl<|q1 hF rfl (e_pickT hF rfl rfl) fun a hF=>?_
          refine ls<|q1 hF rfl (e_pickF hF rfl rfl) fun a hF=>?_
          refine ls<|q1 hF rfl (e_move hF rfl) fun a hF=>?_
          refine grp (N:=153) (Fk:=[(11,.int .i64 p1.Kind),(12,.bool vA2),(13,.bool vA3),(140,.bool ((!r53) || ((decide (p1.Kind≠4)) && (decide (0 < (p1.F.length:Int))))))]) (b:=(!r53)) 9 hS ?_ ?_ ?_
          ·
            intro hb key
            replace hF:=Fr.as hF (t:=131) rfl (congrArg Value.bool hb)
            refine ls<|gn hF rfl rfl rfl rfl fun a hF=>?_
            refine ls<|gn hF rfl rfl rfl rfl fun a hF=>?_
            refine ls<|gn hF rfl rfl rfl rfl fun a hF=>?_
            refine ls<|gnu hF rfl rfl rfl fun a hF=>?_
            refine ls<|gnu hF rfl rfl rfl fun a hF=>?_
            refine ls<|gnu hF rfl rfl rfl fun a hF=>?_
            refine ls<|gnu hF rfl rfl rfl fun a hF=>?_
            refine ls<|gn hF rfl rfl rfl rfl fun a hF=>?_
            refine ls<|q1 hF rfl (e_as (v':=.bool ((!r53) || ((decide (p1.Kind≠4)) && (decide (0 < (p1.F.length:Int)))))) (e_pickT hF rfl rfl) (by rw [hb];rfl)) fun a hF=>?_
            exact key _ _ (hF.has ⟨rfl,rfl,rfl,rfl,trivial⟩) hS
          ·
            intro hb key
            replace hF:=Fr.as hF (t:=131) rfl (congrArg Value.bool hb)
            refine ls<|gy hF rfl rfl<|q1 hF rfl (e_move hF rfl) fun a hF=>?_
            refine ls<|gy hF rfl rfl<|q1 hF rfl (e_neq hF rfl rfl) fun a hF=>?_
            refine ls<|gy hF rfl rfl<|q1 hF rfl (e_move hF rfl) fun a hF=>?_
            refine grp (N:=153) (Fk:=[(11,.int .i64 p1.Kind),(12,.bool vA2),(13,.bool vA3),(131,.bool false),(139,.bool ((decide (p1.Kind≠4)) && (decide (0 < (p1.F.length:Int)))))]) (b:=(decide (p1.Kind≠4))) 5 hS ?_ ?_ ?_
            ·
              intro hb key
              replace hF:=Fr.as hF (t:=134) rfl (congrArg Value.bool hb)
              refine ls<|gy hF rfl rfl<|q1 hF rfl (e_fa hF fa85_4 rfl) fun a hF=>?_
              refine ls<|gy hF rfl rfl<|q1 hF rfl (e_ld hF Tryz.isAgg54 rfl ((St.ld hS).cellB (.head _) rfl)) fun a hF=>?_
              refine ls<|gy hF rfl rfl<|q1 hF rfl (e_lenL (α:=api_Op) (xs:=p1.F) hF Tryz.runUnderlying54 rfl) fun a hF=>?_
              refine ls<|gy hF rfl rfl<|q1 hF rfl (e_gtr hF rfl rfl) fun a hF=>?_
              refine ls<|gy hF rfl rfl<|q1 hF rfl (e_as (v':=.bool ((decide (p1.Kind≠4)) && (decide (0 < (p1.F.length:Int))))) (e_pickT hF rfl rfl) (by rw [hb];rfl)) fun a hF=>?_
              exact key _ _ (hF.has ⟨rfl,rfl,rfl,rfl,rfl,trivial⟩) hS
            ·
              intro hb key
              replace hF:=Fr.as hF (t:=134) rfl (congrArg Value.bool hb)
              refine ls<|gn hF rfl rfl rfl rfl fun a hF=>?_
              refine ls<|gn hF rfl rfl rfl rfl fun a hF=>?_
              refine ls<|gn hF rfl rfl rfl rfl fun a hF=>?_
              refine ls<|gn hF rfl rfl rfl rfl fun a hF=>?_
              refine ls<|gy hF rfl rfl<|q1 hF rfl (e_as (v':=.bool ((decide (p1.Kind≠4)) && (decide (0 < (p1.F.length:Int))))) (e_pickF hF rfl rfl) (by rw [hb];rfl)) fun a hF=>?_
              exact key _ _ (hF.has ⟨rfl,rfl,rfl,rfl,rfl,trivial⟩) hS
            intro a w hF hS
            refine ls<|q1 hF rfl (e_as (v':=.bool ((!r53) || ((decide (p1.Kind≠4)) && (decide (0 < (p1.F.length:Int)))))) (e_pickF hF rfl rfl) (by rw [hb];rfl)) fun a hF=>?_
            exact key _ _ (hF.has ⟨rfl,rfl,rfl,rfl,trivial⟩) hS
          intro a w hF hS
          refine re<|?_
          refine tn<|?_
          replace hS:=hS.pickL .nil
          exact ⟨((!r53) || ((decide (p1.Kind≠4)) && (decide (0 < (p1.F.length:Int))))),hm,hF.has ⟨rfl,rfl,rfl,rfl,trivial⟩,hS⟩
        ·
          replace hm:=itp_f hm hb52
          refine rg<|?_
          refine ls<|q1 hF rfl (e_move hF rfl) fun a hF=>?_
          refine ls<|q1 hF rfl (e_as (e_move hF rfl) (congrArg Value.bool hb44)) fun a hF=>?_
          refine ls<|gn hF rfl rfl rfl rfl fun a hF=>?_
          refine ls<|gn hF rfl rfl rfl rfl fun a hF=>?_
          refine ls<|gn hF rfl rfl rfl rfl fun a hF=>?_
          refine ls<|gn hF rfl rfl rfl rfl fun a hF=>?_
          refine ls<|gn hF rfl rfl rfl rfl fun a hF=>?_
          refine ls<|gn hF rfl rfl rfl rfl fun a hF=>?_
          refine ls<|q1 hF rfl (e_pickF hF rfl rfl) fun a hF=>?_
          refine ls<|q1 hF rfl (e_move hF rfl) fun a hF=>?_
          refine ls<|gy hF rfl rfl<|q1 hF rfl (e_move hF rfl) fun a hF=>?_
          refine ls<|gy hF rfl rfl<|q1 hF rfl (e_not hF rfl) fun a hF=>?_
          refine ls<|gy hF rfl rfl<|q1 hF rfl (e_move hF rfl) fun a hF=>?_
          refine grp (N:=153) (Fk:=[(5,.pointer (some ⟨b22,0,none⟩)),(6,.pointer (some ⟨b23,0,none⟩)),(11,.int .i64 p1.Kind),(12,.bool vA2),(13,.bool vA3),(109,.bool false),(117,.bool ((!(((((decide (p1.Kind=1)) || (decide (p1.Kind=3))) || (decide (p1.Kind=4))) || (decide (p1.Kind=12))) || (decide (p1.Kind=15)))) && (decide (0 < (p1.E.length:Int)))))]) (b:=(!(((((decide (p1.Kind=1)) || (decide (p1.Kind=3))) || (decide (p1.Kind=4))) || (decide (p1.Kind=12))) || (decide (p1.Kind=15))))) 5 hS ?_ ?_ ?_
          ·
            intro hb key
            replace hF:=Fr.as hF (t:=112) rfl (congrArg Value.bool hb)
            refine ls<|gy hF rfl rfl<|q1 hF rfl (e_fa hF fa85_3 rfl) fun a hF=>?_
            refine ls<|gy hF rfl rfl<|q1 hF rfl (e_ld hF Tryz.isAgg54 rfl ((St.ld hS).cellB (.head _) rfl)) fun a hF=>?_
            refine ls<|gy hF rfl rfl<|q1 hF rfl (e_lenL (α:=api_Op) (xs:=p1.E) hF Tryz.runUnderlying54 rfl) fun a hF=>?_
            refine ls<|gy hF rfl rfl<|q1 hF rfl (e_gtr hF rfl rfl) fun a hF=>?_
            refine ls<|gy hF rfl rfl<|q1 hF rfl (e_as (v':=.bool ((!(((((decide (p1.Kind=1)) || (decide (p1.Kind=3))) || (decide (p1.Kind=4))) || (decide (p1.Kind=12))) || (decide (p1.Kind=15)))) && (decide (0 < (p1.E.length:Int))))) (e_pickT hF rfl rfl) (by rw [hb];rfl)) fun a hF=>?_
            exact key _ _ (hF.has ⟨rfl,rfl,rfl,rfl,rfl,rfl,rfl,trivial⟩) hS
          ·
            intro hb key
            replace hF:=Fr.as hF (t:=112) rfl (congrArg Value.bool hb)
            refine ls<|gn hF rfl rfl rfl rfl fun a hF=>?_
            refine ls<|gn hF rfl rfl rfl rfl fun a hF=>?_
            refine ls<|gn hF rfl rfl rfl rfl fun a hF=>?_
            refine ls<|gn hF rfl rfl rfl rfl fun a hF=>?_
            refine ls<|gy hF rfl rfl<|q1 hF rfl (e_as (v':=.bool ((!(((((decide (p1.Kind=1)) || (decide (p1.Kind=3))) || (decide (p1.Kind=4))) || (decide (p1.Kind=12))) || (decide (p1.Kind=15)))) && (decide (0 < (p1.E.length:Int))))) (e_pickF hF rfl rfl) (by rw [hb];rfl)) fun a hF=>?_
            exact key _ _ (hF.has ⟨rfl,rfl,rfl,rfl,rfl,rfl,rfl,trivial⟩) hS
          intro a w hF hS
          refine ls<|q1 hF rfl (e_pickF hF rfl rfl) fun a hF=>?_
          refine ls<|q1 hF rfl (e_as (e_move hF rfl) (congrArg Value.bool hb51)) fun a hF=>?_
          refine ls<|gy hF rfl rfl<|q1 hF rfl (e_move hF rfl) fun a hF=>?_
          refine ls<|gy hF rfl rfl<|q1 hF rfl (e_eql hF rfl rfl) fun a hF=>?_
          refine ls<|gy hF rfl rfl<|q1 hF rfl (e_as (e_move hF rfl) (congrArg Value.bool hb52)) fun a hF=>?_
          refine ls<|gn hF rfl rfl rfl rfl fun a hF=>?_
          refine ls<|gn hF rfl rfl rfl rfl fun a hF=>?_
          refine ls<|gn hF rfl rfl rfl rfl fun a hF=>?_
          refine ls<|gn hF rfl rfl rfl rfl fun a hF=>?_
          refine ls<|gn hF rfl rfl rfl rfl fun a hF=>?_
          refine ls<|gn hF rfl rfl rfl rfl fun a hF=>?_
          refine ls<|gy hF rfl rfl<|q1 hF rfl (e_pickF hF rfl rfl) fun a hF=>?_
          refine ls<|q1 hF rfl (e_pickF hF rfl rfl) fun a hF=>?_
          refine ls<|q1 hF rfl (e_move hF rfl) fun a hF=>?_
          refine ls<|gy hF rfl rfl<|q1 hF rfl (e_move hF rfl) fun a hF=>?_
          refine ls<|gy hF rfl rfl<|q1 hF rfl (e_neq hF rfl rfl) fun a hF=>?_
          refine ls<|gy hF rfl rfl<|q1 hF rfl (e_move hF rfl) fun a hF=>?_
          refine grp (N:=153) (Fk:=[(11,.int .i64 p1.Kind),(12,.bool vA2),(13,.bool vA3),(131,.bool false),(139,.bool ((decide (p1.Kind≠4)) && (decide (0 < (p1.F.length:Int)))))]) (b:=(decide (p1.Kind≠4))) 5 hS ?_ ?_ ?_
          ·
            intro hb key
            replace hF:=Fr.as hF (t:=134) rfl (congrArg Value.bool hb)
            refine ls<|gy hF rfl rfl<|q1 hF rfl (e_fa hF fa85_4 rfl) fun a hF=>?_
            refine ls<|gy hF rfl rfl<|q1 hF rfl (e_ld hF Tryz.isAgg54 rfl ((St.ld hS).cellB (.head _) rfl)) fun a hF=>?_
            refine ls<|gy hF rfl rfl<|q1 hF rfl (e_lenL (α:=api_Op) (xs:=p1.F) hF Tryz.runUnderlying54 rfl) fun a hF=>?_
            refine ls<|gy hF rfl rfl<|q1 hF rfl (e_gtr hF rfl rfl) fun a hF=>?_
            refine ls<|gy hF rfl rfl<|q1 hF rfl (e_as (v':=.bool ((decide (p1.Kind≠4)) && (decide (0 < (p1.F.length:Int))))) (e_pickT hF rfl rfl) (by rw [hb];rfl)) fun a hF=>?_
            exact key _ _ (hF.has ⟨rfl,rfl,rfl,rfl,rfl,trivial⟩) hS
          ·
            intro hb key
            replace hF:=Fr.as hF (t:=134) rfl (congrArg Value.bool hb)
            refine ls<|gn hF rfl rfl rfl rfl fun a hF=>?_
            refine ls<|gn hF rfl rfl rfl rfl fun a hF=>?_
            refine ls<|gn hF rfl rfl rfl rfl fun a hF=>?_
            refine ls<|gn hF rfl rfl rfl rfl fun a hF=>?_
            refine ls<|gy hF rfl rfl<|q1 hF rfl (e_as (v':=.bool ((decide (p1.Kind≠4)) && (decide (0 < (p1.F.length:Int))))) (e_pickF hF rfl rfl) (by rw [hb];rfl)) fun a hF=>?_
            exact key _ _ (hF.has ⟨rfl,rfl,rfl,rfl,rfl,trivial⟩) hS
          intro a w hF hS
          refine ls<|q1 hF rfl (e_pickF hF rfl rfl) fun a hF=>?_
          refine re<|?_
          refine tn<|?_
          replace hS:=hS.pickL .nil
          exact ⟨((decide (p1.Kind≠4)) && (decide (0 < (p1.F.length:Int)))),hm,hF.has ⟨rfl,rfl,rfl,rfl,trivial⟩,hS⟩
  clear hm hF hS
  rintro a w ⟨vA4,hm,hF,hS⟩
  unfold Z33 at hm
  rcases bdich vA4 with hb55 | hb55
  ·
    replace hm:=ite_t hm hb55
    refine ctv hF rfl hb55<|th<|?_
    refine rg<|?_
    refine ls<|q1 hF rfl (e_asg hF rfl) fun a hF=>?_
    refine re<|?_
    refine tn<|?_
    refine wr<|tr<|?_
    obtain rfl:=Option.some.inj hm
    exact r1 hF Tryz.results112 rfl ⟨rfl,hS.keep⟩
  ·
    replace hm:=ite_f hm hb55
    refine cfv hF rfl hb55<|wk<|?_
    refine tn<|th<|?_
    refine rg<|?_
    refine ls<|q1 hF rfl (e_move hF rfl) fun a hF=>?_
    refine ls<|q1 hF rfl (e_geq hF rfl rfl) fun a hF=>?_
    refine ls<|q1 hF rfl (e_move hF rfl) fun a hF=>?_
    refine grp (N:=153) (Fk:=[(12,.bool vA2),(13,.bool vA3),(146,.bool ((decide (1≤p1.Kind)) && (decide (p1.Kind≤15))))]) (b:=(decide (1≤p1.Kind))) 3 hS ?_ ?_ ?_
    ·
      intro hb key
      replace hF:=Fr.as hF (t:=143) rfl (congrArg Value.bool hb)
      refine ls<|gy hF rfl rfl<|q1 hF rfl (e_move hF rfl) fun a hF=>?_
      refine ls<|gy hF rfl rfl<|q1 hF rfl (e_leq hF rfl rfl) fun a hF=>?_
      refine ls<|q1 hF rfl (e_as (v':=.bool ((decide (1≤p1.Kind)) && (decide (p1.Kind≤15)))) (e_pickT hF rfl rfl) (by rw [hb];rfl)) fun a hF=>?_
      exact key _ _ (hF.has ⟨rfl,rfl,rfl,trivial⟩) hS
    ·
      intro hb key
      replace hF:=Fr.as hF (t:=143) rfl (congrArg Value.bool hb)
      refine ls<|gn hF rfl rfl rfl rfl fun a hF=>?_
      refine ls<|gn hF rfl rfl rfl rfl fun a hF=>?_
      refine ls<|q1 hF rfl (e_as (v':=.bool ((decide (1≤p1.Kind)) && (decide (p1.Kind≤15)))) (e_pickF hF rfl rfl) (by rw [hb];rfl)) fun a hF=>?_
      exact key _ _ (hF.has ⟨rfl,rfl,rfl,trivial⟩) hS
    intro a w hF hS
    refine ls<|q1 hF rfl (e_move hF rfl) fun a hF=>?_
    refine grp (N:=153) (Fk:=[(13,.bool vA3),(149,.bool (((decide (1≤p1.Kind)) && (decide (p1.Kind≤15))) && vA2))]) (b:=((decide (1≤p1.Kind)) && (decide (p1.Kind≤15)))) 2 hS ?_ ?_ ?_
    ·
      intro hb key
      replace hF:=Fr.as hF (t:=147) rfl (congrArg Value.bool hb)
      refine ls<|gy hF rfl rfl<|q1 hF rfl (e_move hF rfl) fun a hF=>?_
      refine ls<|q1 hF rfl (e_as (v':=.bool (((decide (1≤p1.Kind)) && (decide (p1.Kind≤15))) && vA2)) (e_pickT hF rfl rfl) (by rw [hb];rfl)) fun a hF=>?_
      exact key _ _ (hF.has ⟨rfl,rfl,trivial⟩) hS
    ·
      intro hb key
      replace hF:=Fr.as hF (t:=147) rfl (congrArg Value.bool hb)
      refine ls<|gn hF rfl rfl rfl rfl fun a hF=>?_
      refine ls<|q1 hF rfl (e_as (v':=.bool (((decide (1≤p1.Kind)) && (decide (p1.Kind≤15))) && vA2)) (e_pickF hF rfl rfl) (by rw [hb];rfl)) fun a hF=>?_
      exact key _ _ (hF.has ⟨rfl,rfl,trivial⟩) hS
    intro a w hF hS
    refine ls<|q1 hF rfl (e_move hF rfl) fun a hF=>?_
    refine grp (N:=153) (Fk:=[(152,.bool ((((decide (1≤p1.Kind)) && (decide (p1.Kind≤15))) && vA2) && vA3))]) (b:=(((decide (1≤p1.Kind)) && (decide (p1.Kind≤15))) && vA2)) 2 hS ?_ ?_ ?_
    ·
      intro hb key
      replace hF:=Fr.as hF (t:=150) rfl (congrArg Value.bool hb)
      refine ls<|gy hF rfl rfl<|q1 hF rfl (e_move hF rfl) fun a hF=>?_
      refine ls<|q1 hF rfl (e_as (v':=.bool ((((decide (1≤p1.Kind)) && (decide (p1.Kind≤15))) && vA2) && vA3)) (e_pickT hF rfl rfl) (by rw [hb];rfl)) fun a hF=>?_
      exact key _ _ (hF.has ⟨rfl,trivial⟩) hS
    ·
      intro hb key
      replace hF:=Fr.as hF (t:=150) rfl (congrArg Value.bool hb)
      refine ls<|gn hF rfl rfl rfl rfl fun a hF=>?_
      refine ls<|q1 hF rfl (e_as (v':=.bool ((((decide (1≤p1.Kind)) && (decide (p1.Kind≤15))) && vA2) && vA3)) (e_pickF hF rfl rfl) (by rw [hb];rfl)) fun a hF=>?_
      exact key _ _ (hF.has ⟨rfl,trivial⟩) hS
    intro a w hF hS
    refine ls<|q1 hF rfl (e_asg hF rfl) fun a hF=>?_
    refine re<|?_
    refine tn<|?_
    refine wr<|?_
    obtain rfl:=Option.some.inj hm
    exact r1 hF Tryz.results112 rfl ⟨rfl,hS.keep⟩
set_option maxHeartbeats 4000000 in
set_option maxRecDepth 100000 in
theorem Z3a_c {N:Nat} {w0:World} {H:PH} (hH:H.le w0) {oa2:Option Addr} {cap3:Nat} {p1:(List api_Instr)} (hc4:p1.length≤cap3) (hr5:SR H oa2 p1) {p6:Int} {r:Bool} (hm:Z3a N p1 p6=some r):Tot Tryz.prog 113 #[.slice oa2 p1.length cap3,.int .i64 p6] w0 (fun v w'=>v=.bool r∧Keep Nil w0 w'):=by
  unfold Z3a at hm
  refine fn0 (args:=[.slice oa2 p1.length cap3,.int .i64 p6]) (F:=[(0,.slice oa2 p1.length cap3),(1,.int .i64 p6)]) Tryz.func113 rfl Tryz.ntmps113 rfl rfl fun a hF=>?_
  have hS:St w0 Nil [H] [] w0:=start1 hH
  refine th<|?_
  refine rg<|?_
  refine ls<|q1 hF rfl (e_asg hF rfl) fun a hF=>?_
  refine re<|?_
  refine tn<|th<|?_
  replace hm:=bind_some hm
  obtain ⟨xz7,h8,hm⟩:=hm
  obtain ⟨cz9,g10,hl11⟩:=SR.get hr5 h8
  obtain ⟨oa12,cap13,oa16,cap17,rfl,hc14,hr15,hc18,hr19⟩:=api_Instr_open g10
  refine rg<|?_
  refine ls<|q1 hF rfl (e_move hF rfl) fun a hF=>?_
  refine ls<|q1 hF rfl (e_move hF rfl) fun a hF=>?_
  refine ls<|q1 hF rfl (e_iaI hF Tryz.runUnderlying24 Tryz.sizeOf85 rfl rfl h8 (SR.oaI hr5 (by decide) h8)) fun a hF=>?_
  refine ls<|q1 hF rfl (e_ldA hF Tryz.isAgg85 Tryz.sizeOf85 rfl rfl (fun j v hj=>PH.le.cell (Lds.le (St.ld hS)) (hl11 j v hj))) fun a hF=>?_
  refine ls<|a_alloc (cs:=[.int .i64 0,.int .i64 0,.int .i64 0,.slice none 0 0,.slice none 0 0,.int .i64 0].toArray) hF rfl hS Tryz.zeroValue85 rfl fun b20 w a hS hF=>?_
  refine ls<|s_blkA hF hS Tryz.sizeOf85 rfl rfl rfl rfl (one_cells rfl) .head fun w hS=>?_
  refine re<|?_
  refine tn<|th<|th<|?_
  refine rg<|?_
  refine ls<|q1 hF rfl (e_fa hF fa85_0 rfl) fun a hF=>?_
  refine ls<|q1 hF rfl (e_ld hF Tryz.isAgg3 rfl ((St.ld hS).cellB (.head _) rfl)) fun a hF=>?_
  refine ls<|q1 hF rfl (e_eql hF rfl rfl) fun a hF=>?_
  refine ls<|q1 hF rfl (e_move hF rfl) fun a hF=>?_
  refine grp (N:=90) (Fk:=[(0,.slice oa2 p1.length cap3),(1,.int .i64 p6),(5,.pointer (some ⟨b20,0,none⟩)),(18,.bool ((decide (xz7.Kind=11)) || (decide (xz7.Kind=12))))]) (b:=(decide (xz7.Kind=11))) 4 hS ?_ ?_ ?_
  ·
    intro hb key
    replace hF:=Fr.as hF (t:=14) rfl (congrArg Value.bool hb)
    refine ls<|gn hF rfl rfl rfl rfl fun a hF=>?_
    refine ls<|gn hF rfl rfl rfl rfl fun a hF=>?_
    refine ls<|gn hF rfl rfl rfl rfl fun a hF=>?_
    refine ls<|q1 hF rfl (e_as (v':=.bool ((decide (xz7.Kind=11)) || (decide (xz7.Kind=12)))) (e_pickT hF rfl rfl) (by rw [hb];rfl)) fun a hF=>?_
    exact key _ _ (hF.has ⟨rfl,rfl,rfl,rfl,trivial⟩) hS
  ·
    intro hb key
    replace hF:=Fr.as hF (t:=14) rfl (congrArg Value.bool hb)
    refine ls<|gy hF rfl rfl<|q1 hF rfl (e_fa hF fa85_0 rfl) fun a hF=>?_
    refine ls<|gy hF rfl rfl<|q1 hF rfl (e_ld hF Tryz.isAgg3 rfl ((St.ld hS).cellB (.head _) rfl)) fun a hF=>?_
    refine ls<|gy hF rfl rfl<|q1 hF rfl (e_eql hF rfl rfl) fun a hF=>?_
    refine ls<|q1 hF rfl (e_as (v':=.bool ((decide (xz7.Kind=11)) || (decide (xz7.Kind=12)))) (e_pickF hF rfl rfl) (by rw [hb];rfl)) fun a hF=>?_
    exact key _ _ (hF.has ⟨rfl,rfl,rfl,rfl,trivial⟩) hS
  intro a w hF hS
  refine re<|?_
  rcases bdich ((decide (xz7.Kind=11)) || (decide (xz7.Kind=12))) with hb21 | hb21
  ·
    replace hm:=ite_t hm hb21
    refine tn<|ctv hF rfl hb21<|th<|?_
    refine rg<|?_
    refine ls<|q1 hF rfl (e_fa hF fa85_5 rfl) fun a hF=>?_
    refine ls<|q1 hF rfl (e_ld hF Tryz.isAgg3 rfl ((St.ld hS).cellB (.head _) rfl)) fun a hF=>?_
    refine ls<|q1 hF rfl (e_move hF rfl) fun a hF=>?_
    refine ls<|q1 hF rfl (e_gtr hF rfl rfl) fun a hF=>?_
    refine ls<|q1 hF rfl (e_move hF rfl) fun a hF=>?_
    refine grp (N:=90) (Fk:=[(29,.bool ((decide (p6 < xz7.To)) && (decide (xz7.To≤(p1.length:Int)))))]) (b:=(decide (p6 < xz7.To))) 6 hS ?_ ?_ ?_
    ·
      intro hb key
      replace hF:=Fr.as hF (t:=23) rfl (congrArg Value.bool hb)
      refine ls<|gy hF rfl rfl<|q1 hF rfl (e_fa hF fa85_5 rfl) fun a hF=>?_
      refine ls<|gy hF rfl rfl<|q1 hF rfl (e_ld hF Tryz.isAgg3 rfl ((St.ld hS).cellB (.head _) rfl)) fun a hF=>?_
      refine ls<|gy hF rfl rfl<|q1 hF rfl (e_move hF rfl) fun a hF=>?_
      refine ls<|gy hF rfl rfl<|q1 hF rfl (e_lenL (α:=api_Instr) (xs:=p1) hF Tryz.runUnderlying24 rfl) fun a hF=>?_
      refine ls<|gy hF rfl rfl<|q1 hF rfl (e_leq hF rfl rfl) fun a hF=>?_
      refine ls<|q1 hF rfl (e_as (v':=.bool ((decide (p6 < xz7.To)) && (decide (xz7.To≤(p1.length:Int))))) (e_pickT hF rfl rfl) (by rw [hb];rfl)) fun a hF=>?_
      exact key _ _ (hF.has ⟨rfl,trivial⟩) hS
    ·
      intro hb key
      replace hF:=Fr.as hF (t:=23) rfl (congrArg Value.bool hb)
      refine ls<|gn hF rfl rfl rfl rfl fun a hF=>?_
      refine ls<|gn hF rfl rfl rfl rfl fun a hF=>?_
      refine ls<|gn hF rfl rfl rfl rfl fun a hF=>?_
      refine ls<|gn hF rfl rfl rfl rfl fun a hF=>?_
      refine ls<|gn hF rfl rfl rfl rfl fun a hF=>?_
      refine ls<|q1 hF rfl (e_as (v':=.bool ((decide (p6 < xz7.To)) && (decide (xz7.To≤(p1.length:Int))))) (e_pickF hF rfl rfl) (by rw [hb];rfl)) fun a hF=>?_
      exact key _ _ (hF.has ⟨rfl,trivial⟩) hS
    intro a w hF hS
    refine ls<|q1 hF rfl (e_asg hF rfl) fun a hF=>?_
    refine re<|?_
    refine tn<|?_
    refine wr<|tr<|?_
    obtain rfl:=Option.some.inj hm
    exact r1 hF Tryz.results113 rfl ⟨rfl,hS.keep⟩
  ·
    replace hm:=ite_f hm hb21
    refine tn<|cfv hF rfl hb21<|wk<|?_
    refine tn<|th<|th<|?_
    refine rg<|?_
    refine ls<|q1 hF rfl (e_fa hF fa85_0 rfl) fun a hF=>?_
    refine ls<|q1 hF rfl (e_ld hF Tryz.isAgg3 rfl ((St.ld hS).cellB (.head _) rfl)) fun a hF=>?_
    refine ls<|q1 hF rfl (e_neq hF rfl rfl) fun a hF=>?_
    refine re<|?_
    rcases bdich (decide (xz7.Kind≠14)) with hb22 | hb22
    ·
      replace hm:=itp_t hm hb22
      refine tn<|ctv hF rfl hb22<|th<|?_
      refine rg<|?_
      refine ls<|q1 hF rfl (e_fa hF fa85_5 rfl) fun a hF=>?_
      refine ls<|q1 hF rfl (e_ld hF Tryz.isAgg3 rfl ((St.ld hS).cellB (.head _) rfl)) fun a hF=>?_
      refine ls<|q1 hF rfl (e_eql hF rfl rfl) fun a hF=>?_
      refine ls<|q1 hF rfl (e_asg hF rfl) fun a hF=>?_
      refine re<|?_
      refine tn<|?_
      refine wr<|tr<|?_
      obtain rfl:=Option.some.inj hm
      exact r1 hF Tryz.results113 rfl ⟨rfl,hS.keep⟩
    ·
      replace hm:=itp_f hm hb22
      refine tn<|cfv hF rfl hb22<|wk<|?_
      refine tn<|th<|th<|midK (fun a w=>∃ (vA1:Bool),(Z3b N p1 p6 xz7) vA1=some r∧Fr 90 [(0,.slice oa2 p1.length cap3),(1,.int .i64 p6),(5,.pointer (some ⟨b20,0,none⟩)),(66,.bool vA1)] a∧St w0 Nil [H] [blk b20 (.cells [.int .i64 xz7.Kind,.int .i64 xz7.A,.int .i64 xz7.B,.slice oa12 xz7.E.length cap13,.slice oa16 xz7.F.length cap17,.int .i64 xz7.To].toArray 85 (0,0))] w) ?_ ?_
      ·
        rcases bdich ((decide (xz7.To < 1)) || (decide (p6 < xz7.To))) with hb23 | hb23
        ·
          replace hm:=ite_t hm hb23
          refine rxS 31 hS wide (by kernel_rfl) fun w hS=>?_
          refine x1 (St.ld hS) hF rfl rfl (fun _ _ _ h=>h) (fun w hl=>(e_fa hF fa85_5 rfl)) fun a hF=>?_
          refine x1 (St.ld hS) hF rfl rfl (fun _ _ _ h=>h) (fun w hl=>(e_ld hF Tryz.isAgg3 rfl (hl.cellB (.head _) rfl))) fun a hF=>?_
          refine x1 (St.ld hS) hF rfl rfl (fun _ _ _ h=>h) (fun w hl=>(e_lss hF rfl rfl)) fun a hF=>?_
          refine x1 (St.ld hS) hF rfl rfl (fun _ _ _ h=>h) (fun w hl=>(e_move hF rfl)) fun a hF=>?_
          refine grpX (N:=90) (Fk:=[(0,.slice oa2 p1.length cap3),(1,.int .i64 p6),(5,.pointer (some ⟨b20,0,none⟩)),(44,.bool ((decide (xz7.To < 1)) || (decide (p6 < xz7.To))))]) (b:=(decide (xz7.To < 1))) 5 hS ?_ ?_ ?_
          ·
            intro hb key
            replace hF:=Fr.as hF (t:=39) rfl (congrArg Value.bool hb)
            refine x1n (St.ld hS) hF rfl rfl rfl rfl rfl (fun _ _ _ h=>h) fun a hF=>?_
            refine x1n (St.ld hS) hF rfl rfl rfl rfl rfl (fun _ _ _ h=>h) fun a hF=>?_
            refine x1n (St.ld hS) hF rfl rfl rfl rfl rfl (fun _ _ _ h=>h) fun a hF=>?_
            refine x1n (St.ld hS) hF rfl rfl rfl rfl rfl (fun _ _ _ h=>h) fun a hF=>?_
            refine x1 (St.ld hS) hF rfl rfl (fun _ _ _ h=>h) (fun w hl=>(e_as (v':=.bool ((decide (xz7.To < 1)) || (decide (p6 < xz7.To)))) (e_pickT hF rfl rfl) (by rw [hb];rfl))) fun a hF=>?_
            exact key _ _ (hF.has ⟨rfl,rfl,rfl,rfl,trivial⟩) hS
          ·
            intro hb key
            replace hF:=Fr.as hF (t:=39) rfl (congrArg Value.bool hb)
            refine x1g (St.ld hS) hF rfl rfl rfl rfl (fun _ _ _ h=>h) (fun w hl=>(e_fa hF fa85_5 rfl)) fun a hF=>?_
            refine x1g (St.ld hS) hF rfl rfl rfl rfl (fun _ _ _ h=>h) (fun w hl=>(e_ld hF Tryz.isAgg3 rfl (hl.cellB (.head _) rfl))) fun a hF=>?_
            refine x1g (St.ld hS) hF rfl rfl rfl rfl (fun _ _ _ h=>h) (fun w hl=>(e_move hF rfl)) fun a hF=>?_
            refine x1g (St.ld hS) hF rfl rfl rfl rfl (fun _ _ _ h=>h) (fun w hl=>(e_gtr hF rfl rfl)) fun a hF=>?_
            refine x1 (St.ld hS) hF rfl rfl (fun _ _ _ h=>h) (fun w hl=>(e_as (v':=.bool ((decide (xz7.To < 1)) || (decide (p6 < xz7.To)))) (e_pickF hF rfl rfl) (by rw [hb];rfl))) fun a hF=>?_
            exact key _ _ (hF.has ⟨rfl,rfl,rfl,rfl,trivial⟩) hS
          intro a w hF hS
          refine x1 (St.ld hS) hF rfl rfl (fun _ _ _ h=>h) (fun w hl=>(e_as (e_move hF rfl) (congrArg Value.bool hb23))) fun a hF=>?_
          refine x1n (St.ld hS) hF rfl rfl rfl rfl rfl (fun _ _ _ h=>h) fun a hF=>?_
          refine x1n (St.ld hS) hF rfl rfl rfl rfl rfl (fun _ _ _ h=>h) fun a hF=>?_
          refine x1n (St.ld hS) hF rfl rfl rfl rfl rfl (fun _ _ _ h=>h) fun a hF=>?_
          refine x1n (St.ld hS) hF rfl rfl rfl rfl rfl (fun _ _ _ h=>h) fun a hF=>?_
          refine x1n (St.ld hS) hF rfl rfl rfl rfl rfl (fun _ _ _ h=>h) fun a hF=>?_
          refine x1n (St.ld hS) hF rfl rfl rfl rfl rfl (fun _ _ _ h=>h) fun a hF=>?_
          refine x1n (St.ld hS) hF rfl rfl rfl rfl rfl (fun _ _ _ h=>h) fun a hF=>?_
          refine x1n (St.ld hS) hF rfl rfl rfl rfl rfl (fun _ _ _ h=>h) fun a hF=>?_
          refine x1 (St.ld hS) hF rfl rfl (fun _ _ _ h=>h) (fun w hl=>(e_pickT hF rfl rfl)) fun a hF=>?_
          refine x1 (St.ld hS) hF rfl rfl (fun _ _ _ h=>h) (fun w hl=>(e_move hF rfl)) fun a hF=>?_
          refine x1n (St.ld hS) hF rfl rfl rfl rfl rfl (fun _ _ _ h=>h) fun a hF=>?_
          refine x1n (St.ld hS) hF rfl rfl rfl rfl rfl (fun _ _ _ h=>h) fun a hF=>?_
          refine x1n (St.ld hS) hF rfl rfl rfl rfl rfl (fun _ _ _ h=>h) fun a hF=>?_
          refine x1n (St.ld hS) hF rfl rfl rfl rfl rfl (fun _ _ _ h=>h) fun a hF=>?_
          refine x1n (St.ld hS) hF rfl rfl rfl rfl rfl (fun _ _ _ h=>h) fun a hF=>?_
          refine x1n (St.ld hS) hF rfl rfl rfl rfl rfl (fun _ _ _ h=>h) fun a hF=>?_
          refine x1n (St.ld hS) hF rfl rfl rfl rfl rfl (fun _ _ _ h=>h) fun a hF=>?_
          refine x1n (St.ld hS) hF rfl rfl rfl rfl rfl (fun _ _ _ h=>h) fun a hF=>?_
          refine x1n (St.ld hS) hF rfl rfl rfl rfl rfl (fun _ _ _ h=>h) fun a hF=>?_
          refine x1n (St.ld hS) hF rfl rfl rfl rfl rfl (fun _ _ _ h=>h) fun a hF=>?_
          refine x1 (St.ld hS) hF rfl rfl (fun _ _ _ h=>h) (fun w hl=>(e_pickT hF rfl rfl)) fun a hF=>?_
          refine xe<|?_
          refine tn<|?_
          exact ⟨true,hm,hF.has ⟨rfl,rfl,rfl,rfl,trivial⟩,hS⟩
        ·
          replace hm:=ite_f hm hb23
          replace hm:=bind_some hm
          obtain ⟨x24,h25,hm⟩:=hm
          obtain ⟨c26,g27,hl28⟩:=SR.get hr5 h25
          obtain ⟨oa29,cap30,oa33,cap34,rfl,hc31,hr32,hc35,hr36⟩:=api_Instr_open g27
          refine rxS 31 hS wide (by kernel_rfl) fun w hS=>?_
          refine x1 (St.ld hS) hF rfl rfl (fun _ _ _ h=>h) (fun w hl=>(e_fa hF fa85_5 rfl)) fun a hF=>?_
          refine x1 (St.ld hS) hF rfl rfl (fun _ _ _ h=>h) (fun w hl=>(e_ld hF Tryz.isAgg3 rfl (hl.cellB (.head _) rfl))) fun a hF=>?_
          refine x1 (St.ld hS) hF rfl rfl (fun _ _ _ h=>h) (fun w hl=>(e_lss hF rfl rfl)) fun a hF=>?_
          refine x1 (St.ld hS) hF rfl rfl (fun _ _ _ h=>h) (fun w hl=>(e_move hF rfl)) fun a hF=>?_
          refine grpX (N:=90) (Fk:=[(0,.slice oa2 p1.length cap3),(1,.int .i64 p6),(5,.pointer (some ⟨b20,0,none⟩)),(44,.bool ((decide (xz7.To < 1)) || (decide (p6 < xz7.To))))]) (b:=(decide (xz7.To < 1))) 5 hS ?_ ?_ ?_
          ·
            intro hb key
            replace hF:=Fr.as hF (t:=39) rfl (congrArg Value.bool hb)
            refine x1n (St.ld hS) hF rfl rfl rfl rfl rfl (fun _ _ _ h=>h) fun a hF=>?_
            refine x1n (St.ld hS) hF rfl rfl rfl rfl rfl (fun _ _ _ h=>h) fun a hF=>?_
            refine x1n (St.ld hS) hF rfl rfl rfl rfl rfl (fun _ _ _ h=>h) fun a hF=>?_
            refine x1n (St.ld hS) hF rfl rfl rfl rfl rfl (fun _ _ _ h=>h) fun a hF=>?_
            refine x1 (St.ld hS) hF rfl rfl (fun _ _ _ h=>h) (fun w hl=>(e_as (v':=.bool ((decide (xz7.To < 1)) || (decide (p6 < xz7.To)))) (e_pickT hF rfl rfl) (by rw [hb];rfl))) fun a hF=>?_
            exact key _ _ (hF.has ⟨rfl,rfl,rfl,rfl,trivial⟩) hS
          ·
            intro hb key
            replace hF:=Fr.as hF (t:=39) rfl (congrArg Value.bool hb)
            refine x1g (St.ld hS) hF rfl rfl rfl rfl (fun _ _ _ h=>h) (fun w hl=>(e_fa hF fa85_5 rfl)) fun a hF=>?_
            refine x1g (St.ld hS) hF rfl rfl rfl rfl (fun _ _ _ h=>h) (fun w hl=>(e_ld hF Tryz.isAgg3 rfl (hl.cellB (.head _) rfl))) fun a hF=>?_
            refine x1g (St.ld hS) hF rfl rfl rfl rfl (fun _ _ _ h=>h) (fun w hl=>(e_move hF rfl)) fun a hF=>?_
            refine x1g (St.ld hS) hF rfl rfl rfl rfl (fun _ _ _ h=>h) (fun w hl=>(e_gtr hF rfl rfl)) fun a hF=>?_
            refine x1 (St.ld hS) hF rfl rfl (fun _ _ _ h=>h) (fun w hl=>(e_as (v':=.bool ((decide (xz7.To < 1)) || (decide (p6 < xz7.To)))) (e_pickF hF rfl rfl) (by rw [hb];rfl))) fun a hF=>?_
            exact key _ _ (hF.has ⟨rfl,rfl,rfl,rfl,trivial⟩) hS
          intro a w hF hS
          refine x1 (St.ld hS) hF rfl rfl (fun _ _ _ h=>h) (fun w hl=>(e_as (e_move hF rfl) (congrArg Value.bool hb23))) fun a hF=>?_
          refine x1g (St.ld hS) hF rfl rfl rfl rfl (fun _ _ _ h=>h) (fun w hl=>(e_move hF rfl)) fun a hF=>?_
          refine x1g (St.ld hS) hF rfl rfl rfl rfl (fun _ _ _ h=>h) (fun w hl=>(e_fa hF fa85_5 rfl)) fun a hF=>?_
          refine x1g (St.ld hS) hF rfl rfl rfl rfl (fun _ _ _ h=>h) (fun w hl=>(e_ld hF Tryz.isAgg3 rfl (hl.cellB (.head _) rfl))) fun a hF=>?_
          refine x1g (St.ld hS) hF rfl rfl rfl rfl (fun _ _ _ h=>h) (fun w hl=>(e_sub hF rfl rfl)) fun a hF=>?_
          refine x1g (St.ld hS) hF rfl rfl rfl rfl (fun _ _ _ h=>h) (fun w hl=>(e_iaI hF Tryz.runUnderlying24 Tryz.sizeOf85 rfl rfl h25 (SR.oaI hr5 (by decide) h25))) fun a hF=>?_
          refine x1g (St.ld hS) hF rfl rfl rfl rfl (fun _ _ _ h=>h) (fun w hl=>(e_fa hF fa85_0 rfl)) fun a hF=>?_
          refine x1g (St.ld hS) hF rfl rfl rfl rfl (fun _ _ _ h=>h) (fun w hl=>(e_ld hF Tryz.isAgg3 rfl (PH.le.cell (Lds.le hl) (hl28 0 _ rfl)))) fun a hF=>?_
          refine x1g (St.ld hS) hF rfl rfl rfl rfl (fun _ _ _ h=>h) (fun w hl=>(e_neq hF rfl rfl)) fun a hF=>?_
          refine x1 (St.ld hS) hF rfl rfl (fun _ _ _ h=>h) (fun w hl=>(e_pickF hF rfl rfl)) fun a hF=>?_
          refine x1 (St.ld hS) hF rfl rfl (fun _ _ _ h=>h) (fun w hl=>(e_move hF rfl)) fun a hF=>?_
          refine grpX (N:=90) (Fk:=[(0,.slice oa2 p1.length cap3),(1,.int .i64 p6),(5,.pointer (some ⟨b20,0,none⟩)),(66,.bool ((decide (x24.Kind≠13)) || (decide (x24.A≠xz7.A))))]) (b:=(decide (x24.Kind≠13))) 11 hS ?_ ?_ ?_
          ·
            intro hb key
            replace hF:=Fr.as hF (t:=55) rfl (congrArg Value.bool hb)
            refine x1n (St.ld hS) hF rfl rfl rfl rfl rfl (fun _ _ _ h=>h) fun a hF=>?_
            refine x1n (St.ld hS) hF rfl rfl rfl rfl rfl (fun _ _ _ h=>h) fun a hF=>?_
            refine x1n (St.ld hS) hF rfl rfl rfl rfl rfl (fun _ _ _ h=>h) fun a hF=>?_
            refine x1n (St.ld hS) hF rfl rfl rfl rfl rfl (fun _ _ _ h=>h) fun a hF=>?_
            refine x1n (St.ld hS) hF rfl rfl rfl rfl rfl (fun _ _ _ h=>h) fun a hF=>?_
            refine x1n (St.ld hS) hF rfl rfl rfl rfl rfl (fun _ _ _ h=>h) fun a hF=>?_
            refine x1n (St.ld hS) hF rfl rfl rfl rfl rfl (fun _ _ _ h=>h) fun a hF=>?_
            refine x1n (St.ld hS) hF rfl rfl rfl rfl rfl (fun _ _ _ h=>h) fun a hF=>?_
            refine x1n (St.ld hS) hF rfl rfl rfl rfl rfl (fun _ _ _ h=>h) fun a hF=>?_
            refine x1n (St.ld hS) hF rfl rfl rfl rfl rfl (fun _ _ _ h=>h) fun a hF=>?_
            refine x1 (St.ld hS) hF rfl rfl (fun _ _ _ h=>h) (fun w hl=>(e_as (v':=.bool ((decide (x24.Kind≠13)) || (decide (x24.A≠xz7.A)))) (e_pickT hF rfl rfl) (by rw [hb];rfl))) fun a hF=>?_
            exact key _ _ (hF.has ⟨rfl,rfl,rfl,rfl,trivial⟩) hS
          ·
            intro hb key
            replace hF:=Fr.as hF (t:=55) rfl (congrArg Value.bool hb)
            refine x1g (St.ld hS) hF rfl rfl rfl rfl (fun _ _ _ h=>h) (fun w hl=>(e_move hF rfl)) fun a hF=>?_
            refine x1g (St.ld hS) hF rfl rfl rfl rfl (fun _ _ _ h=>h) (fun w hl=>(e_fa hF fa85_5 rfl)) fun a hF=>?_
            refine x1g (St.ld hS) hF rfl rfl rfl rfl (fun _ _ _ h=>h) (fun w hl=>(e_ld hF Tryz.isAgg3 rfl (hl.cellB (.head _) rfl))) fun a hF=>?_
            refine x1g (St.ld hS) hF rfl rfl rfl rfl (fun _ _ _ h=>h) (fun w hl=>(e_sub hF rfl rfl)) fun a hF=>?_
            refine x1g (St.ld hS) hF rfl rfl rfl rfl (fun _ _ _ h=>h) (fun w hl=>(e_iaI hF Tryz.runUnderlying24 Tryz.sizeOf85 rfl rfl h25 (SR.oaI hr5 (by decide) h25))) fun a hF=>?_
            refine x1g (St.ld hS) hF rfl rfl rfl rfl (fun _ _ _ h=>h) (fun w hl=>(e_fa hF fa85_1 rfl)) fun a hF=>?_
            refine x1g (St.ld hS) hF rfl rfl rfl rfl (fun _ _ _ h=>h) (fun w hl=>(e_ld hF Tryz.isAgg3 rfl (PH.le.cell (Lds.le hl) (hl28 1 _ rfl)))) fun a hF=>?_
            refine x1g (St.ld hS) hF rfl rfl rfl rfl (fun _ _ _ h=>h) (fun w hl=>(e_fa hF fa85_1 rfl)) fun a hF=>?_
            refine x1g (St.ld hS) hF rfl rfl rfl rfl (fun _ _ _ h=>h) (fun w hl=>(e_ld hF Tryz.isAgg3 rfl (hl.cellB (.head _) rfl))) fun a hF=>?_
            refine x1g (St.ld hS) hF rfl rfl rfl rfl (fun _ _ _ h=>h) (fun w hl=>(e_neq hF rfl rfl)) fun a hF=>?_
            refine x1 (St.ld hS) hF rfl rfl (fun _ _ _ h=>h) (fun w hl=>(e_as (v':=.bool ((decide (x24.Kind≠13)) || (decide (x24.A≠xz7.A)))) (e_pickF hF rfl rfl) (by rw [hb];rfl))) fun a hF=>?_
            exact key _ _ (hF.has ⟨rfl,rfl,rfl,rfl,trivial⟩) hS
          intro a w hF hS
          refine xe<|?_
          refine tn<|?_
          exact ⟨((decide (x24.Kind≠13)) || (decide (x24.A≠xz7.A))),hm,hF.has ⟨rfl,rfl,rfl,rfl,trivial⟩,hS⟩
      clear hm hF hS
      rintro a w ⟨vA1,hm,hF,hS⟩
      unfold Z3b at hm
      rcases bdich vA1 with hb37 | hb37
      ·
        replace hm:=ite_t hm hb37
        refine ctv hF rfl hb37<|th<|?_
        refine rg<|?_
        refine ls<|q1 hF rfl (e_asg hF rfl) fun a hF=>?_
        refine re<|?_
        refine tn<|?_
        refine wr<|tr<|?_
        obtain rfl:=Option.some.inj hm
        exact r1 hF Tryz.results113 rfl ⟨rfl,hS.keep⟩
      ·
        replace hm:=ite_f hm hb37
        refine cfv hF rfl hb37<|wk<|?_
        refine tn<|th<|th<|?_
        refine rg<|?_
        refine ls<|q1 hF rfl (e_fa hF fa85_5 rfl) fun a hF=>?_
        refine ls<|q1 hF rfl (e_ld hF Tryz.isAgg3 rfl ((St.ld hS).cellB (.head _) rfl)) fun a hF=>?_
        refine ls<|q1 hF rfl (e_asg hF rfl) fun a hF=>?_
        refine re<|?_
        refine tn<|midK (fun a w=>Z3c=some r∧Fr 90 [] a∧St w0 Nil [H] [] w) ?_ ?_
        ·
          refine wb<|lp (α:=Nat×Int) (fun (gh:Nat×Int) a w=>match gh with | (nn3,vB1)=>(Z3d N Z3c p1 p6 xz7) nn3 vB1=some r∧Fr 90 [(0,.slice oa2 p1.length cap3),(1,.int .i64 p6),(5,.pointer (some ⟨b20,0,none⟩)),(6,.int .i64 vB1)] a∧St w0 Nil [H] [blk b20 (.cells [.int .i64 xz7.Kind,.int .i64 xz7.A,.int .i64 xz7.B,.slice oa12 xz7.E.length cap13,.slice oa16 xz7.F.length cap17,.int .i64 xz7.To].toArray 85 (0,0))] w) (fun gh=>gh.1) (N,xz7.To) ⟨hm,hF.has ⟨rfl,rfl,rfl,rfl,trivial⟩,hS⟩ ?_
          clear hm hF hS
          rintro ⟨nn3,vB1⟩ a w ⟨hm,hF,hS⟩
          obtain _ | nn3:=nn3
          · simp [Z3d] at hm
          rw [Z3d] at hm
          refine th<|th<|?_
          refine rg<|?_
          refine ls<|q1 hF rfl (e_move hF rfl) fun a hF=>?_
          refine ls<|q1 hF rfl (e_move hF rfl) fun a hF=>?_
          refine ls<|q1 hF rfl (e_lss hF rfl rfl) fun a hF=>?_
          refine re<|?_
          rcases bdich (decide (vB1 < p6)) with hb38 | hb38
          ·
            replace hm:=itp_t hm hb38
            refine tn<|ctv hF rfl hb38<|wk<|?_
            refine tn<|th<|wb<|th<|?_
            replace hm:=bind_some hm
            obtain ⟨x39,h40,hm⟩:=hm
            obtain ⟨c41,g42,hl43⟩:=SR.get hr5 h40
            obtain ⟨oa44,cap45,oa48,cap49,rfl,hc46,hr47,hc50,hr51⟩:=api_Instr_open g42
            refine rxS 16 hS wide (by kernel_rfl) fun w hS=>?_
            refine x1 (St.ld hS) hF rfl rfl (fun _ _ _ h=>h) (fun w hl=>(e_move hF rfl)) fun a hF=>?_
            refine x1 (St.ld hS) hF rfl rfl (fun _ _ _ h=>h) (fun w hl=>(e_move hF rfl)) fun a hF=>?_
            refine x1 (St.ld hS) hF rfl rfl (fun _ _ _ h=>h) (fun w hl=>(e_iaI hF Tryz.runUnderlying24 Tryz.sizeOf85 rfl rfl h40 (SR.oaI hr5 (by decide) h40))) fun a hF=>?_
            refine x1 (St.ld hS) hF rfl rfl (fun _ _ _ h=>h) (fun w hl=>(e_fa hF fa85_0 rfl)) fun a hF=>?_
            refine x1 (St.ld hS) hF rfl rfl (fun _ _ _ h=>h) (fun w hl=>(e_ld hF Tryz.isAgg3 rfl (PH.le.cell (Lds.le hl) (hl43 0 _ rfl)))) fun a hF=>?_
            refine x1 (St.ld hS) hF rfl rfl (fun _ _ _ h=>h) (fun w hl=>(e_eql hF rfl rfl)) fun a hF=>?_
            refine x1 (St.ld hS) hF rfl rfl (fun _ _ _ h=>h) (fun w hl=>(e_move hF rfl)) fun a hF=>?_
            refine grpX (N:=90) (Fk:=[(0,.slice oa2 p1.length cap3),(1,.int .i64 p6),(5,.pointer (some ⟨b20,0,none⟩)),(6,.int .i64 vB1),(89,.bool ((decide (x39.Kind=13)) && (decide (x39.A=xz7.A))))]) (b:=(decide (x39.Kind=13))) 9 hS ?_ ?_ ?_
            ·
              intro hb key
              replace hF:=Fr.as hF (t:=80) rfl (congrArg Value.bool hb)
              refine x1g (St.ld hS) hF rfl rfl rfl rfl (fun _ _ _ h=>h) (fun w hl=>(e_move hF rfl)) fun a hF=>?_
              refine x1g (St.ld hS) hF rfl rfl rfl rfl (fun _ _ _ h=>h) (fun w hl=>(e_move hF rfl)) fun a hF=>?_
              refine x1g (St.ld hS) hF rfl rfl rfl rfl (fun _ _ _ h=>h) (fun w hl=>(e_iaI hF Tryz.runUnderlying24 Tryz.sizeOf85 rfl rfl h40 (SR.oaI hr5 (by decide) h40))) fun a hF=>?_
              refine x1g (St.ld hS) hF rfl rfl rfl rfl (fun _ _ _ h=>h) (fun w hl=>(e_fa hF fa85_1 rfl)) fun a hF=>?_
              refine x1g (St.ld hS) hF rfl rfl rfl rfl (fun _ _ _ h=>h) (fun w hl=>(e_ld hF Tryz.isAgg3 rfl (PH.le.cell (Lds.le hl) (hl43 1 _ rfl)))) fun a hF=>?_
              refine x1g (St.ld hS) hF rfl rfl rfl rfl (fun _ _ _ h=>h) (fun w hl=>(e_fa hF fa85_1 rfl)) fun a hF=>?_
              refine x1g (St.ld hS) hF rfl rfl rfl rfl (fun _ _ _ h=>h) (fun w hl=>(e_ld hF Tryz.isAgg3 rfl (hl.cellB (.head _) rfl))) fun a hF=>?_
              refine x1g (St.ld hS) hF rfl rfl rfl rfl (fun _ _ _ h=>h) (fun w hl=>(e_eql hF rfl rfl)) fun a hF=>?_
              refine x1 (St.ld hS) hF rfl rfl (fun _ _ _ h=>h) (fun w hl=>(e_as (v':=.bool ((decide (x39.Kind=13)) && (decide (x39.A=xz7.A)))) (e_pickT hF rfl rfl) (by rw [hb];rfl))) fun a hF=>?_
              exact key _ _ (hF.has ⟨rfl,rfl,rfl,rfl,rfl,trivial⟩) hS
            ·
              intro hb key
              replace hF:=Fr.as hF (t:=80) rfl (congrArg Value.bool hb)
              refine x1n (St.ld hS) hF rfl rfl rfl rfl rfl (fun _ _ _ h=>h) fun a hF=>?_
              refine x1n (St.ld hS) hF rfl rfl rfl rfl rfl (fun _ _ _ h=>h) fun a hF=>?_
              refine x1n (St.ld hS) hF rfl rfl rfl rfl rfl (fun _ _ _ h=>h) fun a hF=>?_
              refine x1n (St.ld hS) hF rfl rfl rfl rfl rfl (fun _ _ _ h=>h) fun a hF=>?_
              refine x1n (St.ld hS) hF rfl rfl rfl rfl rfl (fun _ _ _ h=>h) fun a hF=>?_
              refine x1n (St.ld hS) hF rfl rfl rfl rfl rfl (fun _ _ _ h=>h) fun a hF=>?_
              refine x1n (St.ld hS) hF rfl rfl rfl rfl rfl (fun _ _ _ h=>h) fun a hF=>?_
              refine x1n (St.ld hS) hF rfl rfl rfl rfl rfl (fun _ _ _ h=>h) fun a hF=>?_
              refine x1 (St.ld hS) hF rfl rfl (fun _ _ _ h=>h) (fun w hl=>(e_as (v':=.bool ((decide (x39.Kind=13)) && (decide (x39.A=xz7.A)))) (e_pickF hF rfl rfl) (by rw [hb];rfl))) fun a hF=>?_
              exact key _ _ (hF.has ⟨rfl,rfl,rfl,rfl,rfl,trivial⟩) hS
            intro a w hF hS
            refine xe<|?_
            rcases bdich ((decide (x39.Kind=13)) && (decide (x39.A=xz7.A))) with hb52 | hb52
            ·
              replace hm:=ite_t hm hb52
              refine tn<|ctv hF rfl hb52<|th<|?_
              refine rg<|?_
              refine ls<|q1 hF rfl (e_asg hF rfl) fun a hF=>?_
              refine re<|?_
              refine tn<|?_
              refine wr<|br<|tr<|tr<|br<|tr<|?_
              obtain rfl:=Option.some.inj hm
              exact r1 hF Tryz.results113 rfl ⟨rfl,hS.keep⟩
            ·
              replace hm:=ite_f hm hb52
              refine tn<|cfv hF rfl hb52<|wk<|?_
              refine bn<|tn<|?_
              refine rg<|?_
              refine ls<|q1 hF rfl (e_move hF rfl) fun a hF=>?_
              refine ls<|q1 hF rfl (e_add hF rfl rfl) fun a hF=>?_
              refine ls<|q1 hF rfl (e_asg hF rfl) fun a hF=>?_
              refine re<|?_
              refine tn<|?_
              exact ⟨(nn3,(IntKind.i64.wrap (vB1+1))),⟨hm,hF.has ⟨rfl,rfl,rfl,rfl,trivial⟩,hS⟩,Nat.lt_succ_self _⟩
          ·
            replace hm:=itp_f hm hb38
            refine tn<|cfv hF rfl hb38<|?_
            refine we<|tx<|tx<|bx<|?_
            refine tn<|?_
            replace hS:=hS.pickL .nil
            exact ⟨hm,hF.has trivial,hS⟩
        clear hm hF hS
        rintro a w ⟨hm,hF,hS⟩
        unfold Z3c at hm
        refine th<|?_
        refine rg<|?_
        refine ls<|q1 hF rfl (e_asg hF rfl) fun a hF=>?_
        refine re<|?_
        refine tn<|?_
        refine wr<|?_
        obtain rfl:=Option.some.inj hm
        exact r1 hF Tryz.results113 rfl ⟨rfl,hS.keep⟩
end Go.LM.BINZ
