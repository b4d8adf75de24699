/- Walks, lifted by program. No condition beyond each theorem's own premises. -/
import Derived.Test.YtkgaliichchanaaLRB
namespace Go.LM.LINES
open Go Go.LL Go.MD Go.LM Go.Proofs Go.MD.LINES

set_option maxHeartbeats 4000000 in
set_option maxRecDepth 100000 in
theorem leadlineref11_New_c {N : Nat} {w0 : World} {H : PH} (hH : H.le w0) {oa2 : Option Addr} {cap3 : Nat} {p1 : (List Int)} (hc4 : p1.length ≤ cap3) (hr5 : SR H oa2 p1) {p6 : Int} {oa8 : Option Addr} {cap9 : Nat} {p7 : (List Int)} (hc10 : p7.length ≤ cap9) (hr11 : SR H oa8 p7) {r : ((Option leadlineref11_Mem) × Int)} (hm : leadlineref11_New N p1 p6 p7 = some r) : Tot Try.prog 21 #[.slice oa2 p1.length cap3, .int .i64 p6, .slice oa8 p7.length cap9] w0 (fun v w' => ∃ (vm0 : Value) (A0 : HA), v = .tuple #[vm0, .int .i64 r.2] ∧ OPtr71 vm0 A0 r.1 ∧ Fresh w0 (A0) w') := by
  unfold leadlineref11_New at hm
  refine fn0 (args := [.slice oa2 p1.length cap3, .int .i64 p6, .slice oa8 p7.length cap9]) (F := [(0, .slice oa2 p1.length cap3), (1, .int .i64 p6), (2, .slice oa8 p7.length cap9)]) Try.func21 rfl Try.ntmps21 rfl rfl fun a hF => ?_
  have hS : St w0 Nil [H] [] w0 := start1 hH
  refine th <| ?_
  refine rg <| ?_
  refine ls <| q1 hF rfl (e_asg hF rfl) fun a hF => ?_
  refine ls <| q1 hF rfl (e_asg hF rfl) fun a hF => ?_
  refine re <| ?_
  refine tn <| th <| th <| ?_
  refine rg <| ?_
  refine ls <| q1 hF rfl (e_move hF rfl) fun a hF => ?_
  refine ls <| q1 hF rfl (e_lenL (α := Int) (xs := p1) hF Try.runUnderlying26 rfl) fun a hF => ?_
  refine ls <| q1 hF rfl (e_move hF rfl) fun a hF => ?_
  refine ls <| q1 hF rfl (e_lenL (α := Int) (xs := p7) hF Try.runUnderlying26 rfl) fun a hF => ?_
  refine ls <| q1 hF rfl (e_neq hF rfl rfl) fun a hF => ?_
  refine ls <| q1 hF rfl (e_move hF rfl) fun a hF => ?_
  refine grp (N := 97) (Fk := [(0, .slice oa2 p1.length cap3), (1, .int .i64 p6), (2, .slice oa8 p7.length cap9), (19, .bool ((decide ((p1.length : Int) ≠ (p7.length : Int))) || (decide (20 < (p1.length : Int)))))]) (b := (decide ((p1.length : Int) ≠ (p7.length : Int)))) 4 hS ?_ ?_ ?_
  ·
    intro hb key
    replace hF := Fr.as hF (t := 15) rfl (congrArg Value.bool hb)
    refine ls <| gn hF rfl rfl rfl rfl fun a hF => ?_
    refine ls <| gn hF rfl rfl rfl rfl fun a hF => ?_
    refine ls <| gn hF rfl rfl rfl rfl fun a hF => ?_
    refine ls <| q1 hF rfl (e_as (v' := .bool ((decide ((p1.length : Int) ≠ (p7.length : Int))) || (decide (20 < (p1.length : Int))))) (e_pickT hF rfl rfl) (by rw [hb]; rfl)) fun a hF => ?_
    exact key _ _ (hF.has ⟨rfl, rfl, rfl, rfl, trivial⟩) hS
  ·
    intro hb key
    replace hF := Fr.as hF (t := 15) rfl (congrArg Value.bool hb)
    refine ls <| gy hF rfl rfl <| q1 hF rfl (e_move hF rfl) fun a hF => ?_
    refine ls <| gy hF rfl rfl <| q1 hF rfl (e_lenL (α := Int) (xs := p1) hF Try.runUnderlying26 rfl) fun a hF => ?_
    refine ls <| gy hF rfl rfl <| q1 hF rfl (e_gtr hF rfl rfl) fun a hF => ?_
    refine ls <| q1 hF rfl (e_as (v' := .bool ((decide ((p1.length : Int) ≠ (p7.length : Int))) || (decide (20 < (p1.length : Int))))) (e_pickF hF rfl rfl) (by rw [hb]; rfl)) fun a hF => ?_
    exact key _ _ (hF.has ⟨rfl, rfl, rfl, rfl, trivial⟩) hS
  intro a w hF hS
  refine ls <| q1 hF rfl (e_move hF rfl) fun a hF => ?_
  refine grp (N := 97) (Fk := [(0, .slice oa2 p1.length cap3), (1, .int .i64 p6), (2, .slice oa8 p7.length cap9), (23, .bool (((decide ((p1.length : Int) ≠ (p7.length : Int))) || (decide (20 < (p1.length : Int)))) || (decide (p6 < 0))))]) (b := ((decide ((p1.length : Int) ≠ (p7.length : Int))) || (decide (20 < (p1.length : Int))))) 3 hS ?_ ?_ ?_
  ·
    intro hb key
    replace hF := Fr.as hF (t := 20) rfl (congrArg Value.bool hb)
    refine ls <| gn hF rfl rfl rfl rfl fun a hF => ?_
    refine ls <| gn hF rfl rfl rfl rfl fun a hF => ?_
    refine ls <| q1 hF rfl (e_as (v' := .bool (((decide ((p1.length : Int) ≠ (p7.length : Int))) || (decide (20 < (p1.length : Int)))) || (decide (p6 < 0)))) (e_pickT hF rfl rfl) (by rw [hb]; rfl)) fun a hF => ?_
    exact key _ _ (hF.has ⟨rfl, rfl, rfl, rfl, trivial⟩) hS
  ·
    intro hb key
    replace hF := Fr.as hF (t := 20) rfl (congrArg Value.bool hb)
    refine ls <| gy hF rfl rfl <| q1 hF rfl (e_move hF rfl) fun a hF => ?_
    refine ls <| gy hF rfl rfl <| q1 hF rfl (e_lss hF rfl rfl) fun a hF => ?_
    refine ls <| q1 hF rfl (e_as (v' := .bool (((decide ((p1.length : Int) ≠ (p7.length : Int))) || (decide (20 < (p1.length : Int)))) || (decide (p6 < 0)))) (e_pickF hF rfl rfl) (by rw [hb]; rfl)) fun a hF => ?_
    exact key _ _ (hF.has ⟨rfl, rfl, rfl, rfl, trivial⟩) hS
  intro a w hF hS
  refine ls <| q1 hF rfl (e_move hF rfl) fun a hF => ?_
  refine grp (N := 97) (Fk := [(0, .slice oa2 p1.length cap3), (1, .int .i64 p6), (2, .slice oa8 p7.length cap9), (29, .bool ((((decide ((p1.length : Int) ≠ (p7.length : Int))) || (decide (20 < (p1.length : Int)))) || (decide (p6 < 0))) || (decide ((p1.length : Int) < p6))))]) (b := (((decide ((p1.length : Int) ≠ (p7.length : Int))) || (decide (20 < (p1.length : Int)))) || (decide (p6 < 0)))) 5 hS ?_ ?_ ?_
  ·
    intro hb key
    replace hF := Fr.as hF (t := 24) rfl (congrArg Value.bool hb)
    refine ls <| gn hF rfl rfl rfl rfl fun a hF => ?_
    refine ls <| gn hF rfl rfl rfl rfl fun a hF => ?_
    refine ls <| gn hF rfl rfl rfl rfl fun a hF => ?_
    refine ls <| gn hF rfl rfl rfl rfl fun a hF => ?_
    refine ls <| q1 hF rfl (e_as (v' := .bool ((((decide ((p1.length : Int) ≠ (p7.length : Int))) || (decide (20 < (p1.length : Int)))) || (decide (p6 < 0))) || (decide ((p1.length : Int) < p6)))) (e_pickT hF rfl rfl) (by rw [hb]; rfl)) fun a hF => ?_
    exact key _ _ (hF.has ⟨rfl, rfl, rfl, rfl, trivial⟩) hS
  ·
    intro hb key
    replace hF := Fr.as hF (t := 24) rfl (congrArg Value.bool hb)
    refine ls <| gy hF rfl rfl <| q1 hF rfl (e_move hF rfl) fun a hF => ?_
    refine ls <| gy hF rfl rfl <| q1 hF rfl (e_move hF rfl) fun a hF => ?_
    refine ls <| gy hF rfl rfl <| q1 hF rfl (e_lenL (α := Int) (xs := p1) hF Try.runUnderlying26 rfl) fun a hF => ?_
    refine ls <| gy hF rfl rfl <| q1 hF rfl (e_gtr hF rfl rfl) fun a hF => ?_
    refine ls <| q1 hF rfl (e_as (v' := .bool ((((decide ((p1.length : Int) ≠ (p7.length : Int))) || (decide (20 < (p1.length : Int)))) || (decide (p6 < 0))) || (decide ((p1.length : Int) < p6)))) (e_pickF hF rfl rfl) (by rw [hb]; rfl)) fun a hF => ?_
    exact key _ _ (hF.has ⟨rfl, rfl, rfl, rfl, trivial⟩) hS
  intro a w hF hS
  refine re <| ?_
  rcases bdich ((((decide ((p1.length : Int) ≠ (p7.length : Int))) || (decide (20 < (p1.length : Int)))) || (decide (p6 < 0))) || (decide ((p1.length : Int) < p6))) with hb12 | hb12
  ·
    replace hm := ite_t hm hb12
    refine tn <| ctv hF rfl hb12 <| th <| ?_
    refine rg <| ?_
    refine ls <| q1 hF rfl (e_asg hF rfl) fun a hF => ?_
    refine ls <| q1 hF rfl (e_asg hF rfl) fun a hF => ?_
    refine re <| ?_
    refine tn <| ?_
    refine wr <| tr <| ?_
    replace hS := St.ds0 hS
    obtain rfl := Option.some.inj hm
    exact r2 hF Try.results21 rfl rfl ⟨(.pointer none), (sepA []), rfl, (.inl ⟨rfl, rfl, rfl⟩), hS.endFresh (.head _)⟩
  ·
    replace hm := ite_f hm hb12
    refine tn <| cfv hF rfl hb12 <| wk <| ?_
    refine tn <| th <| th <| ?_
    refine rg <| ?_
    refine ls <| q1 hF rfl (e_asg hF rfl) fun a hF => ?_
    refine re <| ?_
    refine tn <| midK (fun a w => (leadlineref11_New_j1 p1 p6 p7) = some r ∧ Fr 97 [(0, .slice oa2 p1.length cap3), (1, .int .i64 p6), (2, .slice oa8 p7.length cap9)] a ∧ St w0 Nil [H] [] w) ?_ ?_
    ·
      refine wb <| lp (α := Nat × Int) (fun (gh : Nat × Int) a w => match gh with | (nn2, vB1) => (leadlineref11_New_l2 N (leadlineref11_New_j1 p1 p6 p7) p1 p6) nn2 vB1 = some r ∧ Fr 97 [(0, .slice oa2 p1.length cap3), (1, .int .i64 p6), (2, .slice oa8 p7.length cap9), (8, .int .i64 vB1)] a ∧ St w0 Nil [H] [] w) (fun gh => gh.1) (N, 0) ⟨hm, hF.has ⟨rfl, rfl, rfl, rfl, trivial⟩, hS⟩ ?_
      clear hm hF hS
      rintro ⟨nn2, vB1⟩ a w ⟨hm, hF, hS⟩
      obtain _ | nn2 := nn2
      · simp [leadlineref11_New_l2] at hm
      rw [leadlineref11_New_l2] at hm
      refine th <| th <| ?_
      refine rg <| ?_
      refine ls <| q1 hF rfl (e_move hF rfl) fun a hF => ?_
      refine ls <| q1 hF rfl (e_move hF rfl) fun a hF => ?_
      refine ls <| q1 hF rfl (e_lss hF rfl rfl) fun a hF => ?_
      refine re <| ?_
      rcases bdich (decide (vB1 < p6)) with hb13 | hb13
      ·
        replace hm := itp_t hm hb13
        refine tn <| ctv hF rfl hb13 <| wk <| ?_
        refine tn <| th <| wb <| th <| midK (fun a w => ∃ (vC1 : Bool), (leadlineref11_New_j3 (leadlineref11_New_l2 N (leadlineref11_New_j1 p1 p6 p7) p1 p6 nn2) vB1) vC1 = some r ∧ Fr 97 [(0, .slice oa2 p1.length cap3), (1, .int .i64 p6), (2, .slice oa8 p7.length cap9), (8, .int .i64 vB1), (71, .bool vC1)] a ∧ St w0 Nil [H] [] w) ?_ ?_
        ·
          rcases bdich (decide (vB1 = 0)) with hb14 | hb14
          ·
            replace hm := itp_t hm hb14
            replace hm := bind_some hm
            obtain ⟨x15, h16, hm⟩ := hm
            obtain ⟨c17, g18, hl19⟩ := SR.get hr5 h16
            obtain rfl : c17 = [.int .i64 x15] := g18
            rcases bdich (decide (x15 ≠ 0)) with hb20 | hb20
            ·
              replace hm := itp_t hm hb20
              refine rxS 37 hS wide (by kernel_rfl) fun w hS => ?_
              refine x1 (St.ld hS) hF rfl rfl (fun _ _ _ h => h) (fun w hl => (e_move hF rfl)) fun a hF => ?_
              refine x1 (St.ld hS) hF rfl rfl (fun _ _ _ h => h) (fun w hl => (e_eql hF rfl rfl)) fun a hF => ?_
              refine x1 (St.ld hS) hF rfl rfl (fun _ _ _ h => h) (fun w hl => (e_as (e_move hF rfl) (congrArg Value.bool hb14))) fun a hF => ?_
              refine x1g (St.ld hS) hF rfl rfl rfl rfl (fun _ _ _ h => h) (fun w hl => (e_move hF rfl)) fun a hF => ?_
              refine x1g (St.ld hS) hF rfl rfl rfl rfl (fun _ _ _ h => h) (fun w hl => (e_iaI hF Try.runUnderlying26 Try.sizeOf3 rfl rfl h16 (SR.oaI hr5 (by decide) h16))) fun a hF => ?_
              refine x1g (St.ld hS) hF rfl rfl rfl rfl (fun _ _ _ h => h) (fun w hl => (e_ld hF Try.isAgg3 rfl (PH.le.cell (Lds.le hl) (hl19 0 _ rfl)))) fun a hF => ?_
              refine x1g (St.ld hS) hF rfl rfl rfl rfl (fun _ _ _ h => h) (fun w hl => (e_neq hF rfl rfl)) fun a hF => ?_
              refine x1 (St.ld hS) hF rfl rfl (fun _ _ _ h => h) (fun w hl => (e_pickT hF rfl rfl)) fun a hF => ?_
              refine x1 (St.ld hS) hF rfl rfl (fun _ _ _ h => h) (fun w hl => (e_as (e_move hF rfl) (congrArg Value.bool hb20))) fun a hF => ?_
              refine x1n (St.ld hS) hF rfl rfl rfl rfl rfl (fun _ _ _ h => h) fun a hF => ?_
              refine x1n (St.ld hS) hF rfl rfl rfl rfl rfl (fun _ _ _ h => h) fun a hF => ?_
              refine x1n (St.ld hS) hF rfl rfl rfl rfl rfl (fun _ _ _ h => h) fun a hF => ?_
              refine x1u (St.ld hS) hF rfl rfl rfl rfl (fun _ _ _ h => h) fun a hF => ?_
              refine x1u (St.ld hS) hF rfl rfl rfl rfl (fun _ _ _ h => h) fun a hF => ?_
              refine x1u (St.ld hS) hF rfl rfl rfl rfl (fun _ _ _ h => h) fun a hF => ?_
              refine x1u (St.ld hS) hF rfl rfl rfl rfl (fun _ _ _ h => h) fun a hF => ?_
              refine x1u (St.ld hS) hF rfl rfl rfl rfl (fun _ _ _ h => h) fun a hF => ?_
              refine x1u (St.ld hS) hF rfl rfl rfl rfl (fun _ _ _ h => h) fun a hF => ?_
              refine x1u (St.ld hS) hF rfl rfl rfl rfl (fun _ _ _ h => h) fun a hF => ?_
              refine x1u (St.ld hS) hF rfl rfl rfl rfl (fun _ _ _ h => h) fun a hF => ?_
              refine x1u (St.ld hS) hF rfl rfl rfl rfl (fun _ _ _ h => h) fun a hF => ?_
              refine x1u (St.ld hS) hF rfl rfl rfl rfl (fun _ _ _ h => h) fun a hF => ?_
              refine x1n (St.ld hS) hF rfl rfl rfl rfl rfl (fun _ _ _ h => h) fun a hF => ?_
              refine x1n (St.ld hS) hF rfl rfl rfl rfl rfl (fun _ _ _ h => h) fun a hF => ?_
              refine x1u (St.ld hS) hF rfl rfl rfl rfl (fun _ _ _ h => h) fun a hF => ?_
              refine x1u (St.ld hS) hF rfl rfl rfl rfl (fun _ _ _ h => h) fun a hF => ?_
              refine x1u (St.ld hS) hF rfl rfl rfl rfl (fun _ _ _ h => h) fun a hF => ?_
              refine x1u (St.ld hS) hF rfl rfl rfl rfl (fun _ _ _ h => h) fun a hF => ?_
              refine x1u (St.ld hS) hF rfl rfl rfl rfl (fun _ _ _ h => h) fun a hF => ?_
              refine x1u (St.ld hS) hF rfl rfl rfl rfl (fun _ _ _ h => h) fun a hF => ?_
              refine x1u (St.ld hS) hF rfl rfl rfl rfl (fun _ _ _ h => h) fun a hF => ?_
              refine x1u (St.ld hS) hF rfl rfl rfl rfl (fun _ _ _ h => h) fun a hF => ?_
              refine x1u (St.ld hS) hF rfl rfl rfl rfl (fun _ _ _ h => h) fun a hF => ?_
              refine x1u (St.ld hS) hF rfl rfl rfl rfl (fun _ _ _ h => h) fun a hF => ?_
              refine x1u (St.ld hS) hF rfl rfl rfl rfl (fun _ _ _ h => h) fun a hF => ?_
              refine x1n (St.ld hS) hF rfl rfl rfl rfl rfl (fun _ _ _ h => h) fun a hF => ?_
              refine x1 (St.ld hS) hF rfl rfl (fun _ _ _ h => h) (fun w hl => (e_pickT hF rfl rfl)) fun a hF => ?_
              refine xe <| ?_
              refine tn <| ?_
              exact ⟨true, hm, hF.has ⟨rfl, rfl, rfl, rfl, rfl, trivial⟩, hS⟩
            ·
              replace hm := itp_f hm hb20
              rcases bdich (decide (0 < vB1)) with hb21 | hb21
              ·
                replace hm := itp_t hm hb21
                replace hm := bind_some hm
                obtain ⟨x22, h23, hm⟩ := hm
                obtain ⟨c24, g25, hl26⟩ := SR.get hr5 h23
                obtain rfl : c24 = [.int .i64 x22] := g25
                replace hm := bind_some hm
                obtain ⟨x27, h28, hm⟩ := hm
                obtain ⟨c29, g30, hl31⟩ := SR.get hr5 h28
                obtain rfl : c29 = [.int .i64 x27] := g30
                refine rxS 37 hS wide (by kernel_rfl) fun w hS => ?_
                refine x1 (St.ld hS) hF rfl rfl (fun _ _ _ h => h) (fun w hl => (e_move hF rfl)) fun a hF => ?_
                refine x1 (St.ld hS) hF rfl rfl (fun _ _ _ h => h) (fun w hl => (e_eql hF rfl rfl)) fun a hF => ?_
                refine x1 (St.ld hS) hF rfl rfl (fun _ _ _ h => h) (fun w hl => (e_as (e_move hF rfl) (congrArg Value.bool hb14))) fun a hF => ?_
                refine x1g (St.ld hS) hF rfl rfl rfl rfl (fun _ _ _ h => h) (fun w hl => (e_move hF rfl)) fun a hF => ?_
                refine x1g (St.ld hS) hF rfl rfl rfl rfl (fun _ _ _ h => h) (fun w hl => (e_iaI hF Try.runUnderlying26 Try.sizeOf3 rfl rfl h16 (SR.oaI hr5 (by decide) h16))) fun a hF => ?_
                refine x1g (St.ld hS) hF rfl rfl rfl rfl (fun _ _ _ h => h) (fun w hl => (e_ld hF Try.isAgg3 rfl (PH.le.cell (Lds.le hl) (hl19 0 _ rfl)))) fun a hF => ?_
                refine x1g (St.ld hS) hF rfl rfl rfl rfl (fun _ _ _ h => h) (fun w hl => (e_neq hF rfl rfl)) fun a hF => ?_
                refine x1 (St.ld hS) hF rfl rfl (fun _ _ _ h => h) (fun w hl => (e_pickT hF rfl rfl)) fun a hF => ?_
                refine x1 (St.ld hS) hF rfl rfl (fun _ _ _ h => h) (fun w hl => (e_as (e_move hF rfl) (congrArg Value.bool hb20))) fun a hF => ?_
                refine x1g (St.ld hS) hF rfl rfl rfl rfl (fun _ _ _ h => h) (fun w hl => (e_move hF rfl)) fun a hF => ?_
                refine x1g (St.ld hS) hF rfl rfl rfl rfl (fun _ _ _ h => h) (fun w hl => (e_gtr hF rfl rfl)) fun a hF => ?_
                refine x1g (St.ld hS) hF rfl rfl rfl rfl (fun _ _ _ h => h) (fun w hl => (e_as (e_move hF rfl) (congrArg Value.bool hb21))) fun a hF => ?_
                refine x1g (St.ld hS) hF rfl rfl rfl rfl (fun _ _ _ h => h) (fun w hl => (e_move hF rfl)) fun a hF => ?_
                refine x1g (St.ld hS) hF rfl rfl rfl rfl (fun _ _ _ h => h) (fun w hl => (e_move hF rfl)) fun a hF => ?_
                refine x1g (St.ld hS) hF rfl rfl rfl rfl (fun _ _ _ h => h) (fun w hl => (e_iaI hF Try.runUnderlying26 Try.sizeOf3 rfl rfl h23 (SR.oaI hr5 (by decide) h23))) fun a hF => ?_
                refine x1g (St.ld hS) hF rfl rfl rfl rfl (fun _ _ _ h => h) (fun w hl => (e_ld hF Try.isAgg3 rfl (PH.le.cell (Lds.le hl) (hl26 0 _ rfl)))) fun a hF => ?_
                refine x1g (St.ld hS) hF rfl rfl rfl rfl (fun _ _ _ h => h) (fun w hl => (e_move hF rfl)) fun a hF => ?_
                refine x1g (St.ld hS) hF rfl rfl rfl rfl (fun _ _ _ h => h) (fun w hl => (e_move hF rfl)) fun a hF => ?_
                refine x1g (St.ld hS) hF rfl rfl rfl rfl (fun _ _ _ h => h) (fun w hl => (e_sub hF rfl rfl)) fun a hF => ?_
                refine x1g (St.ld hS) hF rfl rfl rfl rfl (fun _ _ _ h => h) (fun w hl => (e_iaI hF Try.runUnderlying26 Try.sizeOf3 rfl rfl h28 (SR.oaI hr5 (by decide) h28))) fun a hF => ?_
                refine x1g (St.ld hS) hF rfl rfl rfl rfl (fun _ _ _ h => h) (fun w hl => (e_ld hF Try.isAgg3 rfl (PH.le.cell (Lds.le hl) (hl31 0 _ rfl)))) fun a hF => ?_
                refine x1g (St.ld hS) hF rfl rfl rfl rfl (fun _ _ _ h => h) (fun w hl => (e_neq hF rfl rfl)) fun a hF => ?_
                refine x1g (St.ld hS) hF rfl rfl rfl rfl (fun _ _ _ h => h) (fun w hl => (e_pickT hF rfl rfl)) fun a hF => ?_
                refine x1g (St.ld hS) hF rfl rfl rfl rfl (fun _ _ _ h => h) (fun w hl => (e_move hF rfl)) fun a hF => ?_
                refine grpX (N := 97) (Fk := [(0, .slice oa2 p1.length cap3), (1, .int .i64 p6), (2, .slice oa8 p7.length cap9), (8, .int .i64 vB1), (43, .bool false), (70, .bool ((decide (x22 ≠ x27)) && (decide (x22 ≠ (IntKind.i64.wrap (x27 + 1))))))]) (b := (decide (x22 ≠ x27))) 12 hS ?_ ?_ ?_
                ·
                  intro hb key
                  replace hF := Fr.as hF (t := 58) rfl (congrArg Value.bool hb)
                  refine x1g (St.ld hS) hF rfl rfl rfl rfl (fun _ _ _ h => h) (fun w hl => (e_move hF rfl)) fun a hF => ?_
                  refine x1g (St.ld hS) hF rfl rfl rfl rfl (fun _ _ _ h => h) (fun w hl => (e_move hF rfl)) fun a hF => ?_
                  refine x1g (St.ld hS) hF rfl rfl rfl rfl (fun _ _ _ h => h) (fun w hl => (e_iaI hF Try.runUnderlying26 Try.sizeOf3 rfl rfl h23 (SR.oaI hr5 (by decide) h23))) fun a hF => ?_
                  refine x1g (St.ld hS) hF rfl rfl rfl rfl (fun _ _ _ h => h) (fun w hl => (e_ld hF Try.isAgg3 rfl (PH.le.cell (Lds.le hl) (hl26 0 _ rfl)))) fun a hF => ?_
                  refine x1g (St.ld hS) hF rfl rfl rfl rfl (fun _ _ _ h => h) (fun w hl => (e_move hF rfl)) fun a hF => ?_
                  refine x1g (St.ld hS) hF rfl rfl rfl rfl (fun _ _ _ h => h) (fun w hl => (e_move hF rfl)) fun a hF => ?_
                  refine x1g (St.ld hS) hF rfl rfl rfl rfl (fun _ _ _ h => h) (fun w hl => (e_sub hF rfl rfl)) fun a hF => ?_
                  refine x1g (St.ld hS) hF rfl rfl rfl rfl (fun _ _ _ h => h) (fun w hl => (e_iaI hF Try.runUnderlying26 Try.sizeOf3 rfl rfl h28 (SR.oaI hr5 (by decide) h28))) fun a hF => ?_
                  refine x1g (St.ld hS) hF rfl rfl rfl rfl (fun _ _ _ h => h) (fun w hl => (e_ld hF Try.isAgg3 rfl (PH.le.cell (Lds.le hl) (hl31 0 _ rfl)))) fun a hF => ?_
                  refine x1g (St.ld hS) hF rfl rfl rfl rfl (fun _ _ _ h => h) (fun w hl => (e_add hF rfl rfl)) fun a hF => ?_
                  refine x1g (St.ld hS) hF rfl rfl rfl rfl (fun _ _ _ h => h) (fun w hl => (e_neq hF rfl rfl)) fun a hF => ?_
                  refine x1g (St.ld hS) hF rfl rfl rfl rfl (fun _ _ _ h => h) (fun w hl => (e_as (v' := .bool ((decide (x22 ≠ x27)) && (decide (x22 ≠ (IntKind.i64.wrap (x27 + 1)))))) (e_pickT hF rfl rfl) (by rw [hb]; rfl))) fun a hF => ?_
                  exact key _ _ (hF.has ⟨rfl, rfl, rfl, rfl, rfl, rfl, trivial⟩) hS
                ·
                  intro hb key
                  replace hF := Fr.as hF (t := 58) rfl (congrArg Value.bool hb)
                  refine x1n (St.ld hS) hF rfl rfl rfl rfl rfl (fun _ _ _ h => h) fun a hF => ?_
                  refine x1n (St.ld hS) hF rfl rfl rfl rfl rfl (fun _ _ _ h => h) fun a hF => ?_
                  refine x1n (St.ld hS) hF rfl rfl rfl rfl rfl (fun _ _ _ h => h) fun a hF => ?_
                  refine x1n (St.ld hS) hF rfl rfl rfl rfl rfl (fun _ _ _ h => h) fun a hF => ?_
                  refine x1n (St.ld hS) hF rfl rfl rfl rfl rfl (fun _ _ _ h => h) fun a hF => ?_
                  refine x1n (St.ld hS) hF rfl rfl rfl rfl rfl (fun _ _ _ h => h) fun a hF => ?_
                  refine x1n (St.ld hS) hF rfl rfl rfl rfl rfl (fun _ _ _ h => h) fun a hF => ?_
                  refine x1n (St.ld hS) hF rfl rfl rfl rfl rfl (fun _ _ _ h => h) fun a hF => ?_
                  refine x1n (St.ld hS) hF rfl rfl rfl rfl rfl (fun _ _ _ h => h) fun a hF => ?_
                  refine x1n (St.ld hS) hF rfl rfl rfl rfl rfl (fun _ _ _ h => h) fun a hF => ?_
                  refine x1n (St.ld hS) hF rfl rfl rfl rfl rfl (fun _ _ _ h => h) fun a hF => ?_
                  refine x1g (St.ld hS) hF rfl rfl rfl rfl (fun _ _ _ h => h) (fun w hl => (e_as (v' := .bool ((decide (x22 ≠ x27)) && (decide (x22 ≠ (IntKind.i64.wrap (x27 + 1)))))) (e_pickF hF rfl rfl) (by rw [hb]; rfl))) fun a hF => ?_
                  exact key _ _ (hF.has ⟨rfl, rfl, rfl, rfl, rfl, rfl, trivial⟩) hS
                intro a w hF hS
                refine x1 (St.ld hS) hF rfl rfl (fun _ _ _ h => h) (fun w hl => (e_pickF hF rfl rfl)) fun a hF => ?_
                refine xe <| ?_
                refine tn <| ?_
                exact ⟨((decide (x22 ≠ x27)) && (decide (x22 ≠ (IntKind.i64.wrap (x27 + 1))))), hm, hF.has ⟨rfl, rfl, rfl, rfl, rfl, trivial⟩, hS⟩
              ·
                replace hm := itp_f hm hb21
                refine rxS 37 hS wide (by kernel_rfl) fun w hS => ?_
                refine x1 (St.ld hS) hF rfl rfl (fun _ _ _ h => h) (fun w hl => (e_move hF rfl)) fun a hF => ?_
                refine x1 (St.ld hS) hF rfl rfl (fun _ _ _ h => h) (fun w hl => (e_eql hF rfl rfl)) fun a hF => ?_
                refine x1 (St.ld hS) hF rfl rfl (fun _ _ _ h => h) (fun w hl => (e_as (e_move hF rfl) (congrArg Value.bool hb14))) fun a hF => ?_
                refine x1g (St.ld hS) hF rfl rfl rfl rfl (fun _ _ _ h => h) (fun w hl => (e_move hF rfl)) fun a hF => ?_
                refine x1g (St.ld hS) hF rfl rfl rfl rfl (fun _ _ _ h => h) (fun w hl => (e_iaI hF Try.runUnderlying26 Try.sizeOf3 rfl rfl h16 (SR.oaI hr5 (by decide) h16))) fun a hF => ?_
                refine x1g (St.ld hS) hF rfl rfl rfl rfl (fun _ _ _ h => h) (fun w hl => (e_ld hF Try.isAgg3 rfl (PH.le.cell (Lds.le hl) (hl19 0 _ rfl)))) fun a hF => ?_
                refine x1g (St.ld hS) hF rfl rfl rfl rfl (fun _ _ _ h => h) (fun w hl => (e_neq hF rfl rfl)) fun a hF => ?_
                refine x1 (St.ld hS) hF rfl rfl (fun _ _ _ h => h) (fun w hl => (e_pickT hF rfl rfl)) fun a hF => ?_
                refine x1 (St.ld hS) hF rfl rfl (fun _ _ _ h => h) (fun w hl => (e_as (e_move hF rfl) (congrArg Value.bool hb20))) fun a hF => ?_
                refine x1g (St.ld hS) hF rfl rfl rfl rfl (fun _ _ _ h => h) (fun w hl => (e_move hF rfl)) fun a hF => ?_
                refine x1g (St.ld hS) hF rfl rfl rfl rfl (fun _ _ _ h => h) (fun w hl => (e_gtr hF rfl rfl)) fun a hF => ?_
                refine x1g (St.ld hS) hF rfl rfl rfl rfl (fun _ _ _ h => h) (fun w hl => (e_as (e_move hF rfl) (congrArg Value.bool hb21))) fun a hF => ?_
                refine x1n (St.ld hS) hF rfl rfl rfl rfl rfl (fun _ _ _ h => h) fun a hF => ?_
                refine x1n (St.ld hS) hF rfl rfl rfl rfl rfl (fun _ _ _ h => h) fun a hF => ?_
                refine x1n (St.ld hS) hF rfl rfl rfl rfl rfl (fun _ _ _ h => h) fun a hF => ?_
                refine x1n (St.ld hS) hF rfl rfl rfl rfl rfl (fun _ _ _ h => h) fun a hF => ?_
                refine x1n (St.ld hS) hF rfl rfl rfl rfl rfl (fun _ _ _ h => h) fun a hF => ?_
                refine x1n (St.ld hS) hF rfl rfl rfl rfl rfl (fun _ _ _ h => h) fun a hF => ?_
                refine x1n (St.ld hS) hF rfl rfl rfl rfl rfl (fun _ _ _ h => h) fun a hF => ?_
                refine x1n (St.ld hS) hF rfl rfl rfl rfl rfl (fun _ _ _ h => h) fun a hF => ?_
                refine x1n (St.ld hS) hF rfl rfl rfl rfl rfl (fun _ _ _ h => h) fun a hF => ?_
                refine x1n (St.ld hS) hF rfl rfl rfl rfl rfl (fun _ _ _ h => h) fun a hF => ?_
                refine x1g (St.ld hS) hF rfl rfl rfl rfl (fun _ _ _ h => h) (fun w hl => (e_pickF hF rfl rfl)) fun a hF => ?_
                refine x1g (St.ld hS) hF rfl rfl rfl rfl (fun _ _ _ h => h) (fun w hl => (e_move hF rfl)) fun a hF => ?_
                refine x1n (St.ld hS) hF rfl rfl rfl rfl rfl (fun _ _ _ h => h) fun a hF => ?_
                refine x1n (St.ld hS) hF rfl rfl rfl rfl rfl (fun _ _ _ h => h) fun a hF => ?_
                refine x1n (St.ld hS) hF rfl rfl rfl rfl rfl (fun _ _ _ h => h) fun a hF => ?_
                refine x1n (St.ld hS) hF rfl rfl rfl rfl rfl (fun _ _ _ h => h) fun a hF => ?_
                refine x1n (St.ld hS) hF rfl rfl rfl rfl rfl (fun _ _ _ h => h) fun a hF => ?_
                refine x1n (St.ld hS) hF rfl rfl rfl rfl rfl (fun _ _ _ h => h) fun a hF => ?_
                refine x1n (St.ld hS) hF rfl rfl rfl rfl rfl (fun _ _ _ h => h) fun a hF => ?_
                refine x1n (St.ld hS) hF rfl rfl rfl rfl rfl (fun _ _ _ h => h) fun a hF => ?_
                refine x1n (St.ld hS) hF rfl rfl rfl rfl rfl (fun _ _ _ h => h) fun a hF => ?_
                refine x1n (St.ld hS) hF rfl rfl rfl rfl rfl (fun _ _ _ h => h) fun a hF => ?_
                refine x1n (St.ld hS) hF rfl rfl rfl rfl rfl (fun _ _ _ h => h) fun a hF => ?_
                refine x1g (St.ld hS) hF rfl rfl rfl rfl (fun _ _ _ h => h) (fun w hl => (e_pickF hF rfl rfl)) fun a hF => ?_
                refine x1 (St.ld hS) hF rfl rfl (fun _ _ _ h => h) (fun w hl => (e_pickF hF rfl rfl)) fun a hF => ?_
                refine xe <| ?_
                refine tn <| ?_
                exact ⟨false, hm, hF.has ⟨rfl, rfl, rfl, rfl, rfl, trivial⟩, hS⟩
          ·
            replace hm := itp_f hm hb14
            rcases bdich (decide (0 < vB1)) with hb32 | hb32
            ·
              replace hm := itp_t hm hb32
              replace hm := bind_some hm
              obtain ⟨x33, h34, hm⟩ := hm
              obtain ⟨c35, g36, hl37⟩ := SR.get hr5 h34
              obtain rfl : c35 = [.int .i64 x33] := g36
              replace hm := bind_some hm
              obtain ⟨x38, h39, hm⟩ := hm
              obtain ⟨c40, g41, hl42⟩ := SR.get hr5 h39
              obtain rfl : c40 = [.int .i64 x38] := g41
              refine rxS 37 hS wide (by kernel_rfl) fun w hS => ?_
              refine x1 (St.ld hS) hF rfl rfl (fun _ _ _ h => h) (fun w hl => (e_move hF rfl)) fun a hF => ?_
              refine x1 (St.ld hS) hF rfl rfl (fun _ _ _ h => h) (fun w hl => (e_eql hF rfl rfl)) fun a hF => ?_
              refine x1 (St.ld hS) hF rfl rfl (fun _ _ _ h => h) (fun w hl => (e_as (e_move hF rfl) (congrArg Value.bool hb14))) fun a hF => ?_
              refine x1n (St.ld hS) hF rfl rfl rfl rfl rfl (fun _ _ _ h => h) fun a hF => ?_
              refine x1n (St.ld hS) hF rfl rfl rfl rfl rfl (fun _ _ _ h => h) fun a hF => ?_
              refine x1n (St.ld hS) hF rfl rfl rfl rfl rfl (fun _ _ _ h => h) fun a hF => ?_
              refine x1n (St.ld hS) hF rfl rfl rfl rfl rfl (fun _ _ _ h => h) fun a hF => ?_
              refine x1 (St.ld hS) hF rfl rfl (fun _ _ _ h => h) (fun w hl => (e_pickF hF rfl rfl)) fun a hF => ?_
              refine x1 (St.ld hS) hF rfl rfl (fun _ _ _ h => h) (fun w hl => (e_move hF rfl)) fun a hF => ?_
              refine x1g (St.ld hS) hF rfl rfl rfl rfl (fun _ _ _ h => h) (fun w hl => (e_move hF rfl)) fun a hF => ?_
              refine x1g (St.ld hS) hF rfl rfl rfl rfl (fun _ _ _ h => h) (fun w hl => (e_gtr hF rfl rfl)) fun a hF => ?_
              refine x1g (St.ld hS) hF rfl rfl rfl rfl (fun _ _ _ h => h) (fun w hl => (e_as (e_move hF rfl) (congrArg Value.bool hb32))) fun a hF => ?_
              refine x1g (St.ld hS) hF rfl rfl rfl rfl (fun _ _ _ h => h) (fun w hl => (e_move hF rfl)) fun a hF => ?_
              refine x1g (St.ld hS) hF rfl rfl rfl rfl (fun _ _ _ h => h) (fun w hl => (e_move hF rfl)) fun a hF => ?_
              refine x1g (St.ld hS) hF rfl rfl rfl rfl (fun _ _ _ h => h) (fun w hl => (e_iaI hF Try.runUnderlying26 Try.sizeOf3 rfl rfl h34 (SR.oaI hr5 (by decide) h34))) fun a hF => ?_
              refine x1g (St.ld hS) hF rfl rfl rfl rfl (fun _ _ _ h => h) (fun w hl => (e_ld hF Try.isAgg3 rfl (PH.le.cell (Lds.le hl) (hl37 0 _ rfl)))) fun a hF => ?_
              refine x1g (St.ld hS) hF rfl rfl rfl rfl (fun _ _ _ h => h) (fun w hl => (e_move hF rfl)) fun a hF => ?_
              refine x1g (St.ld hS) hF rfl rfl rfl rfl (fun _ _ _ h => h) (fun w hl => (e_move hF rfl)) fun a hF => ?_
              refine x1g (St.ld hS) hF rfl rfl rfl rfl (fun _ _ _ h => h) (fun w hl => (e_sub hF rfl rfl)) fun a hF => ?_
              refine x1g (St.ld hS) hF rfl rfl rfl rfl (fun _ _ _ h => h) (fun w hl => (e_iaI hF Try.runUnderlying26 Try.sizeOf3 rfl rfl h39 (SR.oaI hr5 (by decide) h39))) fun a hF => ?_
              refine x1g (St.ld hS) hF rfl rfl rfl rfl (fun _ _ _ h => h) (fun w hl => (e_ld hF Try.isAgg3 rfl (PH.le.cell (Lds.le hl) (hl42 0 _ rfl)))) fun a hF => ?_
              refine x1g (St.ld hS) hF rfl rfl rfl rfl (fun _ _ _ h => h) (fun w hl => (e_neq hF rfl rfl)) fun a hF => ?_
              refine x1g (St.ld hS) hF rfl rfl rfl rfl (fun _ _ _ h => h) (fun w hl => (e_pickT hF rfl rfl)) fun a hF => ?_
              refine x1g (St.ld hS) hF rfl rfl rfl rfl (fun _ _ _ h => h) (fun w hl => (e_move hF rfl)) fun a hF => ?_
              refine grpX (N := 97) (Fk := [(0, .slice oa2 p1.length cap3), (1, .int .i64 p6), (2, .slice oa8 p7.length cap9), (8, .int .i64 vB1), (43, .bool false), (70, .bool ((decide (x33 ≠ x38)) && (decide (x33 ≠ (IntKind.i64.wrap (x38 + 1))))))]) (b := (decide (x33 ≠ x38))) 12 hS ?_ ?_ ?_
              ·
                intro hb key
                replace hF := Fr.as hF (t := 58) rfl (congrArg Value.bool hb)
                refine x1g (St.ld hS) hF rfl rfl rfl rfl (fun _ _ _ h => h) (fun w hl => (e_move hF rfl)) fun a hF => ?_
                refine x1g (St.ld hS) hF rfl rfl rfl rfl (fun _ _ _ h => h) (fun w hl => (e_move hF rfl)) fun a hF => ?_
                refine x1g (St.ld hS) hF rfl rfl rfl rfl (fun _ _ _ h => h) (fun w hl => (e_iaI hF Try.runUnderlying26 Try.sizeOf3 rfl rfl h34 (SR.oaI hr5 (by decide) h34))) fun a hF => ?_
                refine x1g (St.ld hS) hF rfl rfl rfl rfl (fun _ _ _ h => h) (fun w hl => (e_ld hF Try.isAgg3 rfl (PH.le.cell (Lds.le hl) (hl37 0 _ rfl)))) fun a hF => ?_
                refine x1g (St.ld hS) hF rfl rfl rfl rfl (fun _ _ _ h => h) (fun w hl => (e_move hF rfl)) fun a hF => ?_
                refine x1g (St.ld hS) hF rfl rfl rfl rfl (fun _ _ _ h => h) (fun w hl => (e_move hF rfl)) fun a hF => ?_
                refine x1g (St.ld hS) hF rfl rfl rfl rfl (fun _ _ _ h => h) (fun w hl => (e_sub hF rfl rfl)) fun a hF => ?_
                refine x1g (St.ld hS) hF rfl rfl rfl rfl (fun _ _ _ h => h) (fun w hl => (e_iaI hF Try.runUnderlying26 Try.sizeOf3 rfl rfl h39 (SR.oaI hr5 (by decide) h39))) fun a hF => ?_
                refine x1g (St.ld hS) hF rfl rfl rfl rfl (fun _ _ _ h => h) (fun w hl => (e_ld hF Try.isAgg3 rfl (PH.le.cell (Lds.le hl) (hl42 0 _ rfl)))) fun a hF => ?_
                refine x1g (St.ld hS) hF rfl rfl rfl rfl (fun _ _ _ h => h) (fun w hl => (e_add hF rfl rfl)) fun a hF => ?_
                refine x1g (St.ld hS) hF rfl rfl rfl rfl (fun _ _ _ h => h) (fun w hl => (e_neq hF rfl rfl)) fun a hF => ?_
                refine x1g (St.ld hS) hF rfl rfl rfl rfl (fun _ _ _ h => h) (fun w hl => (e_as (v' := .bool ((decide (x33 ≠ x38)) && (decide (x33 ≠ (IntKind.i64.wrap (x38 + 1)))))) (e_pickT hF rfl rfl) (by rw [hb]; rfl))) fun a hF => ?_
                exact key _ _ (hF.has ⟨rfl, rfl, rfl, rfl, rfl, rfl, trivial⟩) hS
              ·
                intro hb key
                replace hF := Fr.as hF (t := 58) rfl (congrArg Value.bool hb)
                refine x1n (St.ld hS) hF rfl rfl rfl rfl rfl (fun _ _ _ h => h) fun a hF => ?_
                refine x1n (St.ld hS) hF rfl rfl rfl rfl rfl (fun _ _ _ h => h) fun a hF => ?_
                refine x1n (St.ld hS) hF rfl rfl rfl rfl rfl (fun _ _ _ h => h) fun a hF => ?_
                refine x1n (St.ld hS) hF rfl rfl rfl rfl rfl (fun _ _ _ h => h) fun a hF => ?_
                refine x1n (St.ld hS) hF rfl rfl rfl rfl rfl (fun _ _ _ h => h) fun a hF => ?_
                refine x1n (St.ld hS) hF rfl rfl rfl rfl rfl (fun _ _ _ h => h) fun a hF => ?_
                refine x1n (St.ld hS) hF rfl rfl rfl rfl rfl (fun _ _ _ h => h) fun a hF => ?_
                refine x1n (St.ld hS) hF rfl rfl rfl rfl rfl (fun _ _ _ h => h) fun a hF => ?_
                refine x1n (St.ld hS) hF rfl rfl rfl rfl rfl (fun _ _ _ h => h) fun a hF => ?_
                refine x1n (St.ld hS) hF rfl rfl rfl rfl rfl (fun _ _ _ h => h) fun a hF => ?_
                refine x1n (St.ld hS) hF rfl rfl rfl rfl rfl (fun _ _ _ h => h) fun a hF => ?_
                refine x1g (St.ld hS) hF rfl rfl rfl rfl (fun _ _ _ h => h) (fun w hl => (e_as (v' := .bool ((decide (x33 ≠ x38)) && (decide (x33 ≠ (IntKind.i64.wrap (x38 + 1)))))) (e_pickF hF rfl rfl) (by rw [hb]; rfl))) fun a hF => ?_
                exact key _ _ (hF.has ⟨rfl, rfl, rfl, rfl, rfl, rfl, trivial⟩) hS
              intro a w hF hS
              refine x1 (St.ld hS) hF rfl rfl (fun _ _ _ h => h) (fun w hl => (e_pickF hF rfl rfl)) fun a hF => ?_
              refine xe <| ?_
              refine tn <| ?_
              exact ⟨((decide (x33 ≠ x38)) && (decide (x33 ≠ (IntKind.i64.wrap (x38 + 1))))), hm, hF.has ⟨rfl, rfl, rfl, rfl, rfl, trivial⟩, hS⟩
            ·
              replace hm := itp_f hm hb32
              refine rxS 37 hS wide (by kernel_rfl) fun w hS => ?_
              refine x1 (St.ld hS) hF rfl rfl (fun _ _ _ h => h) (fun w hl => (e_move hF rfl)) fun a hF => ?_
              refine x1 (St.ld hS) hF rfl rfl (fun _ _ _ h => h) (fun w hl => (e_eql hF rfl rfl)) fun a hF => ?_
              refine x1 (St.ld hS) hF rfl rfl (fun _ _ _ h => h) (fun w hl => (e_as (e_move hF rfl) (congrArg Value.bool hb14))) fun a hF => ?_
              refine x1n (St.ld hS) hF rfl rfl rfl rfl rfl (fun _ _ _ h => h) fun a hF => ?_
              refine x1n (St.ld hS) hF rfl rfl rfl rfl rfl (fun _ _ _ h => h) fun a hF => ?_
              refine x1n (St.ld hS) hF rfl rfl rfl rfl rfl (fun _ _ _ h => h) fun a hF => ?_
              refine x1n (St.ld hS) hF rfl rfl rfl rfl rfl (fun _ _ _ h => h) fun a hF => ?_
              refine x1 (St.ld hS) hF rfl rfl (fun _ _ _ h => h) (fun w hl => (e_pickF hF rfl rfl)) fun a hF => ?_
              refine x1 (St.ld hS) hF rfl rfl (fun _ _ _ h => h) (fun w hl => (e_move hF rfl)) fun a hF => ?_
              refine x1g (St.ld hS) hF rfl rfl rfl rfl (fun _ _ _ h => h) (fun w hl => (e_move hF rfl)) fun a hF => ?_
              refine x1g (St.ld hS) hF rfl rfl rfl rfl (fun _ _ _ h => h) (fun w hl => (e_gtr hF rfl rfl)) fun a hF => ?_
              refine x1g (St.ld hS) hF rfl rfl rfl rfl (fun _ _ _ h => h) (fun w hl => (e_as (e_move hF rfl) (congrArg Value.bool hb32))) fun a hF => ?_
              refine x1n (St.ld hS) hF rfl rfl rfl rfl rfl (fun _ _ _ h => h) fun a hF => ?_
              refine x1n (St.ld hS) hF rfl rfl rfl rfl rfl (fun _ _ _ h => h) fun a hF => ?_
              refine x1n (St.ld hS) hF rfl rfl rfl rfl rfl (fun _ _ _ h => h) fun a hF => ?_
              refine x1n (St.ld hS) hF rfl rfl rfl rfl rfl (fun _ _ _ h => h) fun a hF => ?_
              refine x1n (St.ld hS) hF rfl rfl rfl rfl rfl (fun _ _ _ h => h) fun a hF => ?_
              refine x1n (St.ld hS) hF rfl rfl rfl rfl rfl (fun _ _ _ h => h) fun a hF => ?_
              refine x1n (St.ld hS) hF rfl rfl rfl rfl rfl (fun _ _ _ h => h) fun a hF => ?_
              refine x1n (St.ld hS) hF rfl rfl rfl rfl rfl (fun _ _ _ h => h) fun a hF => ?_
              refine x1n (St.ld hS) hF rfl rfl rfl rfl rfl (fun _ _ _ h => h) fun a hF => ?_
              refine x1n (St.ld hS) hF rfl rfl rfl rfl rfl (fun _ _ _ h => h) fun a hF => ?_
              refine x1g (St.ld hS) hF rfl rfl rfl rfl (fun _ _ _ h => h) (fun w hl => (e_pickF hF rfl rfl)) fun a hF => ?_
              refine x1g (St.ld hS) hF rfl rfl rfl rfl (fun _ _ _ h => h) (fun w hl => (e_move hF rfl)) fun a hF => ?_
              refine x1n (St.ld hS) hF rfl rfl rfl rfl rfl (fun _ _ _ h => h) fun a hF => ?_
              refine x1n (St.ld hS) hF rfl rfl rfl rfl rfl (fun _ _ _ h => h) fun a hF => ?_
              refine x1n (St.ld hS) hF rfl rfl rfl rfl rfl (fun _ _ _ h => h) fun a hF => ?_
              refine x1n (St.ld hS) hF rfl rfl rfl rfl rfl (fun _ _ _ h => h) fun a hF => ?_
              refine x1n (St.ld hS) hF rfl rfl rfl rfl rfl (fun _ _ _ h => h) fun a hF => ?_
              refine x1n (St.ld hS) hF rfl rfl rfl rfl rfl (fun _ _ _ h => h) fun a hF => ?_
              refine x1n (St.ld hS) hF rfl rfl rfl rfl rfl (fun _ _ _ h => h) fun a hF => ?_
              refine x1n (St.ld hS) hF rfl rfl rfl rfl rfl (fun _ _ _ h => h) fun a hF => ?_
              refine x1n (St.ld hS) hF rfl rfl rfl rfl rfl (fun _ _ _ h => h) fun a hF => ?_
              refine x1n (St.ld hS) hF rfl rfl rfl rfl rfl (fun _ _ _ h => h) fun a hF => ?_
              refine x1n (St.ld hS) hF rfl rfl rfl rfl rfl (fun _ _ _ h => h) fun a hF => ?_
              refine x1g (St.ld hS) hF rfl rfl rfl rfl (fun _ _ _ h => h) (fun w hl => (e_pickF hF rfl rfl)) fun a hF => ?_
              refine x1 (St.ld hS) hF rfl rfl (fun _ _ _ h => h) (fun w hl => (e_pickF hF rfl rfl)) fun a hF => ?_
              refine xe <| ?_
              refine tn <| ?_
              exact ⟨false, hm, hF.has ⟨rfl, rfl, rfl, rfl, rfl, trivial⟩, hS⟩
        clear hm hF hS
        rintro a w ⟨vC1, hm, hF, hS⟩
        unfold leadlineref11_New_j3 at hm
        rcases bdich vC1 with hb43 | hb43
        ·
          replace hm := ite_t hm hb43
          refine ctv hF rfl hb43 <| th <| ?_
          refine rg <| ?_
          refine ls <| q1 hF rfl (e_asg hF rfl) fun a hF => ?_
          refine ls <| q1 hF rfl (e_asg hF rfl) fun a hF => ?_
          refine re <| ?_
          refine tn <| ?_
          refine wr <| br <| tr <| tr <| br <| tr <| ?_
          replace hS := St.ds0 hS
          obtain rfl := Option.some.inj hm
          exact r2 hF Try.results21 rfl rfl ⟨(.pointer none), (sepA []), rfl, (.inl ⟨rfl, rfl, rfl⟩), hS.endFresh (.head _)⟩
        ·
          replace hm := ite_f hm hb43
          refine cfv hF rfl hb43 <| wk <| ?_
          refine bn <| tn <| ?_
          refine rg <| ?_
          refine ls <| q1 hF rfl (e_move hF rfl) fun a hF => ?_
          refine ls <| q1 hF rfl (e_add hF rfl rfl) fun a hF => ?_
          refine ls <| q1 hF rfl (e_asg hF rfl) fun a hF => ?_
          refine re <| ?_
          refine tn <| ?_
          exact ⟨(nn2, (IntKind.i64.wrap (vB1 + 1))), ⟨hm, hF.has ⟨rfl, rfl, rfl, rfl, trivial⟩, hS⟩, Nat.lt_succ_self _⟩
      ·
        replace hm := itp_f hm hb13
        refine tn <| cfv hF rfl hb13 <| ?_
        refine we <| tx <| tx <| bx <| ?_
        refine tn <| ?_
        exact ⟨hm, hF.has ⟨rfl, rfl, rfl, trivial⟩, hS⟩
    clear hm hF hS
    rintro a w ⟨hm, hF, hS⟩
    unfold leadlineref11_New_j1 at hm
    refine th <| ?_
    replace hm := bind_some hm
    obtain ⟨l47, h48, hm⟩ := hm
    obtain ⟨oa49, cap50, e51, e52, hc53, hr54⟩ := SR.sub (sz := 1) hr5 hc4 rfl h48
    replace hm := bind_some hm
    obtain ⟨l55, h56, hm⟩ := hm
    replace hm := bind_some hm
    obtain ⟨l67, h68, hm⟩ := hm
    refine rg <| ?_
    refine ls <| a_bsl (e := 3) (sz := 1) [] hF rfl hS rfl rfl rfl (fun w => by kernel_rfl) fun b45 w a hS hF => ?_
    have hv44 : Rows (α := Int) H [] [] := .nil
    refine ls <| q1 hF rfl (e_move hF rfl) fun a hF => ?_
    refine ls <| q1 hF rfl (e_move hF rfl) fun a hF => ?_
    refine ls <| q1 hF rfl (e_subL (xs := p1) (vl := 0) (vh := p6) hF Try.runUnderlying26 Try.sizeOf3 rfl hc4 rfl rfl h48 e51 e52) fun a hF => ?_
    obtain ⟨us61, hd62, hu63⟩ := id hr54
    refine ls <| m_app (α := Int) (xs := []) (ys := l47) hF rfl hS Try.underlying26 info3 rfl (by decide) rfl rfl rfl (.head _) hv44 (hS.rdH (.head _) hd62) hu63 h56 fun oa57 cap58 vs59 w a hv60 hU hF => ?_
    replace hS := hU _ .head
    clear hU
    refine ls <| a_bsl (e := 3) (sz := 1) [] hF rfl hS rfl rfl rfl (fun w => by kernel_rfl) fun b65 w a hS hF => ?_
    have hv64 : Rows (α := Int) H [] [] := .nil
    refine ls <| q1 hF rfl (e_move hF rfl) fun a hF => ?_
    obtain ⟨us73, hd74, hu75⟩ := id hr11
    refine ls <| m_app (α := Int) (xs := []) (ys := p7) hF rfl hS Try.underlying26 info3 rfl (by decide) rfl rfl rfl (.head _) hv64 (hS.rdH (.head _) hd74) hu75 h68 fun oa69 cap70 vs71 w a hv72 hU hF => ?_
    replace hS := hU _ .head
    clear hU
    refine ls <| q1 hF rfl (e_bldK [.slice oa57 l55.length cap58, .slice oa69 l67.length cap70] [.slice oa57 l55.length cap58, .slice oa69 l67.length cap70, .slice none 0 0, .slice none 0 0, .slice none 0 0] hF ⟨rfl, rfl, trivial⟩ (fun w => by kernel_rfl)) fun a hF => ?_
    refine ls <| a_box (cs := [.slice oa57 l55.length cap58, .slice oa69 l67.length cap70, .slice none 0 0, .slice none 0 0, .slice none 0 0].toArray) hF rfl hS rfl rfl fun b76 w a hS hF => ?_
    refine ls <| q1 hF rfl (e_asg hF rfl) fun a hF => ?_
    refine re <| ?_
    refine tn <| th <| ?_
    replace hm := bind_some hm
    obtain ⟨l80, h81, hm⟩ := hm
    refine rg <| ?_
    refine ls <| q1 hF rfl (e_move hF rfl) fun a hF => ?_
    refine ls <| a_bsl (e := 3) (sz := 1) [] hF rfl hS rfl rfl rfl (fun w => by kernel_rfl) fun b78 w a hS hF => ?_
    have hv77 : Rows (α := Int) H [] [] := .nil
    refine ls <| q1 hF rfl (e_move hF rfl) fun a hF => ?_
    obtain ⟨us86, hd87, hu88⟩ := id hr11
    refine ls <| m_app (α := Int) (xs := []) (ys := p7) hF rfl hS Try.underlying26 info3 rfl (by decide) rfl rfl rfl (.head _) hv77 (hS.rdH (.head _) hd87) hu88 h81 fun oa82 cap83 vs84 w a hv85 hU hF => ?_
    replace hS := hU _ .head
    clear hU
    refine ls <| q1 hF rfl (e_nilp hF rfl) fun a hF => ?_
    refine ls <| q1 hF rfl (e_fa hF fa71_2 rfl) fun a hF => ?_
    refine ls <| s_blk hF hS Try.sizeOf26 rfl rfl rfl rfl (.tail .head) (.succ (.succ .zero)) fun w hS => ?_
    refine re <| ?_
    refine tn <| th <| ?_
    replace hm := bind_some hm
    obtain ⟨l92, h93, hm⟩ := hm
    obtain ⟨oa94, cap95, e96, e97, hc98, hr99⟩ := SR.sub (sz := 1) hr11 hc10 rfl h93
    replace hm := bind_some hm
    obtain ⟨l100, h101, hm⟩ := hm
    refine rg <| ?_
    refine ls <| q1 hF rfl (e_move hF rfl) fun a hF => ?_
    refine ls <| a_bsl (e := 3) (sz := 1) [] hF rfl hS rfl rfl rfl (fun w => by kernel_rfl) fun b90 w a hS hF => ?_
    have hv89 : Rows (α := Int) H [] [] := .nil
    refine ls <| q1 hF rfl (e_move hF rfl) fun a hF => ?_
    refine ls <| q1 hF rfl (e_move hF rfl) fun a hF => ?_
    refine ls <| q1 hF rfl (e_subL (xs := p7) (vl := 0) (vh := p6) hF Try.runUnderlying26 Try.sizeOf3 rfl hc10 rfl rfl h93 e96 e97) fun a hF => ?_
    obtain ⟨us106, hd107, hu108⟩ := id hr99
    refine ls <| m_app (α := Int) (xs := []) (ys := l92) hF rfl hS Try.underlying26 info3 rfl (by decide) rfl rfl rfl (.head _) hv89 (hS.rdH (.head _) hd107) hu108 h101 fun oa102 cap103 vs104 w a hv105 hU hF => ?_
    replace hS := hU _ .head
    clear hU
    refine ls <| q1 hF rfl (e_nilp hF rfl) fun a hF => ?_
    refine ls <| q1 hF rfl (e_fa hF fa71_3 rfl) fun a hF => ?_
    refine ls <| s_blk hF hS Try.sizeOf26 rfl rfl rfl rfl (.tail (.tail .head)) (.succ (.succ (.succ .zero))) fun w hS => ?_
    refine re <| ?_
    refine tn <| th <| ?_
    refine rg <| ?_
    refine ls <| q1 hF rfl (e_move hF rfl) fun a hF => ?_
    refine ls <| q1 hF rfl (e_asg hF rfl) fun a hF => ?_
    refine ls <| q1 hF rfl (e_asg hF rfl) fun a hF => ?_
    refine re <| ?_
    refine tn <| ?_
    refine wr <| ?_
    replace hS := St.nilS hS 73 3
    replace hS := St.sep [blk b76 (.cells [.slice oa57 l55.length cap58, .slice oa69 l67.length cap70, .slice oa82 l80.length cap83, .slice oa102 l100.length cap103, .slice none 0 0].toArray 71 (0, 0)), sla 3 1 oa57 l55.length cap58 vs59, sla 3 1 oa69 l67.length cap70 vs71, sla 3 1 oa82 l80.length cap83 vs84, sla 3 1 oa102 l100.length cap103 vs104, sla 73 3 none 0 0 []] (hS.pickL (.cons (.tail (.tail (.tail .head))) (.cons (.tail (.tail (.tail (.tail .head)))) (.cons (.tail (.tail (.tail .head))) (.cons (.tail (.tail .head)) (.cons (.tail .head) (.cons .head .nil)))))))
    obtain rfl := Option.some.inj hm
    exact r2 hF Try.results21 rfl rfl ⟨(.pointer (some ⟨b76, 0, none⟩)), (sepA [blk b76 (.cells [.slice oa57 l55.length cap58, .slice oa69 l67.length cap70, .slice oa82 l80.length cap83, .slice oa102 l100.length cap103, .slice none 0 0].toArray 71 (0, 0)), sla 3 1 oa57 l55.length cap58 vs59, sla 3 1 oa69 l67.length cap70 vs71, sla 3 1 oa82 l80.length cap83 vs84, sla 3 1 oa102 l100.length cap103 vs104, sla 73 3 none 0 0 []]), rfl, (.inr ⟨b76, oa57, cap58, vs59, oa69, cap70, vs71, oa82, cap83, vs84, oa102, cap103, vs104, none, 0, [], _, rfl, rfl, rfl, (fun _ => Rows.ind hv60), (fun _ => Rows.ind hv72), (fun _ => Rows.ind hv85), (fun _ => Rows.ind hv105), (fun _ => .nil)⟩), hS.endFresh (.head _)⟩

set_option maxRecDepth 100000 in
theorem leadlinelaw11_cut_c {N : Nat} {w0 : World} {H : PH} (hH : H.le w0) {cs2 : List Value} {p1 : leadlinelaw11_Set} (g3 : Enc.rep H cs2 p1) {r : leadlinelaw11_Set} (hm : leadlinelaw11_cut N p1 = some r) : Tot Try.prog 20 #[.agg cs2.toArray] w0 (fun v w' => ∃ (H' : PH) (cs0 : List Value), v = .agg cs0.toArray ∧ Enc.rep H' cs0 r ∧ Ext w0 H H' ∧ H'.le w' ∧ Keep Nil w0 w') := by
  unfold leadlinelaw11_cut at hm
  refine fn0 (args := [.agg cs2.toArray]) (F := [(0, .agg cs2.toArray)]) Try.func20 rfl Try.ntmps20 rfl rfl fun a hF => ?_
  have hS : St w0 Nil [H] [] w0 := start1 hH
  obtain ⟨oa4, cap5, oa8, cap9, rfl, hc6, hr7, hc10, hr11⟩ := leadlinelaw11_Set_open g3
  refine th <| ?_
  refine rg <| ?_
  refine ls <| a_box (cs := [.slice oa4 p1.Of.length cap5, .int .i64 p1.Stays, .slice oa8 p1.Firsts.length cap9].toArray) hF rfl hS rfl rfl fun b12 w a hS hF => ?_
  refine ls <| a_alloc (cs := [.slice none 0 0, .int .i64 0, .slice none 0 0].toArray) hF rfl hS Try.zeroValue46 rfl fun b13 w a hS hF => ?_
  refine re <| ?_
  refine tn <| th <| ?_
  replace hm := bind_some hm
  obtain ⟨l14, h15, hm⟩ := hm
  obtain ⟨oa16, cap17, e18, e19, hc20, hr21⟩ := SR.sub (sz := 1) hr7 hc6 rfl h15
  replace hm := bind_some hm
  obtain ⟨l22, h23, hm⟩ := hm
  obtain ⟨oa24, cap25, e26, e27, hc28, hr29⟩ := SR.sub (sz := 1) hr11 hc10 rfl h23
  refine rxS 17 hS wide (by kernel_rfl) fun w hS => ?_
  refine x1 (St.ld hS) hF rfl rfl (fun _ _ _ h => h) (fun w hl => (e_fa hF fa46_0 rfl)) fun a hF => ?_
  refine x1 (St.ld hS) hF rfl rfl (fun _ _ _ h => h) (fun w hl => (e_ld hF Try.isAgg26 rfl (hl.cellB (.tail _ (.head _)) rfl))) fun a hF => ?_
  refine x1 (St.ld hS) hF rfl rfl (fun _ _ _ h => h) (fun w hl => (e_fa hF fa46_0 rfl)) fun a hF => ?_
  refine x1 (St.ld hS) hF rfl rfl (fun _ _ _ h => h) (fun w hl => (e_ld hF Try.isAgg26 rfl (hl.cellB (.tail _ (.head _)) rfl))) fun a hF => ?_
  refine x1 (St.ld hS) hF rfl rfl (fun _ _ _ h => h) (fun w hl => (e_lenL (α := Int) (xs := p1.Of) hF Try.runUnderlying26 rfl)) fun a hF => ?_
  refine x1 (St.ld hS) hF rfl rfl (fun _ _ _ h => h) (fun w hl => (e_min hF rfl rfl)) fun a hF => ?_
  refine x1 (St.ld hS) hF rfl rfl (fun _ _ _ h => h) (fun w hl => (e_subL (xs := p1.Of) (vl := 0) (vh := (min (p1.Of.length : Int) 22)) hF Try.runUnderlying26 Try.sizeOf3 rfl hc6 rfl rfl h15 e18 e19)) fun a hF => ?_
  refine x1 (St.ld hS) hF rfl rfl (fun _ _ _ h => h) (fun w hl => (e_fa hF fa46_1 rfl)) fun a hF => ?_
  refine x1 (St.ld hS) hF rfl rfl (fun _ _ _ h => h) (fun w hl => (e_ld hF Try.isAgg3 rfl (hl.cellB (.tail _ (.head _)) rfl))) fun a hF => ?_
  refine x1 (St.ld hS) hF rfl rfl (fun _ _ _ h => h) (fun w hl => (e_fa hF fa46_2 rfl)) fun a hF => ?_
  refine x1 (St.ld hS) hF rfl rfl (fun _ _ _ h => h) (fun w hl => (e_ld hF Try.isAgg26 rfl (hl.cellB (.tail _ (.head _)) rfl))) fun a hF => ?_
  refine x1 (St.ld hS) hF rfl rfl (fun _ _ _ h => h) (fun w hl => (e_fa hF fa46_2 rfl)) fun a hF => ?_
  refine x1 (St.ld hS) hF rfl rfl (fun _ _ _ h => h) (fun w hl => (e_ld hF Try.isAgg26 rfl (hl.cellB (.tail _ (.head _)) rfl))) fun a hF => ?_
  refine x1 (St.ld hS) hF rfl rfl (fun _ _ _ h => h) (fun w hl => (e_lenL (α := Int) (xs := p1.Firsts) hF Try.runUnderlying26 rfl)) fun a hF => ?_
  refine x1 (St.ld hS) hF rfl rfl (fun _ _ _ h => h) (fun w hl => (e_min hF rfl rfl)) fun a hF => ?_
  refine x1 (St.ld hS) hF rfl rfl (fun _ _ _ h => h) (fun w hl => (e_subL (xs := p1.Firsts) (vl := 0) (vh := (min (p1.Firsts.length : Int) 22)) hF Try.runUnderlying26 Try.sizeOf3 rfl hc10 rfl rfl h23 e26 e27)) fun a hF => ?_
  refine x1 (St.ld hS) hF rfl rfl (fun _ _ _ h => h) (fun w hl => (e_bldK [.slice oa16 l14.length cap17, .int .i64 p1.Stays, .slice oa24 l22.length cap25] [.slice oa16 l14.length cap17, .int .i64 p1.Stays, .slice oa24 l22.length cap25] hF ⟨rfl, rfl, rfl, trivial⟩ (fun w => by kernel_rfl))) fun a hF => ?_
  refine xz rfl <| s_blkA hF hS Try.sizeOf46 rfl rfl rfl rfl (one_cells rfl) .head fun w hS => ?_
  refine tn <| ?_
  refine wr <| ?_
  obtain rfl := Option.some.inj hm
  exact r1c (vs := [.slice oa16 l14.length cap17, .int .i64 p1.Stays, .slice oa24 l22.length cap25]) (.inl rfl) hF Try.results20 rfl Try.isAgg46 Try.sizeOf46 rfl ((St.ld hS).cellsB (.head _)) ⟨H, _, rfl, (show Enc.rep (α := leadlinelaw11_Set) H [.slice oa16 l14.length cap17, .int .i64 p1.Stays, .slice oa24 l22.length cap25] (leadlinelaw11_Set.mk l14 p1.Stays l22) from ⟨_, _, rfl, ⟨_, _, rfl, hc20, hr21⟩, ⟨_, _, rfl, rfl, ⟨_, _, rfl, hc28, hr29⟩⟩⟩), (Ext.refl _ _), (St.le hS), hS.keep⟩
end Go.LM.LINES
