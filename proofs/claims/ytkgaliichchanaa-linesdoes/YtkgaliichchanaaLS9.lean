/- A walk: whatever is called, the program's memory answers as the document's. No condition beyond the theorem's own premises. -/
import Derived.Test.YtkgaliichchanaaLS7
import Derived.Test.YtkgaliichchanaaLS8
import Derived.Test.YtkgaliichchanaaLSv
import Derived.Test.YtkgaliichchanaaLSc
set_option linter.unusedSectionVars false
namespace Go.LM.LINES
open Go Go.LL Go.MD Go.LM Go.Proofs Go.MD.LINES

theorem image1_c (w0 : World) (p : Nat) (g : MG) (m : MS) (hm : MemR (hp w0) p g m) (hi : MInv m) (oc : Option Addr) (cc : Nat) (cut : List Int) (hr : Rd (hp w0) oc (ints cut)) (hcl : cut.length ≤ 1000000) :
    Tot Try.prog 11 #[.pointer (some ⟨p, 0, none⟩), .slice oc cut.length cc] w0 (fun v w' => ∃ oa c xs, v = .tuple #[.slice oa xs.length c, .int .i64 (if cutOk m cut then 0 else 1)] ∧ xs = (if cutOk m cut then imgUp m cut (nlines m) else []) ∧ Fresh w0 (sla 3 1 oa xs.length c (ints xs)) w') :=
  (image_c w0 p g m hm hi oc cc cut hr hcl).mono fun v w' hR => by
    rcases hR with ⟨h1, rfl, hk⟩ | ⟨h1, oa, c, rfl, hf⟩
    · exact ⟨none, 0, [], by rw [if_neg h1]; rfl, by rw [if_neg h1], ⟨hk, ⟨by simp [ints], .inl ⟨rfl, rfl⟩⟩, fun b hb => by simp [sla, sl, slBlock] at hb⟩⟩
    · exact ⟨oa, c, imgUp m cut (nlines m), by rw [if_pos h1, imgUp_len], by rw [if_pos h1], by rwa [imgUp_len]⟩
theorem readM_two (m : MS) (cell : Int) : ∃ a e, readM m cell = .tuple #[.int .i64 a, .int .i64 e] := by
  unfold readM; split <;> exact ⟨_, _, rfl⟩
theorem MemF.mono {h h' : PH} {g : MG} {m : MS} (hf : MemF h g m) (hm : ∀ b o, h b = some o → h' b = some o) : MemF h' g m := ⟨hf.of.mono hm, hf.firsts.mono hm, hf.pend, hf.dis, hf.good⟩
theorem img_few {m : MS} (hi : MInv m) (cut : List Int) : (if cutOk m cut then imgUp m cut (nlines m) else []).length ≤ 1000000 := by
  have := hi.len1; have := hi.len3; have := hi.len4
  split
  · rw [imgUp_len]; omega
  · simp
theorem few_w {m : MS} {k : Rm} (hs : Sim m k) (hw : k.W.length ≤ 1000) : ∀ j, (m.pend j).length < 1000000 := fun j => by
  have := pend_few hs hw j; omega

theorem fa44_0 (ad : Addr) (w : World) : (Instr.fieldAt 44 (.pointer (some ad)) 0).run Try.prog w = .ok (.pointer (some (ad.add 0))) w := by kernel_rfl
theorem fa44_1 (ad : Addr) (w : World) : (Instr.fieldAt 44 (.pointer (some ad)) 1).run Try.prog w = .ok (.pointer (some (ad.add 1))) w := by kernel_rfl
theorem fa44_2 (ad : Addr) (w : World) : (Instr.fieldAt 44 (.pointer (some ad)) 2).run Try.prog w = .ok (.pointer (some (ad.add 2))) w := by kernel_rfl
theorem fa44_3 (ad : Addr) (w : World) : (Instr.fieldAt 44 (.pointer (some ad)) 3).run Try.prog w = .ok (.pointer (some (ad.add 3))) w := by kernel_rfl

set_option maxRecDepth 100000 in
set_option maxHeartbeats 4000000 in
theorem does_c (w0 : World) (so sf oo : Option Addr) (sc sfc co : Nat) (sof sfi : List Int) (st : Int) (ops : List OpV) (hso : Rd (hp w0) so (ints sof)) (hsc : sof.length ≤ sc) (hsf : Rd (hp w0) sf (ints sfi)) (hsfc : sfi.length ≤ sfc) (hr : Rd (hp w0) oo (opcells ops)) (hops : ∀ o ∈ ops, o.xs.length ≤ o.cap ∧ Rd (hp w0) o.oa (ints o.xs)) :
    Tot Try.prog 7 #[.agg #[.slice so sof.length sc, .int .i64 st, .slice sf sfi.length sfc], .slice oo ops.length co] w0 (fun v w' => v = .bool true ∧ Keep Nil w0 w') := by
  refine fn0 (args := [.agg #[.slice so sof.length sc, .int .i64 st, .slice sf sfi.length sfc], .slice oo ops.length co]) (F := [(0, .agg #[.slice so sof.length sc, .int .i64 st, .slice sf sfi.length sfc]), (1, .slice oo ops.length co)]) Try.func7 rfl Try.ntmps7 rfl rfl fun a hF => ?_
  have hS : St w0 Nil [hp w0] [] w0 := .start (by simp [hp_le])
  refine th <| rg <| ls <| a_box hF rfl hS rfl rfl fun bs w a hS hF => ?_
  refine ls <| q1 hF rfl (e_asg hF rfl) fun a hF =>
    re <| tn <| ?_
  refine th <| rg <| ls <| q1 hF rfl (e_ldA hF Try.isAgg46 Try.sizeOf46 rfl rfl ((St.ld hS).cellsB (.head _))) fun a hF =>
    ls <| c1 hF rfl Try.call20 (cut_c _ _ _ _ _ _ _ _ hsc hsfc) ⟨rfl, trivial⟩ (fun v w a hR hF => ?_)
  obtain ⟨rfl, hk⟩ := hR
  replace hS := hS.pass hk
  clear hk
  have hof2 := Rd.take hso 22
  have hfi2 := Rd.take hsf 22
  have hofc : (sof.take 22).length ≤ sc := by rw [List.length_take]; omega
  have hfic : (sfi.take 22).length ≤ sfc := by rw [List.length_take]; omega
  refine ls <| s_blkA hF hS Try.sizeOf46 rfl rfl rfl rfl (one_cells rfl) .head fun w hS => ?_
  refine re <| tn <| ?_
  refine th <| rg <| ls <| q1 hF rfl (e_fa hF fa46_0 rfl) fun a hF =>
    ls <| q1 hF rfl (e_ld hF Try.isAgg26 rfl ((St.ld hS).cellB (.head _) rfl)) fun a hF =>
    ls <| q1 hF rfl (e_fa hF fa46_1 rfl) fun a hF =>
    ls <| q1 hF rfl (e_ld hF Try.isAgg3 rfl ((St.ld hS).cellB (.head _) rfl)) fun a hF =>
    ls <| q1 hF rfl (e_fa hF fa46_2 rfl) fun a hF =>
    ls <| q1 hF rfl (e_ld hF Try.isAgg26 rfl ((St.ld hS).cellB (.head _) rfl)) fun a hF =>
    ls <| c1 hF rfl Try.call17 (new_c _ _ _ _ _ _ _ _ (hS.rdH (.head _) hof2) (hS.rdH (.head _) hfi2) hofc hfic) ⟨rfl, rfl, rfl, trivial⟩ (fun v w a hR hF => ?_)
  rcases hR with ⟨hnk, rfl, hk⟩ | ⟨hnk, p, g, rfl, hg, hfr⟩
  ·
    replace hS := hS.pass hk
    clear hk
    refine ls <| q1 hF rfl (e_move hF rfl) fun a hF =>
      ls <| q1 hF rfl (e_ext hF rfl rfl) fun a hF =>
      ls <| q1 hF rfl (e_ext hF rfl rfl) fun a hF =>
      ls <| q1 hF rfl (e_asg hF rfl) fun a hF =>
      ls <| q1 hF rfl (e_asg hF rfl) fun a hF =>
      re <| tn <| ?_
    refine th <| rg <| ls <| q1 hF rfl (e_fa hF fa46_0 rfl) fun a hF =>
      ls <| q1 hF rfl (e_ld hF Try.isAgg26 rfl ((St.ld hS).cellB (.head _) rfl)) fun a hF =>
      ls <| q1 hF rfl (e_fa hF fa46_1 rfl) fun a hF =>
      ls <| q1 hF rfl (e_ld hF Try.isAgg3 rfl ((St.ld hS).cellB (.head _) rfl)) fun a hF =>
      ls <| q1 hF rfl (e_fa hF fa46_2 rfl) fun a hF =>
      ls <| q1 hF rfl (e_ld hF Try.isAgg26 rfl ((St.ld hS).cellB (.head _) rfl)) fun a hF =>
      ls <| c1 hF rfl Try.call21 (knewN (hS.hs _ (.head _)) hofc (SR_ints hof2) hfic (SR_ints hfi2) hnk) ⟨rfl, rfl, rfl, trivial⟩ (fun v w a hR hF => ?_)
    obtain ⟨rfl, hk⟩ := hR
    replace hS := hS.pass hk
    clear hk
    refine ls <| q1 hF rfl (e_move hF rfl) fun a hF =>
      ls <| q1 hF rfl (e_ext hF rfl rfl) fun a hF =>
      ls <| q1 hF rfl (e_ext hF rfl rfl) fun a hF =>
      ls <| q1 hF rfl (e_asg hF rfl) fun a hF =>
      ls <| q1 hF rfl (e_asg hF rfl) fun a hF =>
      re <| tn <| ?_
    refine th <| th <| rg <| ls <| q1 hF rfl (e_move hF rfl) fun a hF =>
      ls <| q1 hF rfl (e_move hF rfl) fun a hF =>
      ls <| q1 hF rfl (e_neq hF rfl rfl) fun a hF =>
      ls <| q1 hF rfl (e_move hF rfl) fun a hF =>
      ls <| gy hF rfl rfl <| q1 hF rfl (e_move hF rfl) fun a hF =>
      ls <| gy hF rfl rfl <| q1 hF rfl (e_eqlP hF Try.runUnderlying24 rfl rfl) fun a hF =>
      ls <| gy hF rfl rfl <| q1 hF rfl (e_move hF rfl) fun a hF =>
      ls <| gy hF rfl rfl <| q1 hF rfl (e_eqlP hF Try.runUnderlying48 rfl rfl) fun a hF =>
      ls <| gy hF rfl rfl <| q1 hF rfl (e_neqB hF Try.runUnderlying4 rfl rfl) fun a hF =>
      ls <| q1 hF rfl (e_pickF hF rfl rfl) fun a hF =>
      re <| tn <| ?_
    refine cf hF rfl <| wk <| tn <| ?_
    refine th <| th <| rg <| ls <| q1 hF rfl (e_move hF rfl) fun a hF =>
      ls <| q1 hF rfl (e_eqlP hF Try.runUnderlying24 rfl rfl) fun a hF =>
      ls <| q1 hF rfl (e_move hF rfl) fun a hF =>
      ls <| gn hF rfl rfl rfl rfl fun a hF =>
      ls <| gn hF rfl rfl rfl rfl fun a hF =>
      ls <| q1 hF rfl (e_pickT hF rfl rfl) fun a hF =>
      re <| tn <| ?_
    refine ct hF rfl <| th <| rg <| ls <| c1 hF rfl Try.call13 (fixed_c _) trivial (fun v w a hR hF => ?_)
    obtain ⟨rfl, hk⟩ := hR
    replace hS := hS.pass hk
    clear hk
    refine ls <| q1 hF rfl (e_asg hF rfl) fun a hF =>
      re <| tn <| ?_
    refine wr <| tr <| ?_
    exact r1 hF Try.results7 rfl ⟨rfl, hS.keep⟩
  ·
    replace hS := (hS.fresh hfr).unsep2
    clear hfr
    obtain ⟨H1, hO, hx1, hS⟩ := St.frzM hS .head
    have hf := newF hO hg
    have hi := MInv.new hnk
    have hsub := hx1.sub
    clear hO hg hx1
    refine ls <| q1 hF rfl (e_move hF rfl) fun a hF =>
      ls <| q1 hF rfl (e_ext hF rfl rfl) fun a hF =>
      ls <| q1 hF rfl (e_ext hF rfl rfl) fun a hF =>
      ls <| q1 hF rfl (e_asg hF rfl) fun a hF =>
      ls <| q1 hF rfl (e_asg hF rfl) fun a hF =>
      re <| tn <| ?_
    refine th <| rg <| ls <| q1 hF rfl (e_fa hF fa46_0 rfl) fun a hF =>
      ls <| q1 hF rfl (e_ld hF Try.isAgg26 rfl ((St.ld hS).cellB (.tail _ (.head _)) rfl)) fun a hF =>
      ls <| q1 hF rfl (e_fa hF fa46_1 rfl) fun a hF =>
      ls <| q1 hF rfl (e_ld hF Try.isAgg3 rfl ((St.ld hS).cellB (.tail _ (.head _)) rfl)) fun a hF =>
      ls <| q1 hF rfl (e_fa hF fa46_2 rfl) fun a hF =>
      ls <| q1 hF rfl (e_ld hF Try.isAgg26 rfl ((St.ld hS).cellB (.tail _ (.head _)) rfl)) fun a hF =>
      ls <| c1 hF rfl Try.call21 (knewY (hS.hs _ (.head _)) hofc (SR_ints (hof2.mono hsub)) hfic (SR_ints (hfi2.mono hsub)) hnk) ⟨rfl, rfl, rfl, trivial⟩ (fun v w a hR hF => ?_)
    obtain ⟨pk, gk, k, rfl, hs, hW0, hfr⟩ := hR
    replace hS := (hS.fresh hfr).unsep2
    clear hfr
    obtain ⟨H2, hO, hx2, hS⟩ := St.frzM hS .head
    have hkf := knewF hO
    replace hf := MemF.mono hf hx2.sub
    replace hsub := fun b o h => hx2.sub b o (hsub b o h)
    clear hO hx2
    generalize newM (sof.take 22) st (sfi.take 22) = m at hf hi hs hS
    refine ls <| q1 hF rfl (e_move hF rfl) fun a hF =>
      ls <| q1 hF rfl (e_ext hF rfl rfl) fun a hF =>
      ls <| q1 hF rfl (e_ext hF rfl rfl) fun a hF =>
      ls <| q1 hF rfl (e_asg hF rfl) fun a hF =>
      ls <| q1 hF rfl (e_asg hF rfl) fun a hF =>
      re <| tn <| ?_
    refine th <| th <| rg <| ls <| q1 hF rfl (e_move hF rfl) fun a hF =>
      ls <| q1 hF rfl (e_move hF rfl) fun a hF =>
      ls <| q1 hF rfl (e_neq hF rfl rfl) fun a hF =>
      ls <| q1 hF rfl (e_move hF rfl) fun a hF =>
      ls <| gy hF rfl rfl <| q1 hF rfl (e_move hF rfl) fun a hF =>
      ls <| gy hF rfl rfl <| q1 hF rfl (e_eqlP hF Try.runUnderlying24 rfl rfl) fun a hF =>
      ls <| gy hF rfl rfl <| q1 hF rfl (e_move hF rfl) fun a hF =>
      ls <| gy hF rfl rfl <| q1 hF rfl (e_eqlP hF Try.runUnderlying48 rfl rfl) fun a hF =>
      ls <| gy hF rfl rfl <| q1 hF rfl (e_neqB hF Try.runUnderlying4 rfl rfl) fun a hF =>
      ls <| q1 hF rfl (e_pickF hF rfl rfl) fun a hF =>
      re <| tn <| ?_
    refine cf hF rfl <| wk <| tn <| ?_
    refine th <| th <| rg <| ls <| q1 hF rfl (e_move hF rfl) fun a hF =>
      ls <| q1 hF rfl (e_eqlP hF Try.runUnderlying24 rfl rfl) fun a hF =>
      ls <| q1 hF rfl (e_move hF rfl) fun a hF =>
      ls <| gy hF rfl rfl <| q1 hF rfl (e_move hF rfl) fun a hF =>
      ls <| gy hF rfl rfl <| q1 hF rfl (e_eqlP hF Try.runUnderlying48 rfl rfl) fun a hF =>
      ls <| q1 hF rfl (e_pickF hF rfl rfl) fun a hF =>
      re <| tn <| ?_
    refine cf hF rfl <| wk <| tn <| ?_
    replace hS := hS.pickL (.cons (.tail .head) (.cons .head .nil))
    refine th <| th <| rg <| ls <| q1 hF rfl (e_asg hF rfl) fun a hF =>
      re <| tn <| ?_
    refine wb <| lp (α := Nat × PH × Nat × MG × MS × KG × Rm) (fun (gh : Nat × PH × Nat × MG × MS × KG × Rm) a w => match gh with | (i, H, p, g, m, gk, k) => Fr 213 [(1, .slice oo ops.length co), (9, .int .i64 ((i : Nat) : Int)), (5, .pointer (some ⟨p, 0, none⟩)), (7, .pointer (some ⟨pk, 0, none⟩))] a ∧ St w0 Nil [H] [memA p g m, kA pk gk k] w ∧ ((∀ b o, hp w0 b = some o → H b = some o) ∧ MemF H g m ∧ KF H gk k ∧ MInv m ∧ Sim m k ∧ k.W.length ≤ i ∧ i ≤ 60 ∧ i ≤ ops.length)) (fun (gh : Nat × PH × Nat × MG × MS × KG × Rm) => match gh with | (i, H, p, g, m, gk, k) => ops.length - i) (0, H2, p, g, m, gk, k) ⟨hF.has ⟨rfl, rfl, rfl, rfl, trivial⟩, hS, ⟨hsub, hf, hkf, hi, hs, by rw [hW0]; exact Nat.le_refl _, Nat.zero_le _, Nat.zero_le _⟩⟩ ?_
    clear hF hS
    rintro ⟨i, H, p, g, m, gk, k⟩ a w ⟨hF, hS, ⟨hsub, hf, hkf, hi, hs, hwi, hi60, hio⟩⟩
    have hw : k.W.length ≤ 1000 := by omega
    refine th <| th <| rg <| ls <| q1 hF rfl (e_move hF rfl) fun a hF =>
      ls <| q1 hF rfl (e_move hF rfl) fun a hF =>
      ls <| q1 hF rfl (e_lenS hF Try.runUnderlying22 rfl) fun a hF =>
      ls <| q1 hF rfl (e_lss hF rfl rfl) fun a hF =>
      ls <| q1 hF rfl (e_move hF rfl) fun a hF =>
      Fr.split hF (t := 70) rfl (fun hb hF => ?_) (fun hb hF => ?_)
    ·
      replace hb := of_decide_eq_true hb
      refine ls <| gy hF rfl rfl <| q1 hF rfl (e_move hF rfl) fun a hF =>
        ls <| gy hF rfl rfl <| q1 hF rfl (e_lss hF rfl rfl) fun a hF =>
        ls <| q1 hF rfl (e_pickT hF rfl rfl) fun a hF =>
        re <| tn <| ?_
      refine cs hF rfl (fun hb => ?_) (fun hb => ?_)
      ·
        replace hb := of_decide_eq_true hb
        refine wk <| tn <| ?_
        have hic : i < ops.length := by omega
        obtain ⟨o, hoe⟩ : ∃ o, o = ops[i] := ⟨_, rfl⟩
        obtain ⟨hoc, hor⟩ := hops o (hoe ▸ List.getElem_mem hic)
        have hr2 := hr.mono hsub
        refine th <| wb <| th <| rg <| ls <| q1 hF rfl (e_move hF rfl) fun a hF =>
          ls <| q1 hF rfl (e_move hF rfl) fun a hF =>
          ls <| q1 hF rfl (e_ia (i := i) hF Try.runUnderlying22 Try.sizeOf44 rfl rfl rfl (by omega) (hr2.some (opcells_ne (l := ops) (by omega)))) fun a hF =>
          ls <| q1 hF rfl (e_as (v' := .agg (opcell o).toArray) (e_ldA hF Try.isAgg44 Try.sizeOf44 rfl rfl ((St.ld hS).elsH (.head _) hr2 (opcells_sub (l := ops) (k := i) hic))) (by rw [hoe])) fun a hF =>
          ls <| a_alloc hF rfl hS Try.zeroValue44 rfl fun bo w a hS hF => ?_
        refine ls <| s_blkA (c' := opcell o) hF hS Try.sizeOf44 rfl rfl rfl rfl (one_cells rfl) .head fun w hS => ?_
        refine re <| tn <| ?_
        replace hS : St w0 Nil [H] [blk bo (.cells #[.int .i64 o.kind, .int .i64 o.cell, .int .i64 o.n, .slice o.oa o.xs.length o.cap] 44 (0, 0)), memA p g m, kA pk gk k] w := hS
        obtain ⟨cu, hcu⟩ : ∃ cu, cu = o.xs.take 22 := ⟨_, rfl⟩
        have hcr : Rd H o.oa (ints cu) := hcu ▸ Rd.take (hor.mono hsub) 22
        have hc22 : cu.length ≤ 22 := by rw [hcu, List.length_take]; omega
        have hcc : cu.length ≤ o.cap := by rw [hcu, List.length_take]; omega
        refine th <| rg <| ls <| q1 hF rfl (e_fa hF fa44_3 rfl) fun a hF =>
          ls <| q1 hF rfl (e_ld hF Try.isAgg26 rfl ((St.ld hS).cellB (.head _) rfl)) fun a hF =>
          ls <| q1 hF rfl (e_fa hF fa44_3 rfl) fun a hF =>
          ls <| q1 hF rfl (e_ld hF Try.isAgg26 rfl ((St.ld hS).cellB (.head _) rfl)) fun a hF =>
          ls <| q1 hF rfl (e_lenS hF Try.runUnderlying26 rfl) fun a hF =>
          ls <| q1 hF rfl (e_minN (m := o.xs.length) (n := 22) hF rfl rfl) fun a hF =>
          ls <| q1 hF rfl (e_as (v' := .slice o.oa cu.length o.cap) (e_slHi (h := min o.xs.length 22) hF Try.runUnderlying26 Try.sizeOf3 rfl rfl rfl (by omega)) (by rw [hcu, List.length_take, Nat.min_comm])) fun a hF =>
          ls <| q1 hF rfl (e_asg hF rfl) fun a hF =>
          re <| tn <| ?_
        refine th <| rg <| ls <| q1 hF rfl (e_asg hF rfl) fun a hF =>
          ls <| q1 hF rfl (e_asg hF rfl) fun a hF =>
          re <| tn <| ?_
        refine mid (fun a w => ∃ (p : Nat) (g : MG) (m : MS) (gk : KG) (k : Rm) (x : Int), Fr 213 [(1, .slice oo ops.length co), (9, .int .i64 ((i : Nat) : Int)), (5, .pointer (some ⟨p, 0, none⟩)), (7, .pointer (some ⟨pk, 0, none⟩)), (10, .pointer (some ⟨bo, 0, none⟩)), (11, .slice o.oa cu.length o.cap), (12, .int .i64 x), (13, .int .i64 x)] a ∧ St w0 Nil [H] [memA p g m, kA pk gk k, blk bo (.cells #[.int .i64 o.kind, .int .i64 o.cell, .int .i64 o.n, .slice o.oa o.xs.length o.cap] 44 (0, 0))] w ∧ MemF H g m ∧ KF H gk k ∧ MInv m ∧ Sim m k ∧ k.W.length ≤ i + 1) ?_ ?_
        ·
          refine th <| rg <| ls <| q1 hF rfl (e_fa hF fa44_0 rfl) fun a hF =>
            ls <| q1 hF rfl (e_ld hF Try.isAgg3 rfl ((St.ld hS).cellB (.head _) rfl)) fun a hF =>
            re <| tn <| ?_
          refine wb <| th <| rg <| ls <| q1 hF rfl (e_eql hF rfl rfl) fun a hF =>
            ls <| q1 hF rfl (e_asg hF rfl) fun a hF =>
            re <| tn <| ?_
          refine cs hF rfl (fun hb => ?_) (fun hb => ?_)
          ·
            replace hb := of_decide_eq_true hb
            refine th <| rg <| ls <| q1 hF rfl (e_move hF rfl) fun a hF =>
              ls <| q1 hF rfl (e_fa hF fa44_1 rfl) fun a hF =>
              ls <| q1 hF rfl (e_ld hF Try.isAgg3 rfl ((St.ld hS).cellB (.head _) rfl)) fun a hF =>
              ls <| q1 hF rfl (e_fa hF fa44_2 rfl) fun a hF =>
              ls <| q1 hF rfl (e_ld hF Try.isAgg3 rfl ((St.ld hS).cellB (.head _) rfl)) fun a hF =>
              ls <| c1 hF rfl Try.call18 (write_c _ _ (hS.hs _ (.head _)) _ _ _ (hS.ok _ (.tail _ (.head _))) (fun b hb => (hS.own _ (.tail _ (.head _)) b hb).2 _ (.head _)) hf hi _ _) ⟨rfl, rfl, rfl, trivial⟩ (fun v w a hR hF => ?_)
            obtain ⟨g1, rfl, hf1, hmut⟩ := hR
            replace hS := hS.mut hmut (.tail .head)
            clear hmut
            refine ls <| q1 hF rfl (e_asg hF rfl) fun a hF =>
              re <| tn <| ?_
            refine rg <| ls <| q1 hF rfl (e_move hF rfl) fun a hF =>
              ls <| q1 hF rfl (e_fa hF fa44_1 rfl) fun a hF =>
              ls <| q1 hF rfl (e_ld hF Try.isAgg3 rfl ((St.ld hS).cellB (.head _) rfl)) fun a hF =>
              ls <| q1 hF rfl (e_fa hF fa44_2 rfl) fun a hF =>
              ls <| q1 hF rfl (e_ld hF Try.isAgg3 rfl ((St.ld hS).cellB (.head _) rfl)) fun a hF =>
              ls <| c1 hF rfl Try.call22 (kwrite_c (hS.hs _ (.head _)) (hS.ok _ (.tail _ (.tail _ (.head _)))) (fun b hb => (hS.own _ (.tail _ (.tail _ (.head _))) b hb).2 _ (.head _)) hkf hi hs hw o.cell o.n) ⟨rfl, rfl, rfl, trivial⟩ (fun v w a hR hF => ?_)
            obtain ⟨gk1, k1, rfl, hkf1, hs1, hw1, hmut⟩ := hR
            replace hS := hS.mut hmut (.tail (.tail .head))
            clear hmut
            refine ls <| q1 hF rfl (e_asg hF rfl) fun a hF =>
              re <| bn <| tn <| ?_
            replace hS := hS.pickL (.cons (.tail .head) (.cons (.tail .head) (.cons .head .nil)))
            exact ⟨p, g1, _, gk1, k1, _, hF.has ⟨rfl, rfl, rfl, rfl, rfl, rfl, rfl, rfl, trivial⟩, hS, hf1, hkf1, hi.write (few_w hs hw), hs1, by omega⟩
          ·
            replace hb := of_decide_eq_false hb
            refine th <| rg <| ls <| q1 hF rfl (e_eql hF rfl rfl) fun a hF =>
              ls <| q1 hF rfl (e_asg hF rfl) fun a hF =>
              re <| tn <| ?_
            refine cs hF rfl (fun hb => ?_) (fun hb => ?_)
            ·
              replace hb := of_decide_eq_true hb
              refine th <| rg <| ls <| q1 hF rfl (e_move hF rfl) fun a hF =>
                ls <| q1 hF rfl (e_fa hF fa44_1 rfl) fun a hF =>
                ls <| q1 hF rfl (e_ld hF Try.isAgg3 rfl ((St.ld hS).cellB (.head _) rfl)) fun a hF =>
                ls <| c1 hF rfl Try.call16 (out_c _ _ (hS.hs _ (.head _)) _ _ _ (hS.ok _ (.tail _ (.head _))) (fun b hb => (hS.own _ (.tail _ (.head _)) b hb).2 _ (.head _)) hf hi _) ⟨rfl, rfl, trivial⟩ (fun v w a hR hF => ?_)
              obtain ⟨g1, rfl, hf1, hmut⟩ := hR
              replace hS := hS.mut hmut (.tail .head)
              clear hmut
              refine ls <| q1 hF rfl (e_asg hF rfl) fun a hF =>
                re <| tn <| ?_
              refine rg <| ls <| q1 hF rfl (e_move hF rfl) fun a hF =>
                ls <| q1 hF rfl (e_fa hF fa44_1 rfl) fun a hF =>
                ls <| q1 hF rfl (e_ld hF Try.isAgg3 rfl ((St.ld hS).cellB (.head _) rfl)) fun a hF =>
                ls <| c1 hF rfl Try.call23 (kout_c (hS.hs _ (.head _)) (hS.ok _ (.tail _ (.tail _ (.head _)))) (fun b hb => (hS.own _ (.tail _ (.tail _ (.head _))) b hb).2 _ (.head _)) hkf hi hs hw o.cell) ⟨rfl, rfl, trivial⟩ (fun v w a hR hF => ?_)
              obtain ⟨gk1, k1, rfl, hkf1, hs1, hw1, hmut⟩ := hR
              replace hS := hS.mut hmut (.tail (.tail .head))
              clear hmut
              refine ls <| q1 hF rfl (e_asg hF rfl) fun a hF =>
                re <| bn <| tn <| ?_
              replace hS := hS.pickL (.cons (.tail .head) (.cons (.tail .head) (.cons .head .nil)))
              exact ⟨p, g1, _, gk1, k1, _, hF.has ⟨rfl, rfl, rfl, rfl, rfl, rfl, rfl, rfl, trivial⟩, hS, hf1, hkf1, hi.out, hs1, by omega⟩
            ·
              replace hb := of_decide_eq_false hb
              refine th <| rg <| ls <| q1 hF rfl (e_eql hF rfl rfl) fun a hF =>
                ls <| q1 hF rfl (e_asg hF rfl) fun a hF =>
                re <| tn <| ?_
              refine cs hF rfl (fun hb => ?_) (fun hb => ?_)
              ·
                replace hb := of_decide_eq_true hb
                refine th <| rg <| ls <| q1 hF rfl (e_move hF rfl) fun a hF =>
                  ls <| q1 hF rfl (e_move hF rfl) fun a hF =>
                  ls <| c1 hF rfl Try.call19 (crash_c _ _ (hS.hs _ (.head _)) _ _ _ (hS.ok _ (.tail _ (.head _))) (fun b hb => (hS.own _ (.tail _ (.head _)) b hb).2 _ (.head _)) hf hi _ _ cu (hS.rdH (.head _) hcr) (by omega)) ⟨rfl, rfl, trivial⟩ (fun v w a hR hF => ?_)
                obtain ⟨g1, rfl, hf1, hmut⟩ := hR
                replace hS := hS.mut hmut (.tail .head)
                clear hmut
                refine ls <| q1 hF rfl (e_asg hF rfl) fun a hF =>
                  re <| tn <| ?_
                refine rg <| ls <| q1 hF rfl (e_move hF rfl) fun a hF =>
                  ls <| q1 hF rfl (e_move hF rfl) fun a hF =>
                  ls <| c1 hF rfl Try.call24 (kcrash_c (hS.hs _ (.head _)) (hS.ok _ (.tail _ (.tail _ (.head _)))) (fun b hb => (hS.own _ (.tail _ (.tail _ (.head _))) b hb).2 _ (.head _)) hkf hi hs hw hcc (SR_ints hcr)) ⟨rfl, rfl, trivial⟩ (fun v w a hR hF => ?_)
                obtain ⟨gk1, k1, rfl, hkf1, hs1, hw1, hmut⟩ := hR
                replace hS := hS.mut hmut (.tail (.tail .head))
                clear hmut
                refine ls <| q1 hF rfl (e_asg hF rfl) fun a hF =>
                  re <| bn <| tn <| ?_
                replace hS := hS.pickL (.cons (.tail .head) (.cons (.tail .head) (.cons .head .nil)))
                exact ⟨p, g1, _, gk1, k1, _, hF.has ⟨rfl, rfl, rfl, rfl, rfl, rfl, rfl, rfl, trivial⟩, hS, hf1, hkf1, hi.crash, hs1, by omega⟩
              ·
                replace hb := of_decide_eq_false hb
                refine th <| rg <| ls <| q1 hF rfl (e_eql hF rfl rfl) fun a hF =>
                  ls <| q1 hF rfl (e_asg hF rfl) fun a hF =>
                  re <| tn <| ?_
                refine cs hF rfl (fun hb => ?_) (fun hb => ?_)
                ·
                  replace hb := of_decide_eq_true hb
                  refine th <| rg <| ls <| q1 hF rfl (e_move hF rfl) fun a hF =>
                    ls <| q1 hF rfl (e_asg hF rfl) fun a hF =>
                    re <| tn <| ?_
                  refine th <| rg <| ls <| q1 hF rfl (e_move hF rfl) fun a hF =>
                    ls <| c1 hF rfl Try.call25 (copy_c _ _ _ _ _ (memA_read (hS.ok _ (.tail _ (.head _))) (hS.hs _ (.head _)) hf) hf hi) ⟨rfl, trivial⟩ (fun v w a hR hF => ?_)
                  obtain ⟨p2, g2, rfl, hf2, hfr⟩ := hR
                  replace hS := hS.fresh hfr
                  clear hfr
                  have hfo := hf
                  have hio := hi
                  refine ls <| q1 hF rfl (e_asg hF rfl) fun a hF =>
                    re <| tn <| ?_
                  refine th <| rg <| ls <| q1 hF rfl (e_move hF rfl) fun a hF =>
                    ls <| q1 hF rfl (e_fa hF fa44_1 rfl) fun a hF =>
                    ls <| q1 hF rfl (e_ld hF Try.isAgg3 rfl ((St.ld hS).cellB (.tail _ (.head _)) rfl)) fun a hF =>
                    ls <| c1 hF rfl Try.call18 (write_c _ _ (hS.hs _ (.head _)) _ _ _ (hS.ok _ (.tail _ (.tail _ (.head _)))) (fun b hb => (hS.own _ (.tail _ (.tail _ (.head _))) b hb).2 _ (.head _)) hfo hio _ _) ⟨rfl, rfl, rfl, trivial⟩ (fun v w a hR hF => ?_)
                  obtain ⟨go1, -, hfo, hmut⟩ := hR
                  replace hS := hS.mut hmut (.tail (.tail .head))
                  clear hmut
                  replace hio := hio.write (cell := o.cell) (n := 77) (few_w hs hw)
                  refine re <| tn <| ?_
                  refine th <| rg <| ls <| q1 hF rfl (e_move hF rfl) fun a hF =>
                    ls <| c1 hF rfl Try.call16 (out_c _ _ (hS.hs _ (.head _)) _ _ _ (hS.ok _ (.tail _ (.tail _ (.head _)))) (fun b hb => (hS.own _ (.tail _ (.tail _ (.head _))) b hb).2 _ (.head _)) hfo hio _) ⟨rfl, rfl, trivial⟩ (fun v w a hR hF => ?_)
                  obtain ⟨go2, -, -, hmut⟩ := hR
                  replace hS := hS.mut hmut (.tail (.tail .head))
                  clear hmut
                  refine re <| tn <| ?_
                  refine th <| rg <| ls <| q1 hF rfl (e_move hF rfl) fun a hF =>
                    ls <| q1 hF rfl (e_eqlP hF Try.runUnderlying24 rfl rfl) fun a hF =>
                    re <| tn <| ?_
                  refine cf hF rfl <| wk <| bn <| tn <| ?_
                  replace hS := hS.pickL (.cons .head (.cons (.tail (.tail .head)) (.cons .head .nil)))
                  exact ⟨p2, g2, m, gk, k, 0, hF.has ⟨rfl, rfl, rfl, rfl, rfl, rfl, rfl, rfl, trivial⟩, hS, hf2, hkf, hi, hs, by omega⟩
                ·
                  replace hb := of_decide_eq_false hb
                  refine wk <| bn <| tn <| ?_
                  replace hS := hS.pickL (.cons (.tail .head) (.cons (.tail .head) (.cons .head .nil)))
                  exact ⟨p, g, m, gk, k, 0, hF.has ⟨rfl, rfl, rfl, rfl, rfl, rfl, rfl, rfl, trivial⟩, hS, hf, hkf, hi, hs, by omega⟩
        clear hF hS
        rintro a w ⟨p, g, m, gk, k, x, hF, hS, hf, hkf, hi, hs, hwi⟩
        have hw : k.W.length ≤ 1000 := by omega
        refine th <| rg <| ls <| q1 hF rfl (e_move hF rfl) fun a hF =>
          ls <| q1 hF rfl (e_move hF rfl) fun a hF =>
          ls <| c1 hF rfl Try.call11 (image1_c _ _ _ _ (memA_read (hS.ok _ (.head _)) (hS.hs _ (.head _)) hf) hi _ _ cu (hS.rdH (.head _) hcr) (by omega)) ⟨rfl, rfl, trivial⟩ (fun v w a hR hF => ?_)
        obtain ⟨oi, ci, im, rfl, him, hfr⟩ := hR
        replace hS := hS.fresh hfr
        clear hfr
        refine ls <| q1 hF rfl (e_move hF rfl) fun a hF =>
          ls <| q1 hF rfl (e_ext hF rfl rfl) fun a hF =>
          ls <| q1 hF rfl (e_ext hF rfl rfl) fun a hF =>
          ls <| q1 hF rfl (e_asg hF rfl) fun a hF =>
          ls <| q1 hF rfl (e_asg hF rfl) fun a hF =>
          re <| tn <| ?_
        refine th <| rg <| ls <| q1 hF rfl (e_move hF rfl) fun a hF =>
          ls <| q1 hF rfl (e_move hF rfl) fun a hF =>
          ls <| c1 hF rfl Try.call26 (kimage_c (hS.hs _ (.head _)) (hS.ok _ (.tail _ (.tail _ (.head _)))) (fun b hb => (hS.own _ (.tail _ (.tail _ (.head _))) b hb).2 _ (.head _)) hkf hi hs hw hcc (SR_ints hcr)) ⟨rfl, rfl, trivial⟩ (fun v w a hR hF => ?_)
        obtain ⟨gk2, ok, ck, ik, rfl, hik, hkf2, hmut⟩ := hR
        replace hS := (hS.mut hmut (.tail (.tail .head))).pickL (.cons (.tail (.tail .head)) (.cons (.tail .head) (.cons .head (.cons .head .nil))))
        clear hmut
        replace hS := hS.unsep2
        clear hkf
        have hkf := hkf2
        clear hkf2
        refine ls <| q1 hF rfl (e_move hF rfl) fun a hF =>
          ls <| q1 hF rfl (e_ext hF rfl rfl) fun a hF =>
          ls <| q1 hF rfl (e_ext hF rfl rfl) fun a hF =>
          ls <| q1 hF rfl (e_asg hF rfl) fun a hF =>
          ls <| q1 hF rfl (e_asg hF rfl) fun a hF =>
          re <| tn <| ?_
        refine th <| rg <| ls <| q1 hF rfl (e_move hF rfl) fun a hF =>
          ls <| q1 hF rfl (e_fa hF fa44_1 rfl) fun a hF =>
          ls <| q1 hF rfl (e_ld hF Try.isAgg3 rfl ((St.ld hS).cellB (.tail _ (.tail _ (.tail _ (.tail _ (.head _))))) rfl)) fun a hF =>
          ls <| c1 hF rfl Try.call27 (read_c _ _ _ _ (memA_read (hS.ok _ (.tail _ (.tail _ (.head _)))) (hS.hs _ (.head _)) hf) hi o.cell) ⟨rfl, rfl, trivial⟩ (fun v w a hR hF => ?_)
        obtain ⟨rfl, hk⟩ := hR
        obtain ⟨ra, rq, hre⟩ := readM_two m o.cell
        rw [hre] at hF
        replace hS := hS.pass hk
        clear hk
        refine ls <| q1 hF rfl (e_move hF rfl) fun a hF =>
          ls <| q1 hF rfl (e_ext hF rfl rfl) fun a hF =>
          ls <| q1 hF rfl (e_ext hF rfl rfl) fun a hF =>
          ls <| q1 hF rfl (e_asg hF rfl) fun a hF =>
          ls <| q1 hF rfl (e_asg hF rfl) fun a hF =>
          re <| tn <| ?_
        refine th <| rg <| ls <| q1 hF rfl (e_move hF rfl) fun a hF =>
          ls <| q1 hF rfl (e_fa hF fa44_1 rfl) fun a hF =>
          ls <| q1 hF rfl (e_ld hF Try.isAgg3 rfl ((St.ld hS).cellB (.tail _ (.tail _ (.tail _ (.tail _ (.head _))))) rfl)) fun a hF =>
          ls <| c1 hF rfl Try.call28 (kread_c (hS.hs _ (.head _)) (hS.ok _ (.head _)) (fun b hb => (hS.own _ (.head _) b hb).2 _ (.head _)) hkf hi hs hw o.cell) ⟨rfl, rfl, trivial⟩ (fun v w a hR hF => ?_)
        obtain ⟨gk3, rfl, hkf2, hmut⟩ := hR
        rw [hre] at hF
        replace hS := hS.mut hmut .head
        clear hmut hkf
        have hkf := hkf2
        clear hkf2
        refine ls <| q1 hF rfl (e_move hF rfl) fun a hF =>
          ls <| q1 hF rfl (e_ext hF rfl rfl) fun a hF =>
          ls <| q1 hF rfl (e_ext hF rfl rfl) fun a hF =>
          ls <| q1 hF rfl (e_asg hF rfl) fun a hF =>
          ls <| q1 hF rfl (e_asg hF rfl) fun a hF =>
          re <| tn <| ?_
        replace hS := hS.pickL (.cons (.tail (.tail .head)) (.cons .head (.cons (.tail .head) (.cons .head .nil))))
        replace hS := St.sep [memA p g m, kA pk gk3 k] hS
        refine th <| th <| rg <| ls <| q1 hF rfl (e_move hF rfl) fun a hF =>
          ls <| q1 hF rfl (e_move hF rfl) fun a hF =>
          ls <| q1 hF rfl (e_as (e_neq hF rfl rfl) (congrArg Value.bool (decide_eq_false (fun h => h rfl)))) fun a hF =>
          ls <| q1 hF rfl (e_move hF rfl) fun a hF =>
          ls <| gy hF rfl rfl <| q1 hF rfl (e_move hF rfl) fun a hF =>
          ls <| gy hF rfl rfl <| q1 hF rfl (e_move hF rfl) fun a hF =>
          ls <| gy hF rfl rfl <| c1 hF rfl Try.call12 (intsT _ _ _ _ _ _ _ _ _ (hS.rdO (.tail _ (.head _))) (hS.rdO (.tail _ (.tail _ (.head _)))) (by rw [him]; exact img_few hi cu) rfl rfl (him.trans hik.symm)) ⟨rfl, rfl, trivial⟩ (fun v w a hR hF => ?_)
        obtain ⟨rfl, hk⟩ := hR
        replace hS := hS.pass hk
        clear hk
        refine ls <| gy hF rfl rfl <| q1 hF rfl (e_not hF rfl) fun a hF =>
          ls <| q1 hF rfl (e_pickF hF rfl rfl) fun a hF =>
          ls <| q1 hF rfl (e_move hF rfl) fun a hF =>
          ls <| gy hF rfl rfl <| q1 hF rfl (e_move hF rfl) fun a hF =>
          ls <| gy hF rfl rfl <| q1 hF rfl (e_move hF rfl) fun a hF =>
          ls <| gy hF rfl rfl <| q1 hF rfl (e_as (e_neq hF rfl rfl) (congrArg Value.bool (decide_eq_false (fun h => h rfl)))) fun a hF =>
          ls <| q1 hF rfl (e_pickF hF rfl rfl) fun a hF =>
          ls <| q1 hF rfl (e_move hF rfl) fun a hF =>
          ls <| gy hF rfl rfl <| q1 hF rfl (e_move hF rfl) fun a hF =>
          ls <| gy hF rfl rfl <| q1 hF rfl (e_move hF rfl) fun a hF =>
          ls <| gy hF rfl rfl <| q1 hF rfl (e_as (e_neq hF rfl rfl) (congrArg Value.bool (decide_eq_false (fun h => h rfl)))) fun a hF =>
          ls <| q1 hF rfl (e_pickF hF rfl rfl) fun a hF =>
          ls <| q1 hF rfl (e_move hF rfl) fun a hF =>
          ls <| gy hF rfl rfl <| q1 hF rfl (e_move hF rfl) fun a hF =>
          ls <| gy hF rfl rfl <| q1 hF rfl (e_move hF rfl) fun a hF =>
          ls <| gy hF rfl rfl <| q1 hF rfl (e_as (e_neq hF rfl rfl) (congrArg Value.bool (decide_eq_false (fun h => h rfl)))) fun a hF =>
          ls <| q1 hF rfl (e_pickF hF rfl rfl) fun a hF =>
          ls <| q1 hF rfl (e_move hF rfl) fun a hF =>
          ls <| gy hF rfl rfl <| q1 hF rfl (e_move hF rfl) fun a hF =>
          ls <| gy hF rfl rfl <| q1 hF rfl (e_move hF rfl) fun a hF =>
          ls <| gy hF rfl rfl <| c1 hF rfl Try.call29 (alike_c _ _ (hS.hs _ (.head _)) _ _ _ _ _ _ (hS.ok _ (.head _)) (fun b hb => (hS.own _ (.head _) b hb).2 _ (.head _)) hf hkf hi hs hw) ⟨rfl, rfl, trivial⟩ (fun v w a hR hF => ?_)
        obtain ⟨gk4, H', rfl, hext, hle, hdis, hkf2, hmut⟩ := hR
        replace hS := (St.mutH hS hmut hext hle hdis).unsep2
        clear hkf
        have hkf := hkf2
        clear hkf2 hmut hle hdis
        replace hf := MemF.mono hf hext.sub
        replace hsub := fun b o h => hext.sub b o (hsub b o h)
        clear hext
        refine ls <| gy hF rfl rfl <| q1 hF rfl (e_not hF rfl) fun a hF =>
          ls <| q1 hF rfl (e_pickF hF rfl rfl) fun a hF =>
          re <| tn <| ?_
        refine cf hF rfl <| wk <| tn <| ?_
        replace hS := hS.pickL (.cons .head (.cons .head .nil))
        refine th <| rg <| ls <| q1 hF rfl (e_move hF rfl) fun a hF =>
          ls <| c1 hF rfl Try.call14 (all_c _ _ _ _ (memA_read (hS.ok _ (.head _)) (hS.hs _ (.head _)) hf) hi) ⟨rfl, trivial⟩ (fun v w a hR hF => ?_)
        obtain ⟨oal, cal, rfl, hfr⟩ := hR
        replace hS := hS.fresh hfr
        clear hfr
        refine ls <| q1 hF rfl (e_move hF rfl) fun a hF =>
          ls <| c1 hF rfl Try.call15 (kept_c _ _ _ _ (memA_read (hS.ok _ (.tail _ (.head _))) (hS.hs _ (.head _)) hf) hi) ⟨rfl, trivial⟩ (fun v w a hR hF => ?_)
        obtain ⟨oak, cak, rfl, hfr⟩ := hR
        replace hS := hS.fresh hfr
        clear hfr
        refine ls <| q1 hF rfl (e_asg hF rfl) fun a hF =>
          ls <| q1 hF rfl (e_asg hF rfl) fun a hF =>
          re <| tn <| ?_
        have hlen1 := hi.len1
        have hlen2 := hi.len2
        have hlen3 := hi.len3
        have hlen4 := hi.len4
        replace hS := hS.pickL (.cons (.tail (.tail .head)) (.cons (.tail (.tail .head)) (.cons (.tail .head) (.cons .head .nil))))
        refine th <| th <| rg <| ls <| q1 hF rfl (e_asg hF rfl) fun a hF =>
          re <| tn <| ?_
        refine wb <| lp (α := Nat × List Int) (fun (gh : Nat × List Int) a w => match gh with | (j, xs) => Fr 213 [(1, .slice oo ops.length co), (9, .int .i64 ((i : Nat) : Int)), (5, .pointer (some ⟨p, 0, none⟩)), (7, .pointer (some ⟨pk, 0, none⟩)), (23, .slice oal m.l.length cal), (24, .slice oak m.kept.length cak), (25, .int .i64 ((j : Nat) : Int))] a ∧ St w0 Nil [H'] [memA p g m, kA pk gk4 k, sla 3 1 oal m.l.length cal (ints xs), sla 3 1 oak m.kept.length cak (ints m.kept)] w ∧ (xs.length = m.l.length)) (fun (gh : Nat × List Int) => match gh with | (j, xs) => m.l.length - j) (0, m.l) ⟨hF.has ⟨rfl, rfl, rfl, rfl, rfl, rfl, rfl, trivial⟩, hS, rfl⟩ ?_
        clear hF hS
        rintro ⟨j, xs⟩ a w ⟨hF, hS, hxs⟩
        refine th <| th <| rg <| ls <| q1 hF rfl (e_move hF rfl) fun a hF =>
          ls <| q1 hF rfl (e_move hF rfl) fun a hF =>
          ls <| q1 hF rfl (e_lenS hF Try.runUnderlying26 rfl) fun a hF =>
          ls <| q1 hF rfl (e_lss hF rfl rfl) fun a hF =>
          re <| tn <| ?_
        refine cs hF rfl (fun hb => ?_) (fun hb => ?_)
        ·
          replace hb := of_decide_eq_true hb
          refine wk <| tn <| ?_
          refine th <| wb <| rg <| ls <| q1 hF rfl (e_move hF rfl) fun a hF =>
            ls <| q1 hF rfl (e_move hF rfl) fun a hF =>
            ls <| q1 hF rfl (e_ia hF Try.runUnderlying26 Try.sizeOf3 rfl rfl rfl (by omega) (((St.ld hS).rdO (.tail _ (.tail _ (.head _)))).some (ints_ne (l := xs) (by omega)))) fun a hF =>
            ls <| s_sl hF hS Try.sizeOf3 rfl rfl rfl rfl (.tail (.tail .head)) (by simp only [ints_len, List.length_set]; omega) fun w hS => ?_
          rw [ints_set] at hS
          refine re <| bn <| tn <| ?_
          refine rg <| ls <| q1 hF rfl (e_move hF rfl) fun a hF =>
            ls <| q1 hF rfl (e_addI (r := (((j + 1) : Nat) : Int)) hF rfl rfl rfl (by omega)) fun a hF =>
            ls <| q1 hF rfl (e_asg hF rfl) fun a hF =>
            re <| tn <| ?_
          exact ⟨(j + 1, xs.set j (99 : Int)), ⟨hF.has ⟨rfl, rfl, rfl, rfl, rfl, rfl, rfl, trivial⟩, hS, (by simpa using hxs)⟩, (by dsimp only; omega)⟩
        ·
          replace hb := Int.not_lt.1 (of_decide_eq_false hb)
          refine we <| tx <| tx <| bx <| tn <| ?_
          replace hS := hS.pickL (.cons .head (.cons .head (.cons (.tail .head) .nil)))
          refine th <| rg <| ls <| q1 hF rfl (e_asg hF rfl) fun a hF =>
            re <| tn <| ?_
          refine wb <| lp (α := Nat × List Int) (fun (gh : Nat × List Int) a w => match gh with | (j, ys) => Fr 213 [(1, .slice oo ops.length co), (9, .int .i64 ((i : Nat) : Int)), (5, .pointer (some ⟨p, 0, none⟩)), (7, .pointer (some ⟨pk, 0, none⟩)), (24, .slice oak m.kept.length cak), (26, .int .i64 ((j : Nat) : Int))] a ∧ St w0 Nil [H'] [memA p g m, kA pk gk4 k, sla 3 1 oak m.kept.length cak (ints ys)] w ∧ (ys.length = m.kept.length)) (fun (gh : Nat × List Int) => match gh with | (j, ys) => m.kept.length - j) (0, m.kept) ⟨hF.has ⟨rfl, rfl, rfl, rfl, rfl, rfl, trivial⟩, hS, rfl⟩ ?_
          clear hF hS
          rintro ⟨j, ys⟩ a w ⟨hF, hS, hys⟩
          refine th <| th <| rg <| ls <| q1 hF rfl (e_move hF rfl) fun a hF =>
            ls <| q1 hF rfl (e_move hF rfl) fun a hF =>
            ls <| q1 hF rfl (e_lenS hF Try.runUnderlying26 rfl) fun a hF =>
            ls <| q1 hF rfl (e_lss hF rfl rfl) fun a hF =>
            re <| tn <| ?_
          refine cs hF rfl (fun hb => ?_) (fun hb => ?_)
          ·
            replace hb := of_decide_eq_true hb
            refine wk <| tn <| ?_
            refine th <| wb <| rg <| ls <| q1 hF rfl (e_move hF rfl) fun a hF =>
              ls <| q1 hF rfl (e_move hF rfl) fun a hF =>
              ls <| q1 hF rfl (e_ia hF Try.runUnderlying26 Try.sizeOf3 rfl rfl rfl (by omega) (((St.ld hS).rdO (.tail _ (.tail _ (.head _)))).some (ints_ne (l := ys) (by omega)))) fun a hF =>
              ls <| s_sl hF hS Try.sizeOf3 rfl rfl rfl rfl (.tail (.tail .head)) (by simp only [ints_len, List.length_set]; omega) fun w hS => ?_
            rw [ints_set] at hS
            refine re <| bn <| tn <| ?_
            refine rg <| ls <| q1 hF rfl (e_move hF rfl) fun a hF =>
              ls <| q1 hF rfl (e_addI (r := (((j + 1) : Nat) : Int)) hF rfl rfl rfl (by omega)) fun a hF =>
              ls <| q1 hF rfl (e_asg hF rfl) fun a hF =>
              re <| tn <| ?_
            exact ⟨(j + 1, ys.set j (99 : Int)), ⟨hF.has ⟨rfl, rfl, rfl, rfl, rfl, rfl, trivial⟩, hS, (by simpa using hys)⟩, (by dsimp only; omega)⟩
          ·
            replace hb := Int.not_lt.1 (of_decide_eq_false hb)
            refine we <| tx <| tx <| bx <| bn <| tn <| ?_
            replace hS := hS.pickL (.cons .head (.cons .head .nil))
            refine rg <| ls <| q1 hF rfl (e_move hF rfl) fun a hF =>
              ls <| q1 hF rfl (e_addI (r := (((i + 1) : Nat) : Int)) hF rfl rfl rfl (by omega)) fun a hF =>
              ls <| q1 hF rfl (e_asg hF rfl) fun a hF =>
              re <| tn <| ?_
            exact ⟨(i + 1, H', p, g, m, gk4, k), ⟨hF.has ⟨rfl, rfl, rfl, rfl, trivial⟩, hS, ⟨hsub, hf, hkf, hi, hs, by omega, by omega, by omega⟩⟩, (by dsimp only; omega)⟩
      ·
        replace hb := Int.not_lt.1 (of_decide_eq_false hb)
        refine we <| tx <| tx <| bx <| tn <| ?_
        refine th <| rg <| ls <| c1 hF rfl Try.call13 (fixed_c _) trivial (fun v w a hR hF => ?_)
        obtain ⟨rfl, hk⟩ := hR
        replace hS := hS.pass hk
        clear hk
        refine ls <| q1 hF rfl (e_asg hF rfl) fun a hF =>
          re <| tn <| ?_
        refine wr <| ?_
        exact r1 hF Try.results7 rfl ⟨rfl, hS.keep⟩
    ·
      replace hb := Int.not_lt.1 (of_decide_eq_false hb)
      refine ls <| gn hF rfl rfl rfl rfl fun a hF =>
        ls <| gn hF rfl rfl rfl rfl fun a hF =>
        ls <| q1 hF rfl (e_pickF hF rfl rfl) fun a hF =>
        re <| tn <| ?_
      refine cf hF rfl <| we <| tx <| tx <| bx <| tn <| ?_
      refine th <| rg <| ls <| c1 hF rfl Try.call13 (fixed_c _) trivial (fun v w a hR hF => ?_)
      obtain ⟨rfl, hk⟩ := hR
      replace hS := hS.pass hk
      clear hk
      refine ls <| q1 hF rfl (e_asg hF rfl) fun a hF =>
        re <| tn <| ?_
      refine wr <| ?_
      exact r1 hF Try.results7 rfl ⟨rfl, hS.keep⟩

end Go.LM.LINES
