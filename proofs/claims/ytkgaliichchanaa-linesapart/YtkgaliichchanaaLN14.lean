/- A walk: what is written to one line makes no difference in another. No condition beyond the theorem's own premises. -/
import Derived.Test.YtkgaliichchanaaLN13
namespace Go.LL
open Go Go.Proofs


theorem wM_nl (ws : List (Int × Int)) : nlines (wM ws) = 2 := rfl
theorem wM_l4 (ws : List (Int × Int)) : (wM ws).l.length = 4 := by simp [wM, applyW_len]
theorem wM_pl (ws : List (Int × Int)) : ∀ k, ((wM ws).pend k).length ≤ ws.length := fun k => List.length_filter_le _ _
theorem wA_len (ops : List OpV) (j : Nat) : (wA ops j).length ≤ j := by simp [wA]; omega
theorem bW_len (ops : List OpV) (n line i : Nat) : (bW ops n line i).length ≤ n + n + i := by
  have h := fun (k : Int) (j : Nat) => Nat.le_trans (List.length_filter_le (inL k) (wA ops j)) (wA_len ops j)
  match line with
  | 0 => have := h 0 i; rw [bW]; omega
  | 1 => have := h 0 n; have := h 1 i; rw [bW, List.length_append]; omega
  | _ + 2 => have := h 0 n; have := h 1 n; rw [bW, List.length_append]; omega
theorem wM_cut {ws : List (Int × Int)} {i P1 : Nat} (h0 : i ≤ (ws.filter (inL 0)).length) (h1 : P1 = (ws.filter (inL 1)).length) : cutOk (wM ws) [((i : Nat) : Int), ((P1 / 2 : Nat) : Int)] := by
  refine ⟨rfl, fun j hj => ?_⟩
  match j, hj with
  | 0, _ =>
    refine ⟨by simp, ?_⟩
    show ((i : Nat) : Int) ≤ ((ws.filter (inL 0)).length : Int)
    omega
  | 1, _ =>
    refine ⟨by simp; omega, ?_⟩
    show ((P1 / 2 : Nat) : Int) ≤ ((ws.filter (inL 1)).length : Int)
    omega
theorem wM_out (ws : List (Int × Int)) : outM (wM ws) 0 = { wM ws with kept := applyW ((wM ws).pend 0) (wM ws).kept, pend := fun k => if k = 0 then [] else (wM ws).pend k } := by
  rw [outM, if_pos (by rw [wM_nl]; decide)]
theorem wM_k4 (ws : List (Int × Int)) : (outM (wM ws) 0).kept.length = 4 := by rw [wM_out]; simp [applyW_len, wM]
theorem wM_pend (ws : List (Int × Int)) : pendL (outM (wM ws) 0) (nlines (outM (wM ws) 0)) = [0, (((ws.filter (inL 1)).length : Nat) : Int)] := by
  rw [wM_out]; rfl

set_option maxRecDepth 100000 in
theorem apart_c (w0 : World) (oo : Option Addr) (co : Nat) (ops : List OpV) (hr : Rd (hp w0) oo (opcells ops)) :
    Tot Try.prog 6 #[.slice oo ops.length co] w0 (fun v w' => v = .bool true ∧ Keep Nil w0 w') := by
  refine fn0 (args := [.slice oo ops.length co]) (F := [(0, .slice oo ops.length co)]) Try.func6 rfl Try.ntmps6 rfl rfl fun a hF => ?_
  have hS : St w0 Nil [hp w0] [] w0 := .start (by simp [hp_le])
  refine th <| rg <| ls <| q1 hF rfl (e_asg hF rfl) fun a hF =>
    re <| tn <| ?_
  refine th <| rg <| ls <| a_bsl (e := 3) (sz := 1) (ints [(0 : Int), (0 : Int), (1 : Int), (1 : Int)]) hF rfl hS rfl rfl rfl (fun w => by kernel_rfl) fun bkbs1 w a hS hF => ?_
  refine ls <| a_bsl (e := 3) (sz := 1) (ints [(0 : Int), (0 : Int), (0 : Int), (0 : Int)]) hF rfl hS rfl rfl rfl (fun w => by kernel_rfl) fun bkbs2 w a hS hF => ?_
  have hnk : newOk [(0 : Int), (0 : Int), (1 : Int), (1 : Int)] (4 : Int) [(0 : Int), (0 : Int), (0 : Int), (0 : Int)] := of_decide_eq_true (by kernel_rfl)
  refine ls <| c1 hF rfl Try.call17 (newY _ _ _ _ _ _ _ _ (hS.rdO (.tail _ (.head _))) (hS.rdO (.head _)) (Nat.le_refl _) (Nat.le_refl _) hnk) ⟨rfl, rfl, rfl, trivial⟩ (fun v w a hR hF => ?_)
  obtain ⟨p, g, rfl, hg, hfr⟩ := hR
  replace hS := (hS.fresh hfr).unsep2
  clear hfr
  obtain ⟨hO, hOk, -, hS⟩ := hS.freeze .head
  have hf := newF hOk hg
  have hi := MInv.new hnk
  have hpl := pl_new [(0 : Int), (0 : Int), (1 : Int), (1 : Int)] (4 : Int) [(0 : Int), (0 : Int), (0 : Int), (0 : Int)]
  refine ls <| q1 hF rfl (e_move hF rfl) fun a hF =>
    ls <| q1 hF rfl (e_ext hF rfl rfl) fun a hF =>
    ls <| q1 hF rfl (e_ext hF rfl rfl) fun a hF =>
    ls <| q1 hF rfl (e_asg hF rfl) fun a hF =>
    ls <| q1 hF rfl (e_asg hF rfl) fun a hF =>
    re <| tn <| ?_
  refine th <| rg <| ls <| a_bsl (e := 3) (sz := 1) (ints [(0 : Int), (0 : Int), (1 : Int), (1 : Int)]) hF rfl hS rfl rfl rfl (fun w => by kernel_rfl) fun bkbs3 w a hS hF => ?_
  refine ls <| a_bsl (e := 3) (sz := 1) (ints [(0 : Int), (0 : Int), (0 : Int), (0 : Int)]) hF rfl hS rfl rfl rfl (fun w => by kernel_rfl) fun bkbs4 w a hS hF => ?_
  have hnkB : newOk [(0 : Int), (0 : Int), (1 : Int), (1 : Int)] (4 : Int) [(0 : Int), (0 : Int), (0 : Int), (0 : Int)] := of_decide_eq_true (by kernel_rfl)
  refine ls <| c1 hF rfl Try.call17 (newY _ _ _ _ _ _ _ _ (hS.rdO (.tail _ (.head _))) (hS.rdO (.head _)) (Nat.le_refl _) (Nat.le_refl _) hnkB) ⟨rfl, rfl, rfl, trivial⟩ (fun v w a hR hF => ?_)
  obtain ⟨pB, gB, rfl, hg, hfr⟩ := hR
  replace hS := (hS.fresh hfr).unsep2
  clear hfr
  obtain ⟨hOB, hOkB, -, hS⟩ := hS.freeze .head
  have hfB := newF hOkB hg
  have hiB := MInv.new hnkB
  have hplB := pl_new [(0 : Int), (0 : Int), (1 : Int), (1 : Int)] (4 : Int) [(0 : Int), (0 : Int), (0 : Int), (0 : Int)]
  refine ls <| q1 hF rfl (e_move hF rfl) fun a hF =>
    ls <| q1 hF rfl (e_ext hF rfl rfl) fun a hF =>
    ls <| q1 hF rfl (e_ext hF rfl rfl) fun a hF =>
    ls <| q1 hF rfl (e_asg hF rfl) fun a hF =>
    ls <| q1 hF rfl (e_asg hF rfl) fun a hF =>
    re <| tn <| ?_
  replace hS := hS.pickL (.cons (.tail (.tail (.tail .head))) (.cons .head .nil))
  rw [wM_new] at hf hi hpl hfB hiB hplB hS
  refine th <| th <| rg <| ls <| q1 hF rfl (e_move hF rfl) fun a hF =>
    ls <| q1 hF rfl (e_neq hF rfl rfl) fun a hF =>
    ls <| q1 hF rfl (e_move hF rfl) fun a hF =>
    ls <| gy hF rfl rfl <| q1 hF rfl (e_move hF rfl) fun a hF =>
    ls <| gy hF rfl rfl <| q1 hF rfl (e_neq hF rfl rfl) fun a hF =>
    ls <| q1 hF rfl (e_pickF hF rfl rfl) fun a hF =>
    ls <| q1 hF rfl (e_move hF rfl) fun a hF =>
    ls <| gy hF rfl rfl <| q1 hF rfl (e_move hF rfl) fun a hF =>
    ls <| gy hF rfl rfl <| q1 hF rfl (e_eqlP hF Try.runUnderlying24 rfl rfl) fun a hF =>
    ls <| q1 hF rfl (e_pickF hF rfl rfl) fun a hF =>
    ls <| q1 hF rfl (e_move hF rfl) fun a hF =>
    ls <| gy hF rfl rfl <| q1 hF rfl (e_move hF rfl) fun a hF =>
    ls <| gy hF rfl rfl <| q1 hF rfl (e_eqlP hF Try.runUnderlying24 rfl rfl) fun a hF =>
    ls <| q1 hF rfl (e_pickF hF rfl rfl) fun a hF =>
    re <| tn <| ?_
  refine cf hF rfl <| wp_skip <| tn <| ?_
  refine th <| rg <| ls <| q1 hF rfl (e_move hF rfl) fun a hF =>
    ls <| q1 hF rfl (e_lenS hF Try.runUnderlying22 rfl) fun a hF =>
    ls <| q1 hF rfl (e_minN (m := ops.length) (n := 12) hF rfl rfl) fun a hF =>
    ls <| q1 hF rfl (e_asg hF rfl) fun a hF =>
    re <| tn <| ?_
  obtain ⟨n, hn⟩ : ∃ n, n = min ops.length 12 := ⟨_, rfl⟩
  rw [← hn] at hF
  refine th <| th <| rg <| ls <| q1 hF rfl (e_asg hF rfl) fun a hF =>
    re <| tn <| ?_
  refine wp_block <| lp (α := Nat × MG) (fun (gh : Nat × MG) a w => match gh with | (j, g) => Fr 185 [(0, .slice oo ops.length co), (3, .pointer (some ⟨p, 0, none⟩)), (5, .pointer (some ⟨pB, 0, none⟩)), (7, .int .i64 ((n : Nat) : Int)), (8, .int .i64 ((j : Nat) : Int))] a ∧ St w0 Nil [hOB, hO, hp w0] [memA p g (wM (wA ops j)), memA pB gB (wM [])] w ∧ (j ≤ n ∧ MemF hO g (wM (wA ops j)) ∧ MInv (wM (wA ops j)))) (fun (gh : Nat × MG) => match gh with | (j, g) => n - j) (0, g) ⟨hF.has ⟨rfl, rfl, rfl, rfl, rfl, trivial⟩, hS, ⟨Nat.zero_le _, hf, hi⟩⟩ ?_
  clear hF hS
  rintro ⟨j, g⟩ a w ⟨hF, hS, hj, hf, hi⟩
  have hpl := wM_pl (wA ops j)
  have hwl := wA_len ops j
  refine th <| th <| rg <| ls <| q1 hF rfl (e_move hF rfl) fun a hF =>
    ls <| q1 hF rfl (e_move hF rfl) fun a hF =>
    ls <| q1 hF rfl (e_lss hF rfl rfl) fun a hF =>
    re <| tn <| ?_
  refine cs hF rfl (fun hb => ?_) (fun hb => ?_)
  ·
    replace hb := of_decide_eq_true hb
    refine wp_skip <| tn <| ?_
    have hjc : j < ops.length := by omega
    refine th <| wp_block <| rdL sub_nil 14 hS wide fun w hS => ?_
    refine d1 (i := 0) rfl (by kernel_rfl) (by kernel_rfl) (hS.lds (fun _ hx => hx) sub_nil) hF rfl (fun _ _ _ h => h) (fun w hl => e_move hF rfl) fun a hF =>
      d1 (i := 1) rfl (by kernel_rfl) (by kernel_rfl) (hS.lds (fun _ hx => hx) sub_nil) hF rfl (fun _ _ _ h => h) (fun w hl => e_move hF rfl) fun a hF =>
      d1 (i := 2) rfl (by kernel_rfl) (by kernel_rfl) (hS.lds (fun _ hx => hx) sub_nil) hF rfl (fun _ _ _ h => h) (fun w hl => e_move hF rfl) fun a hF =>
      d1 (i := 3) rfl (by kernel_rfl) (by kernel_rfl) (hS.lds (fun _ hx => hx) sub_nil) hF rfl (fun _ _ _ h => h) (fun w hl => e_ia hF Try.runUnderlying22 Try.sizeOf44 rfl rfl rfl (by omega) (hr.some (opcells_ne (l := ops) (by omega)))) fun a hF =>
      d1 (i := 4) rfl (by kernel_rfl) (by kernel_rfl) (hS.lds (fun _ hx => hx) sub_nil) hF rfl (fun _ _ _ h => h) (fun w hl => e_fa hF fa44_1 rfl) fun a hF =>
      d1 (i := 5) rfl (by kernel_rfl) (by kernel_rfl) (hS.lds (fun _ hx => hx) sub_nil) hF rfl (fun _ _ _ h => h) (fun w hl => e_ld hF Try.isAgg3 rfl (hl.elH2 (.tail _ (.tail _ (.head _))) hr (opcells_get1 (l := ops) (k := j) (by omega)))) fun a hF =>
      d1 (i := 6) rfl (by kernel_rfl) (by kernel_rfl) (hS.lds (fun _ hx => hx) sub_nil) hF rfl (fun _ _ _ h => h) (fun w hl => e_andL (n := 3) hF (by omega) rfl rfl) fun a hF =>
      d1 (i := 7) rfl (by kernel_rfl) (by kernel_rfl) (hS.lds (fun _ hx => hx) sub_nil) hF rfl (fun _ _ _ h => h) (fun w hl => e_move hF rfl) fun a hF =>
      d1 (i := 8) rfl (by kernel_rfl) (by kernel_rfl) (hS.lds (fun _ hx => hx) sub_nil) hF rfl (fun _ _ _ h => h) (fun w hl => e_move hF rfl) fun a hF =>
      d1 (i := 9) rfl (by kernel_rfl) (by kernel_rfl) (hS.lds (fun _ hx => hx) sub_nil) hF rfl (fun _ _ _ h => h) (fun w hl => e_ia hF Try.runUnderlying22 Try.sizeOf44 rfl rfl rfl (by omega) (hr.some (opcells_ne (l := ops) (by omega)))) fun a hF =>
      d1 (i := 10) rfl (by kernel_rfl) (by kernel_rfl) (hS.lds (fun _ hx => hx) sub_nil) hF rfl (fun _ _ _ h => h) (fun w hl => e_fa hF fa44_2 rfl) fun a hF =>
      d1 (i := 11) rfl (by kernel_rfl) (by kernel_rfl) (hS.lds (fun _ hx => hx) sub_nil) hF rfl (fun _ _ _ h => h) (fun w hl => e_ld hF Try.isAgg3 rfl (hl.elH2 (.tail _ (.tail _ (.head _))) hr (opcells_get2 (l := ops) (k := j) (by omega)))) fun a hF =>
      d1 (i := 12) rfl (by kernel_rfl) (by kernel_rfl) (hS.lds (fun _ hx => hx) sub_nil) hF rfl (fun _ _ _ h => h) (fun w hl => e_andL (n := 7) hF (by omega) rfl rfl) fun a hF =>
      da1 (i := 13) (by kernel_rfl) ?_
    refine di (i := 13) rfl <| c1 hF rfl Try.call18 (write_c _ _ (hS.hs _ (.tail _ (.head _))) _ _ _ (hS.ok _ (.head _)) (fun b hb => (hS.own _ (.head _) b hb).2 _ (.tail _ (.head _))) hf hi _ _) ⟨rfl, rfl, rfl, trivial⟩ (fun v w a hR hF => ?_)
    obtain ⟨g, rfl, hf, hmut⟩ := hR
    replace hS := hS.mut hmut .head
    clear hmut
    replace hi := hi.write (cell := (((lo 3 ops[j].cell) : Nat) : Int)) (n := (((lo 7 ops[j].n) : Nat) : Int)) (fun k => by have := hpl k; omega)
    replace hpl := pl_write (cell := (((lo 3 ops[j].cell) : Nat) : Int)) (n := (((lo 7 ops[j].n) : Nat) : Int)) hpl
    refine ⟨fun _ => (hS.lds (fun _ hx => hx) sub_nil), ?_⟩
    refine de (by kernel_rfl) <| bn <| tn <| ?_
    refine rg <| ls <| q1 hF rfl (e_move hF rfl) fun a hF =>
      ls <| q1 hF rfl (e_addI (r := (((j + 1) : Nat) : Int)) hF rfl rfl rfl (by omega)) fun a hF =>
      ls <| q1 hF rfl (e_asg hF rfl) fun a hF =>
      re <| tn <| ?_
    rw [wM_write, ← wA_succ hjc] at hf hi hS
    exact ⟨(j + 1, g), ⟨hF.has ⟨rfl, rfl, rfl, rfl, rfl, trivial⟩, hS, ⟨by omega, hf, hi⟩⟩, (by dsimp only; omega)⟩
  ·
    replace hb := Int.not_lt.1 (of_decide_eq_false hb)
    refine wp_exit <| tx <| tx <| bx <| tn <| ?_
    obtain rfl : n = j := by omega
    refine th <| th <| rg <| ls <| q1 hF rfl (e_asg hF rfl) fun a hF =>
      re <| tn <| ?_
    refine wp_block <| lp (α := Nat × MG) (fun (gh : Nat × MG) a w => match gh with | (line, gB) => Fr 185 [(0, .slice oo ops.length co), (3, .pointer (some ⟨p, 0, none⟩)), (5, .pointer (some ⟨pB, 0, none⟩)), (7, .int .i64 ((n : Nat) : Int)), (9, .int .i64 ((line : Nat) : Int))] a ∧ St w0 Nil [hOB, hO, hp w0] [memA p g (wM (wA ops n)), memA pB gB (wM (bW ops n line 0))] w ∧ (line ≤ 2 ∧ MemF hOB gB (wM (bW ops n line 0)) ∧ MInv (wM (bW ops n line 0)))) (fun (gh : Nat × MG) => match gh with | (line, gB) => 2 - line) (0, gB) ⟨hF.has ⟨rfl, rfl, rfl, rfl, rfl, trivial⟩, hS, ⟨Nat.zero_le _, hfB, hiB⟩⟩ ?_
    clear hF hS
    rintro ⟨line, gB⟩ a w ⟨hF, hS, hln, hfB, hiB⟩
    refine th <| th <| rg <| ls <| q1 hF rfl (e_move hF rfl) fun a hF =>
      ls <| q1 hF rfl (e_lss hF rfl rfl) fun a hF =>
      re <| tn <| ?_
    refine cs hF rfl (fun hb => ?_) (fun hb => ?_)
    ·
      replace hb := of_decide_eq_true hb
      refine wp_skip <| tn <| ?_
      have hl2 : line < 2 := by omega
      refine th <| wp_block <| th <| rg <| ls <| q1 hF rfl (e_asg hF rfl) fun a hF =>
        re <| tn <| ?_
      refine wp_block <| lp (α := Nat × MG) (fun (gh : Nat × MG) a w => match gh with | (i, gB) => Fr 185 [(0, .slice oo ops.length co), (3, .pointer (some ⟨p, 0, none⟩)), (5, .pointer (some ⟨pB, 0, none⟩)), (7, .int .i64 ((n : Nat) : Int)), (9, .int .i64 ((line : Nat) : Int)), (10, .int .i64 ((i : Nat) : Int))] a ∧ St w0 Nil [hOB, hO, hp w0] [memA p g (wM (wA ops n)), memA pB gB (wM (bW ops n line i))] w ∧ (i ≤ n ∧ MemF hOB gB (wM (bW ops n line i)) ∧ MInv (wM (bW ops n line i)))) (fun (gh : Nat × MG) => match gh with | (i, gB) => n - i) (0, gB) ⟨hF.has ⟨rfl, rfl, rfl, rfl, rfl, rfl, trivial⟩, hS, ⟨Nat.zero_le _, hfB, hiB⟩⟩ ?_
      clear hF hS
      rintro ⟨i, gB⟩ a w ⟨hF, hS, hin, hfB, hiB⟩
      have hplB := wM_pl (bW ops n line i)
      have hwl := bW_len ops n line i
      refine th <| th <| rg <| ls <| q1 hF rfl (e_move hF rfl) fun a hF =>
        ls <| q1 hF rfl (e_move hF rfl) fun a hF =>
        ls <| q1 hF rfl (e_lss hF rfl rfl) fun a hF =>
        re <| tn <| ?_
      refine cs hF rfl (fun hb => ?_) (fun hb => ?_)
      ·
        replace hb := of_decide_eq_true hb
        refine wp_skip <| tn <| ?_
        have hic : i < ops.length := by omega
        have hlo3 := lo_le (n := 3) (by decide) ops[i].cell
        refine th <| wp_block <| th <| rg <| ls <| q1 hF rfl (e_move hF rfl) fun a hF =>
          ls <| q1 hF rfl (e_move hF rfl) fun a hF =>
          ls <| q1 hF rfl (e_ia hF Try.runUnderlying22 Try.sizeOf44 rfl rfl rfl (by omega) (hr.some (opcells_ne (l := ops) (by omega)))) fun a hF =>
          ls <| q1 hF rfl (e_fa hF fa44_1 rfl) fun a hF =>
          ls <| q1 hF rfl (e_ld hF Try.isAgg3 rfl ((St.ld hS).elH2 (.tail _ (.tail _ (.head _))) hr (opcells_get1 (l := ops) (k := i) (by omega)))) fun a hF =>
          ls <| q1 hF rfl (e_andL (n := 3) hF (by omega) rfl rfl) fun a hF =>
          ls <| q1 hF rfl (e_quoN (m := (lo 3 ops[i].cell)) (n := 2) hF rfl rfl (by omega) (by omega)) fun a hF =>
          ls <| q1 hF rfl (e_move hF rfl) fun a hF =>
          ls <| q1 hF rfl (e_eql hF rfl rfl) fun a hF =>
          re <| tn <| ?_
        refine cs hF rfl (fun hb => ?_) (fun hb => ?_)
        ·
          replace hb := of_decide_eq_true hb
          refine rdL sub_nil 14 hS wide fun w hS => ?_
          refine d1 (i := 0) rfl (by kernel_rfl) (by kernel_rfl) (hS.lds (fun _ hx => hx) sub_nil) hF rfl (fun _ _ _ h => h) (fun w hl => e_move hF rfl) fun a hF =>
            d1 (i := 1) rfl (by kernel_rfl) (by kernel_rfl) (hS.lds (fun _ hx => hx) sub_nil) hF rfl (fun _ _ _ h => h) (fun w hl => e_move hF rfl) fun a hF =>
            d1 (i := 2) rfl (by kernel_rfl) (by kernel_rfl) (hS.lds (fun _ hx => hx) sub_nil) hF rfl (fun _ _ _ h => h) (fun w hl => e_move hF rfl) fun a hF =>
            d1 (i := 3) rfl (by kernel_rfl) (by kernel_rfl) (hS.lds (fun _ hx => hx) sub_nil) hF rfl (fun _ _ _ h => h) (fun w hl => e_ia hF Try.runUnderlying22 Try.sizeOf44 rfl rfl rfl (by omega) (hr.some (opcells_ne (l := ops) (by omega)))) fun a hF =>
            d1 (i := 4) rfl (by kernel_rfl) (by kernel_rfl) (hS.lds (fun _ hx => hx) sub_nil) hF rfl (fun _ _ _ h => h) (fun w hl => e_fa hF fa44_1 rfl) fun a hF =>
            d1 (i := 5) rfl (by kernel_rfl) (by kernel_rfl) (hS.lds (fun _ hx => hx) sub_nil) hF rfl (fun _ _ _ h => h) (fun w hl => e_ld hF Try.isAgg3 rfl (hl.elH2 (.tail _ (.tail _ (.head _))) hr (opcells_get1 (l := ops) (k := i) (by omega)))) fun a hF =>
            d1 (i := 6) rfl (by kernel_rfl) (by kernel_rfl) (hS.lds (fun _ hx => hx) sub_nil) hF rfl (fun _ _ _ h => h) (fun w hl => e_andL (n := 3) hF (by omega) rfl rfl) fun a hF =>
            d1 (i := 7) rfl (by kernel_rfl) (by kernel_rfl) (hS.lds (fun _ hx => hx) sub_nil) hF rfl (fun _ _ _ h => h) (fun w hl => e_move hF rfl) fun a hF =>
            d1 (i := 8) rfl (by kernel_rfl) (by kernel_rfl) (hS.lds (fun _ hx => hx) sub_nil) hF rfl (fun _ _ _ h => h) (fun w hl => e_move hF rfl) fun a hF =>
            d1 (i := 9) rfl (by kernel_rfl) (by kernel_rfl) (hS.lds (fun _ hx => hx) sub_nil) hF rfl (fun _ _ _ h => h) (fun w hl => e_ia hF Try.runUnderlying22 Try.sizeOf44 rfl rfl rfl (by omega) (hr.some (opcells_ne (l := ops) (by omega)))) fun a hF =>
            d1 (i := 10) rfl (by kernel_rfl) (by kernel_rfl) (hS.lds (fun _ hx => hx) sub_nil) hF rfl (fun _ _ _ h => h) (fun w hl => e_fa hF fa44_2 rfl) fun a hF =>
            d1 (i := 11) rfl (by kernel_rfl) (by kernel_rfl) (hS.lds (fun _ hx => hx) sub_nil) hF rfl (fun _ _ _ h => h) (fun w hl => e_ld hF Try.isAgg3 rfl (hl.elH2 (.tail _ (.tail _ (.head _))) hr (opcells_get2 (l := ops) (k := i) (by omega)))) fun a hF =>
            d1 (i := 12) rfl (by kernel_rfl) (by kernel_rfl) (hS.lds (fun _ hx => hx) sub_nil) hF rfl (fun _ _ _ h => h) (fun w hl => e_andL (n := 7) hF (by omega) rfl rfl) fun a hF =>
            da1 (i := 13) (by kernel_rfl) ?_
          refine di (i := 13) rfl <| c1 hF rfl Try.call18 (write_c _ _ (hS.hs _ (.head _)) _ _ _ (hS.ok _ (.tail _ (.head _))) (fun b hb => (hS.own _ (.tail _ (.head _)) b hb).2 _ (.head _)) hfB hiB _ _) ⟨rfl, rfl, rfl, trivial⟩ (fun v w a hR hF => ?_)
          obtain ⟨gB, rfl, hfB, hmut⟩ := hR
          replace hS := hS.mut hmut (.tail .head)
          clear hmut
          replace hiB := hiB.write (cell := (((lo 3 ops[i].cell) : Nat) : Int)) (n := (((lo 7 ops[i].n) : Nat) : Int)) (fun k => by have := hplB k; omega)
          replace hplB := pl_write (cell := (((lo 3 ops[i].cell) : Nat) : Int)) (n := (((lo 7 ops[i].n) : Nat) : Int)) hplB
          refine ⟨fun _ => (hS.lds (fun _ hx => hx) sub_nil), ?_⟩
          refine de (by kernel_rfl) <| bn <| tn <| ?_
          refine rg <| ls <| q1 hF rfl (e_move hF rfl) fun a hF =>
            ls <| q1 hF rfl (e_addI (r := (((i + 1) : Nat) : Int)) hF rfl rfl rfl (by omega)) fun a hF =>
            ls <| q1 hF rfl (e_asg hF rfl) fun a hF =>
            re <| tn <| ?_
          rw [wM_write, bW_yes hl2 hic (by omega)] at hfB hiB hS
          exact ⟨(i + 1, gB), ⟨hF.has ⟨rfl, rfl, rfl, rfl, rfl, rfl, trivial⟩, hS, ⟨by omega, hfB, hiB⟩⟩, (by dsimp only; omega)⟩
        ·
          replace hb := of_decide_eq_false hb
          refine wp_skip <| bn <| tn <| ?_
          refine rg <| ls <| q1 hF rfl (e_move hF rfl) fun a hF =>
            ls <| q1 hF rfl (e_addI (r := (((i + 1) : Nat) : Int)) hF rfl rfl rfl (by omega)) fun a hF =>
            ls <| q1 hF rfl (e_asg hF rfl) fun a hF =>
            re <| tn <| ?_
          rw [bW_no hl2 hic (by omega)] at hfB hiB hS
          exact ⟨(i + 1, gB), ⟨hF.has ⟨rfl, rfl, rfl, rfl, rfl, rfl, trivial⟩, hS, ⟨by omega, hfB, hiB⟩⟩, (by dsimp only; omega)⟩
      ·
        replace hb := Int.not_lt.1 (of_decide_eq_false hb)
        refine wp_exit <| tx <| tx <| bx <| bn <| tn <| ?_
        obtain rfl : n = i := by omega
        refine rg <| ls <| q1 hF rfl (e_move hF rfl) fun a hF =>
          ls <| q1 hF rfl (e_addI (r := (((line + 1) : Nat) : Int)) hF rfl rfl rfl (by omega)) fun a hF =>
          ls <| q1 hF rfl (e_asg hF rfl) fun a hF =>
          re <| tn <| ?_
        rw [bW_line hl2] at hfB hiB hS
        exact ⟨(line + 1, gB), ⟨hF.has ⟨rfl, rfl, rfl, rfl, rfl, trivial⟩, hS, ⟨by omega, hfB, hiB⟩⟩, (by dsimp only; omega)⟩
    ·
      replace hb := Int.not_lt.1 (of_decide_eq_false hb)
      refine wp_exit <| tx <| tx <| bx <| tn <| ?_
      obtain rfl : line = 2 := by omega
      rw [wM_same] at hfB hiB hS
      have hwl := wA_len ops n
      have hpl := wM_pl (wA ops n)
      have hplB := wM_pl (wA ops n)
      refine th <| rg <| ls <| q1 hF rfl (e_move hF rfl) fun a hF =>
        ls <| c1 hF rfl Try.call9 (pending_c _ _ _ _ (memA_read (hS.ok _ (.head _)) (hS.hs _ (.tail _ (.head _))) hf) hi) ⟨rfl, trivial⟩ (fun v w a hR hF => ?_)
      obtain ⟨oap, cap, rfl, hfr⟩ := hR
      replace hS := hS.fresh hfr
      clear hfr
      rw [wM_nl] at hF hS
      obtain ⟨P0, hP0⟩ : ∃ P, P = ((wA ops n).filter (inL 0)).length := ⟨_, rfl⟩
      obtain ⟨P1, hP1⟩ : ∃ P, P = ((wA ops n).filter (inL 1)).length := ⟨_, rfl⟩
      rw [show pendL (wM (wA ops n)) 2 = [((P0 : Nat) : Int), ((P1 : Nat) : Int)] by rw [hP0, hP1]; rfl] at hS
      have hq0 : P0 ≤ 12 := by have := List.length_filter_le (inL 0) (wA ops n); omega
      have hq1 : P1 ≤ 12 := by have := List.length_filter_le (inL 1) (wA ops n); omega
      refine ls <| q1 hF rfl (e_asg hF rfl) fun a hF =>
        re <| tn <| ?_
      refine th <| th <| rg <| ls <| q1 hF rfl (e_move hF rfl) fun a hF =>
        ls <| q1 hF rfl (e_lenS hF Try.runUnderlying26 rfl) fun a hF =>
        ls <| q1 hF rfl (e_neq hF rfl rfl) fun a hF =>
        ls <| q1 hF rfl (e_move hF rfl) fun a hF =>
        ls <| gy hF rfl rfl <| q1 hF rfl (e_move hF rfl) fun a hF =>
        ls <| gy hF rfl rfl <| q1 hF rfl (e_move hF rfl) fun a hF =>
        ls <| gy hF rfl rfl <| c1 hF rfl Try.call9 (pending_c _ _ _ _ (memA_read (hS.ok _ (.tail _ (.tail _ (.head _)))) (hS.hs _ (.head _)) hfB) hiB) ⟨rfl, trivial⟩ (fun v w a hR hF => ?_)
      obtain ⟨_, _, rfl, hfr⟩ := hR
      replace hS := hS.fresh hfr
      clear hfr
      refine ls <| gy hF rfl rfl <| c1 hF rfl Try.call12 (intsT _ _ _ _ _ _ _ _ _ (hS.rdO (.tail _ (.head _))) (hS.rdO (.head _)) (Nat.le_of_ble_eq_true rfl) rfl rfl (by rw [hP0, hP1]; rfl)) ⟨rfl, rfl, trivial⟩ (fun v w a hR hF => ?_)
      obtain ⟨rfl, hk⟩ := hR
      replace hS := hS.pass hk
      clear hk
      refine ls <| gy hF rfl rfl <| q1 hF rfl (e_not hF rfl) fun a hF =>
        ls <| q1 hF rfl (e_pickF hF rfl rfl) fun a hF =>
        ls <| q1 hF rfl (e_move hF rfl) fun a hF =>
        ls <| gy hF rfl rfl <| q1 hF rfl (e_move hF rfl) fun a hF =>
        ls <| gy hF rfl rfl <| c1 hF rfl Try.call14 (all_c _ _ _ _ (memA_read (hS.ok _ (.tail _ (.tail _ (.head _)))) (hS.hs _ (.tail _ (.head _))) hf) hi) ⟨rfl, trivial⟩ (fun v w a hR hF => ?_)
      obtain ⟨_, _, rfl, hfr⟩ := hR
      replace hS := hS.fresh hfr
      clear hfr
      refine ls <| gy hF rfl rfl <| q1 hF rfl (e_move hF rfl) fun a hF =>
        ls <| gy hF rfl rfl <| c1 hF rfl Try.call14 (all_c _ _ _ _ (memA_read (hS.ok _ (.tail _ (.tail _ (.tail _ (.tail _ (.head _)))))) (hS.hs _ (.head _)) hfB) hiB) ⟨rfl, trivial⟩ (fun v w a hR hF => ?_)
      obtain ⟨_, _, rfl, hfr⟩ := hR
      replace hS := hS.fresh hfr
      clear hfr
      refine ls <| gy hF rfl rfl <| c1 hF rfl Try.call12 (intsT _ _ _ _ _ _ _ _ _ (hS.rdO (.tail _ (.head _))) (hS.rdO (.head _)) (by rw [wM_l4]; decide) rfl rfl rfl) ⟨rfl, rfl, trivial⟩ (fun v w a hR hF => ?_)
      obtain ⟨rfl, hk⟩ := hR
      replace hS := hS.pass hk
      clear hk
      refine ls <| gy hF rfl rfl <| q1 hF rfl (e_not hF rfl) fun a hF =>
        ls <| q1 hF rfl (e_pickF hF rfl rfl) fun a hF =>
        re <| tn <| ?_
      refine cf hF rfl <| wp_skip <| tn <| ?_
      refine th <| th <| rg <| ls <| q1 hF rfl (e_asg hF rfl) fun a hF =>
        re <| tn <| ?_
      replace hS := hS.pickL (.cons (.tail (.tail (.tail (.tail .head)))) (.cons (.tail (.tail (.tail (.tail .head)))) (.cons (.tail (.tail (.tail .head))) .nil)))
      refine wp_block <| lp (α := Nat) (fun (gh : Nat) a w => match gh with | i => Fr 185 [(0, .slice oo ops.length co), (3, .pointer (some ⟨p, 0, none⟩)), (5, .pointer (some ⟨pB, 0, none⟩)), (11, .slice oap 2 cap), (12, .int .i64 ((i : Nat) : Int))] a ∧ St w0 Nil [hOB, hO, hp w0] [memA p g (wM (wA ops n)), memA pB gB (wM (wA ops n)), sla 3 1 oap 2 cap (ints [((P0 : Nat) : Int), ((P1 : Nat) : Int)])] w ∧ True) (fun (gh : Nat) => match gh with | i => 13 - i) 0 ⟨hF.has ⟨rfl, rfl, rfl, rfl, rfl, trivial⟩, hS, trivial⟩ ?_
      clear hF hS
      rintro i a w ⟨hF, hS, -⟩
      refine th <| th <| rg <| ls <| q1 hF rfl (e_move hF rfl) fun a hF =>
        ls <| q1 hF rfl (e_move hF rfl) fun a hF =>
        ls <| q1 hF rfl (e_ia hF Try.runUnderlying26 Try.sizeOf3 rfl rfl rfl (by first | decide | (show 0 < 2; decide) | (show 1 < 2; decide)) (((St.ld hS).rdO (.tail _ (.tail _ (.head _)))).some (ints_ne (l := [((P0 : Nat) : Int), ((P1 : Nat) : Int)]) (by first | decide | (show 0 < 2; decide) | (show 1 < 2; decide))))) fun a hF =>
        ls <| q1 hF rfl (e_ld hF Try.isAgg3 rfl ((St.ld hS).elO (.tail _ (.tail _ (.head _))) (rfl : (ints [((P0 : Nat) : Int), ((P1 : Nat) : Int)])[0 * 1]? = some (.int .i64 ((P0 : Nat) : Int))))) fun a hF =>
        ls <| q1 hF rfl (e_leq hF rfl rfl) fun a hF =>
        ls <| q1 hF rfl (e_move hF rfl) fun a hF =>
        Fr.split hF (t := 124) rfl (fun hb hF => ?_) (fun hb hF => ?_)
      ·
        replace hb := of_decide_eq_true hb
        refine ls <| gy hF rfl rfl <| q1 hF rfl (e_move hF rfl) fun a hF =>
          ls <| gy hF rfl rfl <| q1 hF rfl (e_leq hF rfl rfl) fun a hF =>
          ls <| q1 hF rfl (e_pickT hF rfl rfl) fun a hF =>
          re <| tn <| ?_
        refine cs hF rfl (fun hb => ?_) (fun hb => ?_)
        ·
          replace hb := of_decide_eq_true hb
          refine wp_skip <| tn <| ?_
          refine th <| wp_block <| th <| rg <| ls <| q1 hF rfl (e_move hF rfl) fun a hF =>
            ls <| q1 hF rfl (e_move hF rfl) fun a hF =>
            ls <| q1 hF rfl (e_move hF rfl) fun a hF =>
            ls <| q1 hF rfl (e_ia hF Try.runUnderlying26 Try.sizeOf3 rfl rfl rfl (by first | decide | (show 0 < 2; decide) | (show 1 < 2; decide)) (((St.ld hS).rdO (.tail _ (.tail _ (.head _)))).some (ints_ne (l := [((P0 : Nat) : Int), ((P1 : Nat) : Int)]) (by first | decide | (show 0 < 2; decide) | (show 1 < 2; decide))))) fun a hF =>
            ls <| q1 hF rfl (e_ld hF Try.isAgg3 rfl ((St.ld hS).elO (.tail _ (.tail _ (.head _))) (rfl : (ints [((P0 : Nat) : Int), ((P1 : Nat) : Int)])[1 * 1]? = some (.int .i64 ((P1 : Nat) : Int))))) fun a hF =>
            ls <| q1 hF rfl (e_quoN (m := P1) (n := 2) hF rfl rfl (by omega) (by omega)) fun a hF =>
            ls <| a_bsl (e := 3) (sz := 1) (ints [((i : Nat) : Int), (((P1 / 2) : Nat) : Int)]) hF rfl hS rfl rfl rfl (fun w => by kernel_rfl) fun bkbs9 w a hS hF => ?_
          refine ls <| c1 hF rfl Try.call11 (image_c _ _ _ _ (memA_read (hS.ok _ (.tail _ (.head _))) (hS.hs _ (.tail _ (.head _))) hf) hi _ _ _ (hS.rdO (.head _)) (Nat.le_of_ble_eq_true rfl)) ⟨rfl, rfl, trivial⟩ (fun v w a hR hF => ?_)
          replace hR := hR.resolve_left (fun h => h.1 (wM_cut (by omega) hP1))
          obtain ⟨hyes, _, _, rfl, hfr⟩ := hR
          replace hS := hS.fresh hfr
          clear hfr
          refine ls <| q1 hF rfl (e_move hF rfl) fun a hF =>
            ls <| q1 hF rfl (e_ext hF rfl rfl) fun a hF =>
            ls <| q1 hF rfl (e_ext hF rfl rfl) fun a hF =>
            ls <| q1 hF rfl (e_asg hF rfl) fun a hF =>
            ls <| q1 hF rfl (e_asg hF rfl) fun a hF =>
            re <| tn <| ?_
          refine th <| rg <| ls <| q1 hF rfl (e_move hF rfl) fun a hF =>
            ls <| q1 hF rfl (e_move hF rfl) fun a hF =>
            ls <| q1 hF rfl (e_move hF rfl) fun a hF =>
            ls <| q1 hF rfl (e_ia hF Try.runUnderlying26 Try.sizeOf3 rfl rfl rfl (by first | decide | (show 0 < 2; decide) | (show 1 < 2; decide)) (((St.ld hS).rdO (.tail _ (.tail _ (.tail _ (.tail _ (.head _)))))).some (ints_ne (l := [((P0 : Nat) : Int), ((P1 : Nat) : Int)]) (by first | decide | (show 0 < 2; decide) | (show 1 < 2; decide))))) fun a hF =>
            ls <| q1 hF rfl (e_ld hF Try.isAgg3 rfl ((St.ld hS).elO (.tail _ (.tail _ (.tail _ (.tail _ (.head _))))) (rfl : (ints [((P0 : Nat) : Int), ((P1 : Nat) : Int)])[1 * 1]? = some (.int .i64 ((P1 : Nat) : Int))))) fun a hF =>
            ls <| q1 hF rfl (e_quoN (m := P1) (n := 2) hF rfl rfl (by omega) (by omega)) fun a hF =>
            ls <| a_bsl (e := 3) (sz := 1) (ints [((i : Nat) : Int), (((P1 / 2) : Nat) : Int)]) hF rfl hS rfl rfl rfl (fun w => by kernel_rfl) fun bkbs11 w a hS hF => ?_
          refine ls <| c1 hF rfl Try.call11 (image_c _ _ _ _ (memA_read (hS.ok _ (.tail _ (.tail _ (.tail _ (.tail _ (.head _)))))) (hS.hs _ (.head _)) hfB) hiB _ _ _ (hS.rdO (.head _)) (Nat.le_of_ble_eq_true rfl)) ⟨rfl, rfl, trivial⟩ (fun v w a hR hF => ?_)
          replace hR := hR.resolve_left (fun h => h.1 (wM_cut (by omega) hP1))
          obtain ⟨hyes, _, _, rfl, hfr⟩ := hR
          replace hS := hS.fresh hfr
          clear hfr
          refine ls <| q1 hF rfl (e_move hF rfl) fun a hF =>
            ls <| q1 hF rfl (e_ext hF rfl rfl) fun a hF =>
            ls <| q1 hF rfl (e_ext hF rfl rfl) fun a hF =>
            ls <| q1 hF rfl (e_asg hF rfl) fun a hF =>
            ls <| q1 hF rfl (e_asg hF rfl) fun a hF =>
            re <| tn <| ?_
          refine th <| rg <| ls <| q1 hF rfl (e_move hF rfl) fun a hF =>
            ls <| q1 hF rfl (e_move hF rfl) fun a hF =>
            ls <| c1 hF rfl Try.call12 (intsT _ _ _ _ _ _ _ _ _ (hS.rdO (.tail _ (.tail _ (.head _)))) (hS.rdO (.head _)) (by rw [imgUp_len]; exact Nat.le_of_ble_eq_true rfl) (imgUp_len _ _ _).symm (imgUp_len _ _ _).symm rfl) ⟨rfl, rfl, trivial⟩ (fun v w a hR hF => ?_)
          obtain ⟨rfl, hk⟩ := hR
          replace hS := hS.pass hk
          clear hk
          refine ls <| q1 hF rfl (e_not hF rfl) fun a hF =>
            re <| tn <| ?_
          refine cf hF rfl <| wp_skip <| bn <| tn <| ?_
          refine rg <| ls <| q1 hF rfl (e_move hF rfl) fun a hF =>
            ls <| q1 hF rfl (e_addI (r := (((i + 1) : Nat) : Int)) hF rfl rfl rfl (by omega)) fun a hF =>
            ls <| q1 hF rfl (e_asg hF rfl) fun a hF =>
            re <| tn <| ?_
          replace hS := hS.pickL (.cons (.tail (.tail (.tail (.tail .head)))) (.cons (.tail (.tail (.tail (.tail .head)))) (.cons (.tail (.tail (.tail (.tail .head)))) .nil)))
          exact ⟨i + 1, ⟨hF.has ⟨rfl, rfl, rfl, rfl, rfl, trivial⟩, hS, trivial⟩, (by dsimp only; omega)⟩
        ·
          replace hb := Int.not_le.1 (of_decide_eq_false hb)
          refine wp_exit <| tx <| tx <| bx <| tn <| ?_
          refine th <| rg <| ls <| q1 hF rfl (e_move hF rfl) fun a hF =>
            ls <| c1 hF rfl Try.call16 (out_c _ _ (hS.hs _ (.tail _ (.head _))) _ _ _ (hS.ok _ (.head _)) (fun b hb => (hS.own _ (.head _) b hb).2 _ (.tail _ (.head _))) hf hi _) ⟨rfl, rfl, trivial⟩ (fun v w a hR hF => ?_)
          obtain ⟨g, rfl, hf, hmut⟩ := hR
          rw [if_pos (by rw [wM_nl]; decide)] at hF
          replace hS := hS.mut hmut .head
          clear hmut
          replace hi := hi.out (line := (0 : Int))
          replace hpl := pl_out (line := (0 : Int)) hpl
          refine ls <| q1 hF rfl (e_asg hF rfl) fun a hF =>
            re <| tn <| ?_
          refine th <| rg <| ls <| q1 hF rfl (e_move hF rfl) fun a hF =>
            ls <| c1 hF rfl Try.call16 (out_c _ _ (hS.hs _ (.head _)) _ _ _ (hS.ok _ (.tail _ (.head _))) (fun b hb => (hS.own _ (.tail _ (.head _)) b hb).2 _ (.head _)) hfB hiB _) ⟨rfl, rfl, trivial⟩ (fun v w a hR hF => ?_)
          obtain ⟨gB, rfl, hfB, hmut⟩ := hR
          rw [if_pos (by rw [wM_nl]; decide)] at hF
          replace hS := hS.mut hmut (.tail .head)
          clear hmut
          replace hiB := hiB.out (line := (0 : Int))
          replace hplB := pl_out (line := (0 : Int)) hplB
          refine ls <| q1 hF rfl (e_asg hF rfl) fun a hF =>
            re <| tn <| ?_
          refine th <| rdL (sub_cons (.tail _ (.tail _ (.head _))) sub_nil) 26 hS wide fun w hS => ?_
          refine d1 (i := 0) rfl (by kernel_rfl) (by kernel_rfl) (hS.lds (fun _ hx => hx) (sub_cons (.tail _ (.tail _ (.head _))) sub_nil)) hF rfl (fun _ _ _ h => h) (fun w hl => e_move hF rfl) fun a hF =>
            d1 (i := 1) rfl (by kernel_rfl) (by kernel_rfl) (hS.lds (fun _ hx => hx) (sub_cons (.tail _ (.tail _ (.head _))) sub_nil)) hF rfl (fun _ _ _ h => h) (fun w hl => e_eql hF rfl rfl) fun a hF =>
            d1 (i := 2) rfl (by kernel_rfl) (by kernel_rfl) (hS.lds (fun _ hx => hx) (sub_cons (.tail _ (.tail _ (.head _))) sub_nil)) hF rfl (fun _ _ _ h => h) (fun w hl => e_move hF rfl) fun a hF =>
            d1g (i := 3) rfl (by kernel_rfl) (by kernel_rfl) (hS.lds (fun _ hx => hx) (sub_cons (.tail _ (.tail _ (.head _))) sub_nil)) hF rfl rfl rfl (fun _ _ _ h => h) (fun w hl => e_move hF rfl) fun a hF =>
            d1g (i := 4) rfl (by kernel_rfl) (by kernel_rfl) (hS.lds (fun _ hx => hx) (sub_cons (.tail _ (.tail _ (.head _))) sub_nil)) hF rfl rfl rfl (fun _ _ _ h => h) (fun w hl => e_eql hF rfl rfl) fun a hF =>
            d1 (i := 5) rfl (by kernel_rfl) (by kernel_rfl) (hS.lds (fun _ hx => hx) (sub_cons (.tail _ (.tail _ (.head _))) sub_nil)) hF rfl (fun _ _ _ h => h) (fun w hl => e_pickT hF rfl rfl) fun a hF =>
            d1 (i := 6) rfl (by kernel_rfl) (by kernel_rfl) (hS.lds (fun _ hx => hx) (sub_cons (.tail _ (.tail _ (.head _))) sub_nil)) hF rfl (fun _ _ _ h => h) (fun w hl => e_move hF rfl) fun a hF =>
            d1g (i := 7) rfl (by kernel_rfl) (by kernel_rfl) (hS.lds (fun _ hx => hx) (sub_cons (.tail _ (.tail _ (.head _))) sub_nil)) hF rfl rfl rfl (fun _ _ _ h => h) (fun w hl => e_move hF rfl) fun a hF =>
            d1g (i := 9) rfl (by kernel_rfl) (by kernel_rfl) (hS.lds (fun _ hx => hx) (sub_cons (.tail _ (.tail _ (.head _))) sub_nil)) hF rfl rfl rfl (fun _ _ _ h => h) (fun w hl => e_move hF rfl) fun a hF =>
            da1 (i := 8) (by kernel_rfl) ?_
          refine di (i := 8) rfl <| gy hF rfl rfl <| c1 hF rfl Try.call15 (kept_c _ _ _ _ (memA_read (hS.ok _ (.head _)) (hS.hs _ (.tail _ (.head _))) hf) hi) ⟨rfl, trivial⟩ (fun v w a hR hF => ?_)
          obtain ⟨_, _, rfl, hfr⟩ := hR
          replace hS := hS.fresh hfr
          clear hfr
          refine ⟨fun _ => (hS.lds (fun _ hx => hx) (sub_cons (.tail _ (.tail _ (.tail _ (.head _)))) sub_nil)), ?_⟩
          refine da1 (i := 10) (by kernel_rfl) ?_
          refine di (i := 10) rfl <| gy hF rfl rfl <| c1 hF rfl Try.call15 (kept_c _ _ _ _ (memA_read (hS.ok _ (.tail _ (.tail _ (.head _)))) (hS.hs _ (.head _)) hfB) hiB) ⟨rfl, trivial⟩ (fun v w a hR hF => ?_)
          obtain ⟨_, _, rfl, hfr⟩ := hR
          replace hS := hS.fresh hfr
          clear hfr
          refine ⟨fun _ => (hS.lds (fun _ hx => hx) (sub_cons (.tail _ (.tail _ (.tail _ (.tail _ (.head _))))) sub_nil)), ?_⟩
          refine da1 (i := 11) (by kernel_rfl) ?_
          refine di (i := 11) rfl <| gy hF rfl rfl <| c1 hF rfl Try.call12 (intsT _ _ _ _ _ _ _ _ _ (hS.rdO (.tail _ (.head _))) (hS.rdO (.head _)) (by rw [wM_k4]; decide) rfl rfl rfl) ⟨rfl, rfl, trivial⟩ (fun v w a hR hF => ?_)
          obtain ⟨rfl, hk⟩ := hR
          replace hS := hS.pass hk
          clear hk
          refine ⟨fun _ => (hS.lds (fun _ hx => hx) (sub_cons (.tail _ (.tail _ (.tail _ (.tail _ (.head _))))) sub_nil)), ?_⟩
          refine d1 (i := 12) rfl (by kernel_rfl) (by kernel_rfl) (hS.lds (fun _ hx => hx) (sub_cons (.tail _ (.tail _ (.tail _ (.tail _ (.head _))))) sub_nil)) hF rfl (fun _ _ _ h => h) (fun w hl => e_pickT hF rfl rfl) fun a hF =>
            d1 (i := 13) rfl (by kernel_rfl) (by kernel_rfl) (hS.lds (fun _ hx => hx) (sub_cons (.tail _ (.tail _ (.tail _ (.tail _ (.head _))))) sub_nil)) hF rfl (fun _ _ _ h => h) (fun w hl => e_move hF rfl) fun a hF =>
            d1g (i := 14) rfl (by kernel_rfl) (by kernel_rfl) (hS.lds (fun _ hx => hx) (sub_cons (.tail _ (.tail _ (.tail _ (.tail _ (.head _))))) sub_nil)) hF rfl rfl rfl (fun _ _ _ h => h) (fun w hl => e_move hF rfl) fun a hF =>
            d1g (i := 16) rfl (by kernel_rfl) (by kernel_rfl) (hS.lds (fun _ hx => hx) (sub_cons (.tail _ (.tail _ (.tail _ (.tail _ (.head _))))) sub_nil)) hF rfl rfl rfl (fun _ _ _ h => h) (fun w hl => e_move hF rfl) fun a hF =>
            d1g (i := 17) rfl (by kernel_rfl) (by kernel_rfl) (hS.lds (fun _ hx => hx) (sub_cons (.tail _ (.tail _ (.tail _ (.tail _ (.head _))))) sub_nil)) hF rfl rfl rfl (fun _ _ _ h => h) (fun w hl => e_ia hF Try.runUnderlying26 Try.sizeOf3 rfl rfl rfl (by first | decide | (show 0 < 2; decide) | (show 1 < 2; decide)) ((hl.rdO (.head _)).some (ints_ne (l := [((P0 : Nat) : Int), ((P1 : Nat) : Int)]) (by first | decide | (show 0 < 2; decide) | (show 1 < 2; decide))))) fun a hF =>
            d1g (i := 18) rfl (by kernel_rfl) (by kernel_rfl) (hS.lds (fun _ hx => hx) (sub_cons (.tail _ (.tail _ (.tail _ (.tail _ (.head _))))) sub_nil)) hF rfl rfl rfl (fun _ _ _ h => h) (fun w hl => e_ld hF Try.isAgg3 rfl (hl.elO (.head _) (rfl : (ints [((P0 : Nat) : Int), ((P1 : Nat) : Int)])[1 * 1]? = some (.int .i64 ((P1 : Nat) : Int))))) fun a hF =>
            da2 (i := 15) (j := 19) (by kernel_rfl) ?_ ?_
          ·
            refine di (i := 15) rfl <| gy hF rfl rfl <| c1 hF rfl Try.call9 (pending_c _ _ _ _ (memA_read (hS.ok _ (.tail _ (.tail _ (.head _)))) (hS.hs _ (.tail _ (.head _))) hf) hi) ⟨rfl, trivial⟩ (fun v w a hR hF => ?_)
            obtain ⟨_, _, rfl, hfr⟩ := hR
            replace hS := hS.fresh hfr
            clear hfr
            refine ⟨fun _ => (hS.lds (fun _ hx => hx) (sub_cons (.tail _ (.tail _ (.tail _ (.tail _ (.tail _ (.head _)))))) sub_nil)), ?_⟩
            refine da1 (i := 19) (by kernel_rfl) ?_
            refine di (i := 19) rfl <| gy hF rfl rfl <| a_bsl (e := 3) (sz := 1) (ints [(0 : Int), ((P1 : Nat) : Int)]) hF rfl hS rfl rfl rfl (fun w => by kernel_rfl) fun bkbs16 w a hS hF => ?_
            refine ⟨fun _ => (hS.lds (fun _ hx => hx) (sub_cons (.tail _ (.tail _ (.tail _ (.tail _ (.tail _ (.tail _ (.head _))))))) sub_nil)), ?_⟩
            refine da1 (i := 20) (by kernel_rfl) ?_
            refine di (i := 20) rfl <| gy hF rfl rfl <| c1 hF rfl Try.call12 (intsT _ _ _ _ _ _ _ _ _ (hS.rdO (.tail _ (.head _))) (hS.rdO (.head _)) (by rw [wM_pend]; exact Nat.le_of_ble_eq_true rfl) (by rw [pendL_len]) rfl (by rw [wM_pend, ← hP1])) ⟨rfl, rfl, trivial⟩ (fun v w a hR hF => ?_)
            obtain ⟨rfl, hk⟩ := hR
            replace hS := hS.pass hk
            clear hk
            refine ⟨fun _ => (hS.lds (fun _ hx => hx) (sub_cons (.tail _ (.tail _ (.tail _ (.tail _ (.tail _ (.tail _ (.head _))))))) sub_nil)), ?_⟩
            refine d1 (i := 21) rfl (by kernel_rfl) (by kernel_rfl) (hS.lds (fun _ hx => hx) (sub_cons (.tail _ (.tail _ (.tail _ (.tail _ (.tail _ (.tail _ (.head _))))))) sub_nil)) hF rfl (fun _ _ _ h => h) (fun w hl => e_pickT hF rfl rfl) fun a hF =>
              d1 (i := 22) rfl (by kernel_rfl) (by kernel_rfl) (hS.lds (fun _ hx => hx) (sub_cons (.tail _ (.tail _ (.tail _ (.tail _ (.tail _ (.tail _ (.head _))))))) sub_nil)) hF rfl (fun _ _ _ h => h) (fun w hl => e_move hF rfl) fun a hF =>
              da1 (i := 23) (by kernel_rfl) ?_
            refine di (i := 23) rfl <| gy hF rfl rfl <| c1 hF rfl Try.call13 (fixed_c _) trivial (fun v w a hR hF => ?_)
            obtain ⟨rfl, hk⟩ := hR
            replace hS := hS.pass hk
            clear hk
            refine ⟨fun _ => (hS.lds (fun _ hx => hx) (sub_cons (.tail _ (.tail _ (.tail _ (.tail _ (.tail _ (.tail _ (.head _))))))) sub_nil)), ?_⟩
            refine d1 (i := 24) rfl (by kernel_rfl) (by kernel_rfl) (hS.lds (fun _ hx => hx) (sub_cons (.tail _ (.tail _ (.tail _ (.tail _ (.tail _ (.tail _ (.head _))))))) sub_nil)) hF rfl (fun _ _ _ h => h) (fun w hl => e_pickT hF rfl rfl) fun a hF =>
              d1 (i := 25) rfl (by kernel_rfl) (by kernel_rfl) (hS.lds (fun _ hx => hx) (sub_cons (.tail _ (.tail _ (.tail _ (.tail _ (.tail _ (.tail _ (.head _))))))) sub_nil)) hF rfl (fun _ _ _ h => h) (fun w hl => e_asg hF rfl) fun a hF =>
              de (by kernel_rfl) <| tn <| ?_
            refine wp_ret <| ?_
            exact r1 hF Try.results6 rfl ⟨rfl, hS.keep⟩
          ·
            refine di (i := 19) rfl <| gy hF rfl rfl <| a_bsl (e := 3) (sz := 1) (ints [(0 : Int), ((P1 : Nat) : Int)]) hF rfl hS rfl rfl rfl (fun w => by kernel_rfl) fun bkbs17 w a hS hF => ?_
            refine ⟨fun _ => (hS.lds (fun _ hx => hx) (sub_cons (.tail _ (.tail _ (.tail _ (.tail _ (.tail _ (.head _)))))) sub_nil)), ?_⟩
            refine da1 (i := 15) (by kernel_rfl) ?_
            refine di (i := 15) rfl <| gy hF rfl rfl <| c1 hF rfl Try.call9 (pending_c _ _ _ _ (memA_read (hS.ok _ (.tail _ (.tail _ (.tail _ (.head _))))) (hS.hs _ (.tail _ (.head _))) hf) hi) ⟨rfl, trivial⟩ (fun v w a hR hF => ?_)
            obtain ⟨_, _, rfl, hfr⟩ := hR
            replace hS := hS.fresh hfr
            clear hfr
            refine ⟨fun _ => (hS.lds (fun _ hx => hx) (sub_cons (.tail _ (.tail _ (.tail _ (.tail _ (.tail _ (.tail _ (.head _))))))) sub_nil)), ?_⟩
            refine da1 (i := 20) (by kernel_rfl) ?_
            refine di (i := 20) rfl <| gy hF rfl rfl <| c1 hF rfl Try.call12 (intsT _ _ _ _ _ _ _ _ _ (hS.rdO (.head _)) (hS.rdO (.tail _ (.head _))) (by rw [wM_pend]; exact Nat.le_of_ble_eq_true rfl) (by rw [pendL_len]) rfl (by rw [wM_pend, ← hP1])) ⟨rfl, rfl, trivial⟩ (fun v w a hR hF => ?_)
            obtain ⟨rfl, hk⟩ := hR
            replace hS := hS.pass hk
            clear hk
            refine ⟨fun _ => (hS.lds (fun _ hx => hx) (sub_cons (.tail _ (.tail _ (.tail _ (.tail _ (.tail _ (.tail _ (.head _))))))) sub_nil)), ?_⟩
            refine d1 (i := 21) rfl (by kernel_rfl) (by kernel_rfl) (hS.lds (fun _ hx => hx) (sub_cons (.tail _ (.tail _ (.tail _ (.tail _ (.tail _ (.tail _ (.head _))))))) sub_nil)) hF rfl (fun _ _ _ h => h) (fun w hl => e_pickT hF rfl rfl) fun a hF =>
              d1 (i := 22) rfl (by kernel_rfl) (by kernel_rfl) (hS.lds (fun _ hx => hx) (sub_cons (.tail _ (.tail _ (.tail _ (.tail _ (.tail _ (.tail _ (.head _))))))) sub_nil)) hF rfl (fun _ _ _ h => h) (fun w hl => e_move hF rfl) fun a hF =>
              da1 (i := 23) (by kernel_rfl) ?_
            refine di (i := 23) rfl <| gy hF rfl rfl <| c1 hF rfl Try.call13 (fixed_c _) trivial (fun v w a hR hF => ?_)
            obtain ⟨rfl, hk⟩ := hR
            replace hS := hS.pass hk
            clear hk
            refine ⟨fun _ => (hS.lds (fun _ hx => hx) (sub_cons (.tail _ (.tail _ (.tail _ (.tail _ (.tail _ (.tail _ (.head _))))))) sub_nil)), ?_⟩
            refine d1 (i := 24) rfl (by kernel_rfl) (by kernel_rfl) (hS.lds (fun _ hx => hx) (sub_cons (.tail _ (.tail _ (.tail _ (.tail _ (.tail _ (.tail _ (.head _))))))) sub_nil)) hF rfl (fun _ _ _ h => h) (fun w hl => e_pickT hF rfl rfl) fun a hF =>
              d1 (i := 25) rfl (by kernel_rfl) (by kernel_rfl) (hS.lds (fun _ hx => hx) (sub_cons (.tail _ (.tail _ (.tail _ (.tail _ (.tail _ (.tail _ (.head _))))))) sub_nil)) hF rfl (fun _ _ _ h => h) (fun w hl => e_asg hF rfl) fun a hF =>
              de (by kernel_rfl) <| tn <| ?_
            refine wp_ret <| ?_
            exact r1 hF Try.results6 rfl ⟨rfl, hS.keep⟩
      ·
        replace hb := Int.not_le.1 (of_decide_eq_false hb)
        refine ls <| gn hF rfl rfl rfl rfl fun a hF =>
          ls <| gn hF rfl rfl rfl rfl fun a hF =>
          ls <| q1 hF rfl (e_pickF hF rfl rfl) fun a hF =>
          re <| tn <| ?_
        refine cf hF rfl <| wp_exit <| tx <| tx <| bx <| tn <| ?_
        refine th <| rg <| ls <| q1 hF rfl (e_move hF rfl) fun a hF =>
          ls <| c1 hF rfl Try.call16 (out_c _ _ (hS.hs _ (.tail _ (.head _))) _ _ _ (hS.ok _ (.head _)) (fun b hb => (hS.own _ (.head _) b hb).2 _ (.tail _ (.head _))) hf hi _) ⟨rfl, rfl, trivial⟩ (fun v w a hR hF => ?_)
        obtain ⟨g, rfl, hf, hmut⟩ := hR
        rw [if_pos (by rw [wM_nl]; decide)] at hF
        replace hS := hS.mut hmut .head
        clear hmut
        replace hi := hi.out (line := (0 : Int))
        replace hpl := pl_out (line := (0 : Int)) hpl
        refine ls <| q1 hF rfl (e_asg hF rfl) fun a hF =>
          re <| tn <| ?_
        refine th <| rg <| ls <| q1 hF rfl (e_move hF rfl) fun a hF =>
          ls <| c1 hF rfl Try.call16 (out_c _ _ (hS.hs _ (.head _)) _ _ _ (hS.ok _ (.tail _ (.head _))) (fun b hb => (hS.own _ (.tail _ (.head _)) b hb).2 _ (.head _)) hfB hiB _) ⟨rfl, rfl, trivial⟩ (fun v w a hR hF => ?_)
        obtain ⟨gB, rfl, hfB, hmut⟩ := hR
        rw [if_pos (by rw [wM_nl]; decide)] at hF
        replace hS := hS.mut hmut (.tail .head)
        clear hmut
        replace hiB := hiB.out (line := (0 : Int))
        replace hplB := pl_out (line := (0 : Int)) hplB
        refine ls <| q1 hF rfl (e_asg hF rfl) fun a hF =>
          re <| tn <| ?_
        refine th <| rdL (sub_cons (.tail _ (.tail _ (.head _))) sub_nil) 26 hS wide fun w hS => ?_
        refine d1 (i := 0) rfl (by kernel_rfl) (by kernel_rfl) (hS.lds (fun _ hx => hx) (sub_cons (.tail _ (.tail _ (.head _))) sub_nil)) hF rfl (fun _ _ _ h => h) (fun w hl => e_move hF rfl) fun a hF =>
          d1 (i := 1) rfl (by kernel_rfl) (by kernel_rfl) (hS.lds (fun _ hx => hx) (sub_cons (.tail _ (.tail _ (.head _))) sub_nil)) hF rfl (fun _ _ _ h => h) (fun w hl => e_eql hF rfl rfl) fun a hF =>
          d1 (i := 2) rfl (by kernel_rfl) (by kernel_rfl) (hS.lds (fun _ hx => hx) (sub_cons (.tail _ (.tail _ (.head _))) sub_nil)) hF rfl (fun _ _ _ h => h) (fun w hl => e_move hF rfl) fun a hF =>
          d1g (i := 3) rfl (by kernel_rfl) (by kernel_rfl) (hS.lds (fun _ hx => hx) (sub_cons (.tail _ (.tail _ (.head _))) sub_nil)) hF rfl rfl rfl (fun _ _ _ h => h) (fun w hl => e_move hF rfl) fun a hF =>
          d1g (i := 4) rfl (by kernel_rfl) (by kernel_rfl) (hS.lds (fun _ hx => hx) (sub_cons (.tail _ (.tail _ (.head _))) sub_nil)) hF rfl rfl rfl (fun _ _ _ h => h) (fun w hl => e_eql hF rfl rfl) fun a hF =>
          d1 (i := 5) rfl (by kernel_rfl) (by kernel_rfl) (hS.lds (fun _ hx => hx) (sub_cons (.tail _ (.tail _ (.head _))) sub_nil)) hF rfl (fun _ _ _ h => h) (fun w hl => e_pickT hF rfl rfl) fun a hF =>
          d1 (i := 6) rfl (by kernel_rfl) (by kernel_rfl) (hS.lds (fun _ hx => hx) (sub_cons (.tail _ (.tail _ (.head _))) sub_nil)) hF rfl (fun _ _ _ h => h) (fun w hl => e_move hF rfl) fun a hF =>
          d1g (i := 7) rfl (by kernel_rfl) (by kernel_rfl) (hS.lds (fun _ hx => hx) (sub_cons (.tail _ (.tail _ (.head _))) sub_nil)) hF rfl rfl rfl (fun _ _ _ h => h) (fun w hl => e_move hF rfl) fun a hF =>
          d1g (i := 9) rfl (by kernel_rfl) (by kernel_rfl) (hS.lds (fun _ hx => hx) (sub_cons (.tail _ (.tail _ (.head _))) sub_nil)) hF rfl rfl rfl (fun _ _ _ h => h) (fun w hl => e_move hF rfl) fun a hF =>
          da1 (i := 8) (by kernel_rfl) ?_
        refine di (i := 8) rfl <| gy hF rfl rfl <| c1 hF rfl Try.call15 (kept_c _ _ _ _ (memA_read (hS.ok _ (.head _)) (hS.hs _ (.tail _ (.head _))) hf) hi) ⟨rfl, trivial⟩ (fun v w a hR hF => ?_)
        obtain ⟨_, _, rfl, hfr⟩ := hR
        replace hS := hS.fresh hfr
        clear hfr
        refine ⟨fun _ => (hS.lds (fun _ hx => hx) (sub_cons (.tail _ (.tail _ (.tail _ (.head _)))) sub_nil)), ?_⟩
        refine da1 (i := 10) (by kernel_rfl) ?_
        refine di (i := 10) rfl <| gy hF rfl rfl <| c1 hF rfl Try.call15 (kept_c _ _ _ _ (memA_read (hS.ok _ (.tail _ (.tail _ (.head _)))) (hS.hs _ (.head _)) hfB) hiB) ⟨rfl, trivial⟩ (fun v w a hR hF => ?_)
        obtain ⟨_, _, rfl, hfr⟩ := hR
        replace hS := hS.fresh hfr
        clear hfr
        refine ⟨fun _ => (hS.lds (fun _ hx => hx) (sub_cons (.tail _ (.tail _ (.tail _ (.tail _ (.head _))))) sub_nil)), ?_⟩
        refine da1 (i := 11) (by kernel_rfl) ?_
        refine di (i := 11) rfl <| gy hF rfl rfl <| c1 hF rfl Try.call12 (intsT _ _ _ _ _ _ _ _ _ (hS.rdO (.tail _ (.head _))) (hS.rdO (.head _)) (by rw [wM_k4]; decide) rfl rfl rfl) ⟨rfl, rfl, trivial⟩ (fun v w a hR hF => ?_)
        obtain ⟨rfl, hk⟩ := hR
        replace hS := hS.pass hk
        clear hk
        refine ⟨fun _ => (hS.lds (fun _ hx => hx) (sub_cons (.tail _ (.tail _ (.tail _ (.tail _ (.head _))))) sub_nil)), ?_⟩
        refine d1 (i := 12) rfl (by kernel_rfl) (by kernel_rfl) (hS.lds (fun _ hx => hx) (sub_cons (.tail _ (.tail _ (.tail _ (.tail _ (.head _))))) sub_nil)) hF rfl (fun _ _ _ h => h) (fun w hl => e_pickT hF rfl rfl) fun a hF =>
          d1 (i := 13) rfl (by kernel_rfl) (by kernel_rfl) (hS.lds (fun _ hx => hx) (sub_cons (.tail _ (.tail _ (.tail _ (.tail _ (.head _))))) sub_nil)) hF rfl (fun _ _ _ h => h) (fun w hl => e_move hF rfl) fun a hF =>
          d1g (i := 14) rfl (by kernel_rfl) (by kernel_rfl) (hS.lds (fun _ hx => hx) (sub_cons (.tail _ (.tail _ (.tail _ (.tail _ (.head _))))) sub_nil)) hF rfl rfl rfl (fun _ _ _ h => h) (fun w hl => e_move hF rfl) fun a hF =>
          d1g (i := 16) rfl (by kernel_rfl) (by kernel_rfl) (hS.lds (fun _ hx => hx) (sub_cons (.tail _ (.tail _ (.tail _ (.tail _ (.head _))))) sub_nil)) hF rfl rfl rfl (fun _ _ _ h => h) (fun w hl => e_move hF rfl) fun a hF =>
          d1g (i := 17) rfl (by kernel_rfl) (by kernel_rfl) (hS.lds (fun _ hx => hx) (sub_cons (.tail _ (.tail _ (.tail _ (.tail _ (.head _))))) sub_nil)) hF rfl rfl rfl (fun _ _ _ h => h) (fun w hl => e_ia hF Try.runUnderlying26 Try.sizeOf3 rfl rfl rfl (by first | decide | (show 0 < 2; decide) | (show 1 < 2; decide)) ((hl.rdO (.head _)).some (ints_ne (l := [((P0 : Nat) : Int), ((P1 : Nat) : Int)]) (by first | decide | (show 0 < 2; decide) | (show 1 < 2; decide))))) fun a hF =>
          d1g (i := 18) rfl (by kernel_rfl) (by kernel_rfl) (hS.lds (fun _ hx => hx) (sub_cons (.tail _ (.tail _ (.tail _ (.tail _ (.head _))))) sub_nil)) hF rfl rfl rfl (fun _ _ _ h => h) (fun w hl => e_ld hF Try.isAgg3 rfl (hl.elO (.head _) (rfl : (ints [((P0 : Nat) : Int), ((P1 : Nat) : Int)])[1 * 1]? = some (.int .i64 ((P1 : Nat) : Int))))) fun a hF =>
          da2 (i := 15) (j := 19) (by kernel_rfl) ?_ ?_
        ·
          refine di (i := 15) rfl <| gy hF rfl rfl <| c1 hF rfl Try.call9 (pending_c _ _ _ _ (memA_read (hS.ok _ (.tail _ (.tail _ (.head _)))) (hS.hs _ (.tail _ (.head _))) hf) hi) ⟨rfl, trivial⟩ (fun v w a hR hF => ?_)
          obtain ⟨_, _, rfl, hfr⟩ := hR
          replace hS := hS.fresh hfr
          clear hfr
          refine ⟨fun _ => (hS.lds (fun _ hx => hx) (sub_cons (.tail _ (.tail _ (.tail _ (.tail _ (.tail _ (.head _)))))) sub_nil)), ?_⟩
          refine da1 (i := 19) (by kernel_rfl) ?_
          refine di (i := 19) rfl <| gy hF rfl rfl <| a_bsl (e := 3) (sz := 1) (ints [(0 : Int), ((P1 : Nat) : Int)]) hF rfl hS rfl rfl rfl (fun w => by kernel_rfl) fun bkbs22 w a hS hF => ?_
          refine ⟨fun _ => (hS.lds (fun _ hx => hx) (sub_cons (.tail _ (.tail _ (.tail _ (.tail _ (.tail _ (.tail _ (.head _))))))) sub_nil)), ?_⟩
          refine da1 (i := 20) (by kernel_rfl) ?_
          refine di (i := 20) rfl <| gy hF rfl rfl <| c1 hF rfl Try.call12 (intsT _ _ _ _ _ _ _ _ _ (hS.rdO (.tail _ (.head _))) (hS.rdO (.head _)) (by rw [wM_pend]; exact Nat.le_of_ble_eq_true rfl) (by rw [pendL_len]) rfl (by rw [wM_pend, ← hP1])) ⟨rfl, rfl, trivial⟩ (fun v w a hR hF => ?_)
          obtain ⟨rfl, hk⟩ := hR
          replace hS := hS.pass hk
          clear hk
          refine ⟨fun _ => (hS.lds (fun _ hx => hx) (sub_cons (.tail _ (.tail _ (.tail _ (.tail _ (.tail _ (.tail _ (.head _))))))) sub_nil)), ?_⟩
          refine d1 (i := 21) rfl (by kernel_rfl) (by kernel_rfl) (hS.lds (fun _ hx => hx) (sub_cons (.tail _ (.tail _ (.tail _ (.tail _ (.tail _ (.tail _ (.head _))))))) sub_nil)) hF rfl (fun _ _ _ h => h) (fun w hl => e_pickT hF rfl rfl) fun a hF =>
            d1 (i := 22) rfl (by kernel_rfl) (by kernel_rfl) (hS.lds (fun _ hx => hx) (sub_cons (.tail _ (.tail _ (.tail _ (.tail _ (.tail _ (.tail _ (.head _))))))) sub_nil)) hF rfl (fun _ _ _ h => h) (fun w hl => e_move hF rfl) fun a hF =>
            da1 (i := 23) (by kernel_rfl) ?_
          refine di (i := 23) rfl <| gy hF rfl rfl <| c1 hF rfl Try.call13 (fixed_c _) trivial (fun v w a hR hF => ?_)
          obtain ⟨rfl, hk⟩ := hR
          replace hS := hS.pass hk
          clear hk
          refine ⟨fun _ => (hS.lds (fun _ hx => hx) (sub_cons (.tail _ (.tail _ (.tail _ (.tail _ (.tail _ (.tail _ (.head _))))))) sub_nil)), ?_⟩
          refine d1 (i := 24) rfl (by kernel_rfl) (by kernel_rfl) (hS.lds (fun _ hx => hx) (sub_cons (.tail _ (.tail _ (.tail _ (.tail _ (.tail _ (.tail _ (.head _))))))) sub_nil)) hF rfl (fun _ _ _ h => h) (fun w hl => e_pickT hF rfl rfl) fun a hF =>
            d1 (i := 25) rfl (by kernel_rfl) (by kernel_rfl) (hS.lds (fun _ hx => hx) (sub_cons (.tail _ (.tail _ (.tail _ (.tail _ (.tail _ (.tail _ (.head _))))))) sub_nil)) hF rfl (fun _ _ _ h => h) (fun w hl => e_asg hF rfl) fun a hF =>
            de (by kernel_rfl) <| tn <| ?_
          refine wp_ret <| ?_
          exact r1 hF Try.results6 rfl ⟨rfl, hS.keep⟩
        ·
          refine di (i := 19) rfl <| gy hF rfl rfl <| a_bsl (e := 3) (sz := 1) (ints [(0 : Int), ((P1 : Nat) : Int)]) hF rfl hS rfl rfl rfl (fun w => by kernel_rfl) fun bkbs23 w a hS hF => ?_
          refine ⟨fun _ => (hS.lds (fun _ hx => hx) (sub_cons (.tail _ (.tail _ (.tail _ (.tail _ (.tail _ (.head _)))))) sub_nil)), ?_⟩
          refine da1 (i := 15) (by kernel_rfl) ?_
          refine di (i := 15) rfl <| gy hF rfl rfl <| c1 hF rfl Try.call9 (pending_c _ _ _ _ (memA_read (hS.ok _ (.tail _ (.tail _ (.tail _ (.head _))))) (hS.hs _ (.tail _ (.head _))) hf) hi) ⟨rfl, trivial⟩ (fun v w a hR hF => ?_)
          obtain ⟨_, _, rfl, hfr⟩ := hR
          replace hS := hS.fresh hfr
          clear hfr
          refine ⟨fun _ => (hS.lds (fun _ hx => hx) (sub_cons (.tail _ (.tail _ (.tail _ (.tail _ (.tail _ (.tail _ (.head _))))))) sub_nil)), ?_⟩
          refine da1 (i := 20) (by kernel_rfl) ?_
          refine di (i := 20) rfl <| gy hF rfl rfl <| c1 hF rfl Try.call12 (intsT _ _ _ _ _ _ _ _ _ (hS.rdO (.head _)) (hS.rdO (.tail _ (.head _))) (by rw [wM_pend]; exact Nat.le_of_ble_eq_true rfl) (by rw [pendL_len]) rfl (by rw [wM_pend, ← hP1])) ⟨rfl, rfl, trivial⟩ (fun v w a hR hF => ?_)
          obtain ⟨rfl, hk⟩ := hR
          replace hS := hS.pass hk
          clear hk
          refine ⟨fun _ => (hS.lds (fun _ hx => hx) (sub_cons (.tail _ (.tail _ (.tail _ (.tail _ (.tail _ (.tail _ (.head _))))))) sub_nil)), ?_⟩
          refine d1 (i := 21) rfl (by kernel_rfl) (by kernel_rfl) (hS.lds (fun _ hx => hx) (sub_cons (.tail _ (.tail _ (.tail _ (.tail _ (.tail _ (.tail _ (.head _))))))) sub_nil)) hF rfl (fun _ _ _ h => h) (fun w hl => e_pickT hF rfl rfl) fun a hF =>
            d1 (i := 22) rfl (by kernel_rfl) (by kernel_rfl) (hS.lds (fun _ hx => hx) (sub_cons (.tail _ (.tail _ (.tail _ (.tail _ (.tail _ (.tail _ (.head _))))))) sub_nil)) hF rfl (fun _ _ _ h => h) (fun w hl => e_move hF rfl) fun a hF =>
            da1 (i := 23) (by kernel_rfl) ?_
          refine di (i := 23) rfl <| gy hF rfl rfl <| c1 hF rfl Try.call13 (fixed_c _) trivial (fun v w a hR hF => ?_)
          obtain ⟨rfl, hk⟩ := hR
          replace hS := hS.pass hk
          clear hk
          refine ⟨fun _ => (hS.lds (fun _ hx => hx) (sub_cons (.tail _ (.tail _ (.tail _ (.tail _ (.tail _ (.tail _ (.head _))))))) sub_nil)), ?_⟩
          refine d1 (i := 24) rfl (by kernel_rfl) (by kernel_rfl) (hS.lds (fun _ hx => hx) (sub_cons (.tail _ (.tail _ (.tail _ (.tail _ (.tail _ (.tail _ (.head _))))))) sub_nil)) hF rfl (fun _ _ _ h => h) (fun w hl => e_pickT hF rfl rfl) fun a hF =>
            d1 (i := 25) rfl (by kernel_rfl) (by kernel_rfl) (hS.lds (fun _ hx => hx) (sub_cons (.tail _ (.tail _ (.tail _ (.tail _ (.tail _ (.tail _ (.head _))))))) sub_nil)) hF rfl (fun _ _ _ h => h) (fun w hl => e_asg hF rfl) fun a hF =>
            de (by kernel_rfl) <| tn <| ?_
          refine wp_ret <| ?_
          exact r1 hF Try.results6 rfl ⟨rfl, hS.keep⟩

end Go.LL
