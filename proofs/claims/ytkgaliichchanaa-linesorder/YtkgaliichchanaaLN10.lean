/- A walk: the order of writes to a line. No condition beyond the theorem's own premises. -/
import Derived.Test.YtkgaliichchanaaLN9
import Derived.Test.YtkgaliichchanaaLLh
namespace Go.LL
open Go Go.Proofs


/-! ### one line of three cells -/
def atN (x : Int) : Nat := lo 65535 x % 3
def ordW (cells : List Int) (j : Nat) : List (Int × Int) := (List.range j).map fun i : Nat => (((atN (cells.getD i 0) : Nat) : Int), ((i + 1 : Nat) : Int))
def wantL (cells : List Int) (j : Nat) : List Int := applyW (ordW cells j) [0, 0, 0]
def oM (cells : List Int) (j : Nat) : MS := { of := [0, 0, 0], firsts := [0, 0, 0], kept := [0, 0, 0], l := wantL cells j, pend := fun k => if k = 0 then ordW cells j else [] }
def cM (cells : List Int) (c : Nat) : MS := { of := [0, 0, 0], firsts := [0, 0, 0], kept := wantL cells c, l := wantL cells c, pend := fun _ => [] }
theorem atN_lt (x : Int) : atN x < 3 := Nat.mod_lt _ (by decide)
theorem ordW_len (cells : List Int) (j : Nat) : (ordW cells j).length = j := by simp [ordW]
theorem ordW_succ (cells : List Int) (j : Nat) : ordW cells (j + 1) = ordW cells j ++ [(((atN (cells.getD j 0) : Nat) : Int), ((j + 1 : Nat) : Int))] := by simp [ordW, List.range_succ]
theorem ordW_take (cells : List Int) {j k : Nat} (h : j ≤ k) : (ordW cells k).take j = ordW cells j := by
  unfold ordW
  rw [← List.map_take, List.take_range, Nat.min_eq_left h]
theorem wantL_len (cells : List Int) (j : Nat) : (wantL cells j).length = 3 := by simp [wantL, applyW_len]
theorem wantL_succ (cells : List Int) (j : Nat) : wantL cells (j + 1) = (wantL cells j).set (atN (cells.getD j 0)) ((j + 1 : Nat) : Int) := by
  rw [wantL, ordW_succ, applyW_snoc]
  rfl
theorem oM_zero (cells : List Int) : newM [0, 0, 0] 3 [0, 0, 0] = oM cells 0 := by
  unfold newM oM
  congr 1
  funext k
  show [] = if k = 0 then ordW cells 0 else []
  split <;> rfl
theorem oM_succ (cells : List Int) (j : Nat) : writeM (oM cells j) ((atN (cells.getD j 0) : Nat) : Int) ((j + 1 : Nat) : Int) = oM cells (j + 1) := by
  have h3 := atN_lt (cells.getD j 0)
  have hl : (oM cells j).l.length = 3 := wantL_len cells j
  rw [writeM, if_pos (by rw [hl]; omega)]
  unfold oM
  congr 1
  · rw [wantL_succ]; rfl
  · funext k
    simp only [ordW_succ]
    have hof : ([0, 0, 0] : List Int).getD (((atN (cells.getD j 0) : Nat) : Int)).toNat 0 = 0 := by
      simp only [Int.toNat_natCast]
      rcases h : atN (cells.getD j 0) with _ | _ | _ | _
      · rfl
      · rfl
      · rfl
      · omega
    rw [hof]
    have hlen : (((atN (cells.getD j 0) : Nat) : Int)) < (([0, 0, 0] : List Int).length : Int) := by
      show _ < ((3 : Nat) : Int)
      omega
    by_cases e : k = 0
    · simp only [e, if_true, and_self, hlen]
    · simp only [e, if_false, and_false]
theorem oM_nl (cells : List Int) (j : Nat) : nlines (oM cells j) = 1 := rfl
theorem oM_cutOk {cells : List Int} {n c : Nat} (h : c ≤ n) : cutOk (oM cells n) [((c : Nat) : Int)] := by
  refine ⟨rfl, fun i hi => ?_⟩
  obtain rfl : i = 0 := by simp at hi; exact hi
  refine ⟨by simp, ?_⟩
  show ((c : Nat) : Int) ≤ ((ordW cells n).length : Int)
  rw [ordW_len]; omega
theorem oM_img {cells : List Int} {n c : Nat} (h : c ≤ n) : imgUp (oM cells n) [((c : Nat) : Int)] (nlines (oM cells n)) = wantL cells c := by
  show applyW ((ordW cells n).take (((c : Nat) : Int)).toNat) [0, 0, 0] = _
  rw [Int.toNat_natCast, ordW_take cells h]; rfl
theorem oM_crash {cells : List Int} {n c : Nat} (h : c ≤ n) : crashM (oM cells n) [((c : Nat) : Int)] = cM cells c := by
  rw [crashM, if_pos (oM_cutOk h), oM_img h]
  unfold cM oM
  simp

set_option maxRecDepth 100000 in
theorem order_c (w0 : World) (oc : Option Addr) (cc : Nat) (cells : List Int) (hr : Rd (hp w0) oc (ints cells)) (k : Int) :
    Tot Try.prog 5 #[.slice oc cells.length cc, .int .i64 k] w0 (fun v w' => v = .bool true ∧ Keep Nil w0 w') := by
  refine fn0 (args := [.slice oc cells.length cc, .int .i64 k]) (F := [(0, .slice oc cells.length cc), (1, .int .i64 k)]) Try.func5 rfl Try.ntmps5 rfl rfl fun a hF => ?_
  have hS : St w0 Nil [hp w0] [] w0 := .start (by simp [hp_le])
  refine th <| rg <| ls <| q1 hF rfl (e_asg hF rfl) fun a hF =>
    re <| tn <| ?_
  refine th <| rg <| ls <| a_bsl (e := 3) (sz := 1) (ints [(0 : Int), (0 : Int), (0 : Int)]) hF rfl hS rfl rfl rfl (fun w => by kernel_rfl) fun bkbs1 w a hS hF => ?_
  refine ls <| a_bsl (e := 3) (sz := 1) (ints [(0 : Int), (0 : Int), (0 : Int)]) hF rfl hS rfl rfl rfl (fun w => by kernel_rfl) fun bkbs2 w a hS hF => ?_
  have hnk : newOk [(0 : Int), (0 : Int), (0 : Int)] (3 : Int) [(0 : Int), (0 : Int), (0 : Int)] := of_decide_eq_true (by kernel_rfl)
  refine ls <| c1 hF rfl Try.call17 (newY _ _ _ _ _ _ _ _ (hS.rdO (.tail _ (.head _))) (hS.rdO (.head _)) (Nat.le_refl _) (Nat.le_refl _) hnk) ⟨rfl, rfl, rfl, trivial⟩ (fun v w a hR hF => ?_)
  obtain ⟨p, g, rfl, hg, hfr⟩ := hR
  replace hS := (hS.fresh hfr).unsep2
  clear hfr
  obtain ⟨hO, hOk, -, hS⟩ := hS.freeze .head
  have hf := newF hOk hg
  have hi := MInv.new hnk
  have hpl := pl_new [(0 : Int), (0 : Int), (0 : Int)] (3 : Int) [(0 : Int), (0 : Int), (0 : Int)]
  refine ls <| q1 hF rfl (e_move hF rfl) fun a hF =>
    ls <| q1 hF rfl (e_ext hF rfl rfl) fun a hF =>
    ls <| q1 hF rfl (e_ext hF rfl rfl) fun a hF =>
    ls <| q1 hF rfl (e_asg hF rfl) fun a hF =>
    ls <| q1 hF rfl (e_asg hF rfl) fun a hF =>
    re <| tn <| ?_
  refine th <| th <| rg <| ls <| q1 hF rfl (e_move hF rfl) fun a hF =>
    ls <| q1 hF rfl (e_eqlP hF Try.runUnderlying24 rfl rfl) fun a hF =>
    ls <| q1 hF rfl (e_move hF rfl) fun a hF =>
    ls <| gy hF rfl rfl <| q1 hF rfl (e_move hF rfl) fun a hF =>
    ls <| gy hF rfl rfl <| q1 hF rfl (e_neq hF rfl rfl) fun a hF =>
    ls <| q1 hF rfl (e_pickF hF rfl rfl) fun a hF =>
    re <| tn <| ?_
  refine cf hF rfl <| wp_skip <| tn <| ?_
  refine th <| rg <| ls <| a_bsl (e := 3) (sz := 1) (ints [(0 : Int), (0 : Int), (0 : Int)]) hF rfl hS rfl rfl rfl (fun w => by kernel_rfl) fun bkbs3 w a hS hF => ?_
  refine ls <| q1 hF rfl (e_move hF rfl) fun a hF =>
    ls <| q1 hF rfl (e_lenS hF Try.runUnderlying26 rfl) fun a hF =>
    ls <| q1 hF rfl (e_minN (m := cells.length) (n := 12) hF rfl rfl) fun a hF =>
    ls <| q1 hF rfl (e_asg hF rfl) fun a hF =>
    ls <| q1 hF rfl (e_asg hF rfl) fun a hF =>
    re <| tn <| ?_
  obtain ⟨n, hn⟩ : ∃ n, n = min cells.length 12 := ⟨_, rfl⟩
  rw [← hn] at hF
  have hlo := lo_le (n := 65535) (by decide) k
  refine th <| rg <| ls <| q1 hF rfl (e_move hF rfl) fun a hF =>
    ls <| q1 hF rfl (e_andL (n := 65535) hF (by omega) rfl rfl) fun a hF =>
    ls <| q1 hF rfl (e_move hF rfl) fun a hF =>
    ls <| q1 hF rfl (e_addI (r := (((n + 1) : Nat) : Int)) hF rfl rfl rfl (by omega)) fun a hF =>
    ls <| q1 hF rfl (e_remN (m := (lo 65535 k)) (n := (n + 1)) hF rfl rfl (by omega)) fun a hF =>
    ls <| q1 hF rfl (e_asg hF rfl) fun a hF =>
    re <| tn <| ?_
  obtain ⟨c, hc⟩ : ∃ c, c = lo 65535 k % (n + 1) := ⟨_, rfl⟩
  have hcn : c ≤ n := by rw [hc]; exact Nat.le_of_lt_succ (Nat.mod_lt _ (Nat.succ_pos n))
  rw [← hc] at hF
  refine th <| th <| rg <| ls <| q1 hF rfl (e_asg hF rfl) fun a hF =>
    re <| tn <| ?_
  rw [oM_zero cells] at hf hi hpl hS
  replace hS := hS.pickL (.cons (.tail .head) (.cons .head .nil))
  rw [show [(0 : Int), 0, 0] = wantL cells (min 0 c) by rw [Nat.zero_min]; rfl] at hS
  refine wp_block <| lp (α := Nat × MG) (fun (gh : Nat × MG) a w => match gh with | (j, g) => Fr 103 [(0, .slice oc cells.length cc), (5, .pointer (some ⟨p, 0, none⟩)), (6, .int .i64 0), (7, .slice (some ⟨bkbs3, 0, none⟩) 3 3), (8, .int .i64 ((n : Nat) : Int)), (9, .int .i64 ((c : Nat) : Int)), (10, .int .i64 ((j : Nat) : Int))] a ∧ St w0 Nil [hO, hp w0] [memA p g (oM cells j), sla 3 1 (some ⟨bkbs3, 0, none⟩) 3 3 (ints (wantL cells (min j c)))] w ∧ (j ≤ n ∧ MemF hO g (oM cells j) ∧ MInv (oM cells j) ∧ ∀ k, ((oM cells j).pend k).length ≤ j)) (fun (gh : Nat × MG) => match gh with | (j, g) => n - j) (0, g) ⟨hF.has ⟨rfl, rfl, rfl, rfl, rfl, rfl, rfl, trivial⟩, hS, ⟨Nat.zero_le _, hf, hi, hpl⟩⟩ ?_
  clear hF hS
  rintro ⟨j, g⟩ a w ⟨hF, hS, hj, hf, hi, hpl⟩
  refine th <| th <| rg <| ls <| q1 hF rfl (e_move hF rfl) fun a hF =>
    ls <| q1 hF rfl (e_move hF rfl) fun a hF =>
    ls <| q1 hF rfl (e_lss hF rfl rfl) fun a hF =>
    re <| tn <| ?_
  refine cs hF rfl (fun hb => ?_) (fun hb => ?_)
  ·
    replace hb := of_decide_eq_true hb
    refine wp_skip <| tn <| ?_
    have hjc : j < cells.length := by omega
    have hlo := lo_le (n := 65535) (by decide) cells[j]
    have hlt := Nat.mod_lt (lo 65535 cells[j]) (show 0 < 3 by decide)
    have hat : lo 65535 cells[j] % 3 = atN (cells.getD j 0) := by rw [getD_of_lt hjc]; rfl
    refine th <| wp_block <| th <| rg <| ls <| q1 hF rfl (e_move hF rfl) fun a hF =>
      ls <| q1 hF rfl (e_move hF rfl) fun a hF =>
      ls <| q1 hF rfl (e_ia hF Try.runUnderlying26 Try.sizeOf3 rfl rfl rfl (by omega) (hr.some (ints_ne (l := cells) (by omega)))) fun a hF =>
      ls <| q1 hF rfl (e_ld hF Try.isAgg3 rfl ((St.ld hS).elH (.tail _ (.head _)) hr (ints_get (l := cells) (k := j) (by omega)))) fun a hF =>
      ls <| q1 hF rfl (e_andL (n := 65535) hF (by omega) rfl rfl) fun a hF =>
      ls <| q1 hF rfl (e_remN (m := (lo 65535 cells[j])) (n := 3) hF rfl rfl (by omega)) fun a hF =>
      ls <| q1 hF rfl (e_asg hF rfl) fun a hF =>
      re <| tn <| ?_
    refine th <| rg <| ls <| q1 hF rfl (e_move hF rfl) fun a hF =>
      ls <| q1 hF rfl (e_move hF rfl) fun a hF =>
      ls <| q1 hF rfl (e_move hF rfl) fun a hF =>
      ls <| q1 hF rfl (e_addI (r := (((j + 1) : Nat) : Int)) hF rfl rfl rfl (by omega)) fun a hF =>
      ls <| c1 hF rfl Try.call18 (write_c _ _ (hS.hs _ (.head _)) _ _ _ (hS.ok _ (.head _)) (fun b hb => (hS.own _ (.head _) b hb).2 _ (.head _)) hf hi _ _) ⟨rfl, rfl, rfl, trivial⟩ (fun v w a hR hF => ?_)
    obtain ⟨g, rfl, hf, hmut⟩ := hR
    replace hS := hS.mut hmut .head
    clear hmut
    replace hi := hi.write (cell := ((((lo 65535 cells[j]) % 3) : Nat) : Int)) (n := (((j + 1) : Nat) : Int)) (fun k => by have := hpl k; omega)
    replace hpl := pl_write (cell := ((((lo 65535 cells[j]) % 3) : Nat) : Int)) (n := (((j + 1) : Nat) : Int)) hpl
    refine re <| tn <| ?_
    refine th <| rg <| ls <| q1 hF rfl (e_move hF rfl) fun a hF =>
      ls <| q1 hF rfl (e_move hF rfl) fun a hF =>
      ls <| q1 hF rfl (e_lss hF rfl rfl) fun a hF =>
      re <| tn <| ?_
    refine cs hF rfl (fun hb => ?_) (fun hb => ?_)
    ·
      replace hb := of_decide_eq_true hb
      refine rg <| ls <| q1 hF rfl (e_move hF rfl) fun a hF =>
        ls <| q1 hF rfl (e_move hF rfl) fun a hF =>
        ls <| q1 hF rfl (e_move hF rfl) fun a hF =>
        ls <| q1 hF rfl (e_addI (r := (((j + 1) : Nat) : Int)) hF rfl rfl rfl (by omega)) fun a hF =>
        ls <| q1 hF rfl (e_ia hF Try.runUnderlying26 Try.sizeOf3 rfl rfl rfl (by first | omega | (rw [wantL_len]; omega)) (((St.ld hS).rdO (.tail _ (.head _))).some (ints_ne (l := (wantL cells (min j c))) (by first | omega | (rw [wantL_len]; omega))))) fun a hF =>
        ls <| s_sl hF hS Try.sizeOf3 rfl rfl rfl rfl (.tail .head) (by simp only [ints_len, wantL_len]; omega) fun w hS => ?_
      rw [ints_set] at hS
      refine re <| bn <| tn <| ?_
      refine rg <| ls <| q1 hF rfl (e_move hF rfl) fun a hF =>
        ls <| q1 hF rfl (e_addI (r := (((j + 1) : Nat) : Int)) hF rfl rfl rfl (by omega)) fun a hF =>
        ls <| q1 hF rfl (e_asg hF rfl) fun a hF =>
        re <| tn <| ?_
      rw [hat, oM_succ cells j] at hf hi hpl hS
      rw [Nat.min_eq_left (by omega : j ≤ c), ← wantL_succ, show wantL cells (j + 1) = wantL cells (min (j + 1) c) by rw [Nat.min_eq_left (by omega)]] at hS
      exact ⟨(j + 1, g), ⟨hF.has ⟨rfl, rfl, rfl, rfl, rfl, rfl, rfl, trivial⟩, hS, ⟨by omega, hf, hi, hpl⟩⟩, (by dsimp only; omega)⟩
    ·
      replace hb := Int.not_lt.1 (of_decide_eq_false hb)
      refine wp_skip <| bn <| tn <| ?_
      refine rg <| ls <| q1 hF rfl (e_move hF rfl) fun a hF =>
        ls <| q1 hF rfl (e_addI (r := (((j + 1) : Nat) : Int)) hF rfl rfl rfl (by omega)) fun a hF =>
        ls <| q1 hF rfl (e_asg hF rfl) fun a hF =>
        re <| tn <| ?_
      rw [hat, oM_succ cells j] at hf hi hpl hS
      rw [show min j c = min (j + 1) c by omega] at hS
      exact ⟨(j + 1, g), ⟨hF.has ⟨rfl, rfl, rfl, rfl, rfl, rfl, rfl, trivial⟩, hS, ⟨by omega, hf, hi, hpl⟩⟩, (by dsimp only; omega)⟩
  ·
    replace hb := Int.not_lt.1 (of_decide_eq_false hb)
    refine wp_exit <| tx <| tx <| bx <| tn <| ?_
    obtain rfl : n = j := by omega
    rw [Nat.min_eq_right hcn] at hS
    refine th <| rg <| ls <| q1 hF rfl (e_move hF rfl) fun a hF =>
      ls <| q1 hF rfl (e_move hF rfl) fun a hF =>
      ls <| a_bsl (e := 3) (sz := 1) (ints [((c : Nat) : Int)]) hF rfl hS rfl rfl rfl (fun w => by kernel_rfl) fun bkbs4 w a hS hF => ?_
    refine ls <| c1 hF rfl Try.call11 (image_c _ _ _ _ (memA_read (hS.ok _ (.tail _ (.head _))) (hS.hs _ (.head _)) hf) hi _ _ _ (hS.rdO (.head _)) (Nat.le_of_ble_eq_true rfl)) ⟨rfl, rfl, trivial⟩ (fun v w a hR hF => ?_)
    replace hR := hR.resolve_left (fun h => h.1 (oM_cutOk hcn))
    obtain ⟨hyes, _, _, rfl, hfr⟩ := hR
    replace hS := hS.fresh hfr
    clear hfr
    refine ls <| q1 hF rfl (e_move hF rfl) fun a hF =>
      ls <| q1 hF rfl (e_ext hF rfl rfl) fun a hF =>
      ls <| q1 hF rfl (e_ext hF rfl rfl) fun a hF =>
      ls <| q1 hF rfl (e_asg hF rfl) fun a hF =>
      ls <| q1 hF rfl (e_asg hF rfl) fun a hF =>
      re <| tn <| ?_
    refine th <| rg <| ls <| q1 hF rfl (e_move hF rfl) fun a hF =>
      ls <| q1 hF rfl (e_move hF rfl) fun a hF =>
      ls <| a_bsl (e := 3) (sz := 1) (ints [((c : Nat) : Int)]) hF rfl hS rfl rfl rfl (fun w => by kernel_rfl) fun bkbs6 w a hS hF => ?_
    refine ls <| c1 hF rfl Try.call19 (crash_c _ _ (hS.hs _ (.head _)) _ _ _ (hS.ok _ (.tail _ (.tail _ (.tail _ (.head _))))) (fun b hb => (hS.own _ (.tail _ (.tail _ (.tail _ (.head _)))) b hb).2 _ (.head _)) hf hi _ _ _ (hS.rdO (.head _)) (Nat.le_of_ble_eq_true rfl)) ⟨rfl, rfl, trivial⟩ (fun v w a hR hF => ?_)
    obtain ⟨g, rfl, hf, hmut⟩ := hR
    rw [if_pos (oM_cutOk hcn)] at hF
    replace hS := hS.mut hmut (.tail (.tail (.tail .head)))
    clear hmut
    replace hi := hi.crash (cut := [((c : Nat) : Int)])
    replace hpl := pl_crash (cut := [((c : Nat) : Int)]) hpl
    rw [oM_crash hcn] at hf hi hpl hS
    refine ls <| q1 hF rfl (e_asg hF rfl) fun a hF =>
      re <| tn <| ?_
    refine th <| rg <| ls <| q1 hF rfl (e_move hF rfl) fun a hF =>
      ls <| q1 hF rfl (e_eql hF rfl rfl) fun a hF =>
      ls <| q1 hF rfl (e_move hF rfl) fun a hF =>
      ls <| gy hF rfl rfl <| q1 hF rfl (e_move hF rfl) fun a hF =>
      ls <| gy hF rfl rfl <| q1 hF rfl (e_move hF rfl) fun a hF =>
      ls <| gy hF rfl rfl <| c1 hF rfl Try.call12 (intsT _ _ _ _ _ _ _ _ _ (hS.rdO (.tail _ (.head _))) (hS.rdO (.tail _ (.tail _ (.tail _ (.tail _ (.head _)))))) (by rw [imgUp_len]; exact Nat.le_of_ble_eq_true rfl) (imgUp_len _ _ _).symm (wantL_len _ _).symm (oM_img hcn)) ⟨rfl, rfl, trivial⟩ (fun v w a hR hF => ?_)
    obtain ⟨rfl, hk⟩ := hR
    replace hS := hS.pass hk
    clear hk
    refine ls <| q1 hF rfl (e_pickT hF rfl rfl) fun a hF =>
      ls <| q1 hF rfl (e_move hF rfl) fun a hF =>
      ls <| gy hF rfl rfl <| q1 hF rfl (e_move hF rfl) fun a hF =>
      ls <| gy hF rfl rfl <| q1 hF rfl (e_eql hF rfl rfl) fun a hF =>
      ls <| q1 hF rfl (e_pickT hF rfl rfl) fun a hF =>
      ls <| q1 hF rfl (e_move hF rfl) fun a hF =>
      ls <| gy hF rfl rfl <| q1 hF rfl (e_move hF rfl) fun a hF =>
      ls <| gy hF rfl rfl <| c1 hF rfl Try.call14 (all_c _ _ _ _ (memA_read (hS.ok _ (.tail _ (.tail _ (.tail _ (.head _))))) (hS.hs _ (.head _)) hf) hi) ⟨rfl, trivial⟩ (fun v w a hR hF => ?_)
    obtain ⟨_, _, rfl, hfr⟩ := hR
    replace hS := hS.fresh hfr
    clear hfr
    refine ls <| gy hF rfl rfl <| q1 hF rfl (e_move hF rfl) fun a hF =>
      ls <| gy hF rfl rfl <| c1 hF rfl Try.call12 (intsT _ _ _ _ _ _ _ _ _ (hS.rdO (.head _)) (hS.rdO (.tail _ (.tail _ (.tail _ (.tail _ (.tail _ (.head _))))))) (Nat.le_trans (Nat.le_of_eq (wantL_len cells c)) (by decide)) rfl (wantL_len _ _).symm rfl) ⟨rfl, rfl, trivial⟩ (fun v w a hR hF => ?_)
    obtain ⟨rfl, hk⟩ := hR
    replace hS := hS.pass hk
    clear hk
    refine ls <| q1 hF rfl (e_pickT hF rfl rfl) fun a hF =>
      ls <| q1 hF rfl (e_move hF rfl) fun a hF =>
      ls <| gy hF rfl rfl <| q1 hF rfl (e_move hF rfl) fun a hF =>
      ls <| gy hF rfl rfl <| c1 hF rfl Try.call15 (kept_c _ _ _ _ (memA_read (hS.ok _ (.tail _ (.tail _ (.tail _ (.tail _ (.head _)))))) (hS.hs _ (.head _)) hf) hi) ⟨rfl, trivial⟩ (fun v w a hR hF => ?_)
    obtain ⟨_, _, rfl, hfr⟩ := hR
    replace hS := hS.fresh hfr
    clear hfr
    refine ls <| gy hF rfl rfl <| q1 hF rfl (e_move hF rfl) fun a hF =>
      ls <| gy hF rfl rfl <| c1 hF rfl Try.call12 (intsT _ _ _ _ _ _ _ _ _ (hS.rdO (.head _)) (hS.rdO (.tail _ (.tail _ (.tail _ (.tail _ (.tail _ (.tail _ (.head _)))))))) (Nat.le_trans (Nat.le_of_eq (wantL_len cells c)) (by decide)) rfl (wantL_len _ _).symm rfl) ⟨rfl, rfl, trivial⟩ (fun v w a hR hF => ?_)
    obtain ⟨rfl, hk⟩ := hR
    replace hS := hS.pass hk
    clear hk
    refine ls <| q1 hF rfl (e_pickT hF rfl rfl) fun a hF =>
      ls <| q1 hF rfl (e_move hF rfl) fun a hF =>
      ls <| gy hF rfl rfl <| q1 hF rfl (e_move hF rfl) fun a hF =>
      ls <| gy hF rfl rfl <| c1 hF rfl Try.call9 (pending_c _ _ _ _ (memA_read (hS.ok _ (.tail _ (.tail _ (.tail _ (.tail _ (.tail _ (.head _))))))) (hS.hs _ (.head _)) hf) hi) ⟨rfl, trivial⟩ (fun v w a hR hF => ?_)
    obtain ⟨_, _, rfl, hfr⟩ := hR
    replace hS := hS.fresh hfr
    clear hfr
    refine ls <| gy hF rfl rfl <| a_bsl (e := 3) (sz := 1) (ints [(0 : Int)]) hF rfl hS rfl rfl rfl (fun w => by kernel_rfl) fun bkbs10 w a hS hF => ?_
    refine ls <| gy hF rfl rfl <| c1 hF rfl Try.call12 (intsT _ _ _ _ _ _ _ _ _ (hS.rdO (.tail _ (.head _))) (hS.rdO (.head _)) (Nat.le_of_ble_eq_true rfl) rfl rfl rfl) ⟨rfl, rfl, trivial⟩ (fun v w a hR hF => ?_)
    obtain ⟨rfl, hk⟩ := hR
    replace hS := hS.pass hk
    clear hk
    refine ls <| q1 hF rfl (e_pickT hF rfl rfl) fun a hF =>
      ls <| q1 hF rfl (e_move hF rfl) fun a hF =>
      ls <| gy hF rfl rfl <| c1 hF rfl Try.call13 (fixed_c _) trivial (fun v w a hR hF => ?_)
    obtain ⟨rfl, hk⟩ := hR
    replace hS := hS.pass hk
    clear hk
    refine ls <| q1 hF rfl (e_pickT hF rfl rfl) fun a hF =>
      ls <| q1 hF rfl (e_asg hF rfl) fun a hF =>
      re <| tn <| ?_
    refine wp_ret <| ?_
    exact r1 hF Try.results5 rfl ⟨rfl, hS.keep⟩

end Go.LL
