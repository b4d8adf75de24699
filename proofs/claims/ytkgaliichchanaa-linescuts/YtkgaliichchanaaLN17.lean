/- A walk: the cuts that differ. No condition beyond the theorem's own premises. -/
import Derived.Test.YtkgaliichchanaaLN16
namespace Go.LL
open Go Go.Proofs


theorem cutA {m : MS} (hG : Good m) {A0 A1 : Nat} (h0 : A0 ≤ (m.pend 0).length) (h1 : A1 ≤ (m.pend 1).length) : cutOk m [((A0 : Nat) : Int), ((A1 : Nat) : Int)] := by
  refine ⟨by rw [hG.nl]; rfl, fun i hi => ?_⟩
  match i, hi with
  | 0, _ => exact ⟨by simp, by show ((A0 : Nat) : Int) ≤ ((m.pend 0).length : Int); omega⟩
  | 1, _ => exact ⟨by simp, by show ((A1 : Nat) : Int) ≤ ((m.pend 1).length : Int); omega⟩

set_option maxRecDepth 100000 in
set_option maxHeartbeats 100000000 in
theorem cutsL_c (w0 : World) (oo : Option Addr) (co : Nat) (ops : List OpV) (hr : Rd (hp w0) oo (opcells ops)) (za zb : Int) :
    Tot Try.prog 3 #[.slice oo ops.length co, .agg #[.int .i64 za, .int .i64 zb]] w0 (fun v w' => v = .bool true ∧ Keep Nil w0 w') := by
  refine fn0 (args := [.slice oo ops.length co, .agg #[.int .i64 za, .int .i64 zb]]) (F := [(0, .slice oo ops.length co), (1, .agg #[.int .i64 za, .int .i64 zb])]) Try.func3 rfl Try.ntmps3 rfl rfl fun a hF => ?_
  have hS : St w0 Nil [hp w0] [] w0 := .start (by simp [hp_le])
  refine th <| rg <| ls <| a_box hF rfl hS rfl rfl fun b w a hS hF => ?_
  refine ls <| q1 hF rfl (e_asg hF rfl) fun a hF =>
    re <| tn <| ?_
  refine th <| rg <| ls <| q1 hF rfl (e_move hF rfl) fun a hF =>
    ls <| c1 hF rfl Try.call8 (some_c _ _ _ ops (hS.rdH (.head _) hr)) ⟨rfl, trivial⟩ (fun v w a hR hF => ?_)
  obtain ⟨p, g, hO, rfl, hOl, hOn, hf, hOd, hi, hpl, hfr⟩ := hR
  replace hS := hS.freshH hfr hOl hOn hOd
  clear hfr
  have hG := Good.some ops (min ops.length 12)
  generalize someM ops (min ops.length 12) = m0 at hf hi hpl hS hG
  refine ls <| q1 hF rfl (e_asg hF rfl) fun a hF =>
    re <| tn <| ?_
  refine th <| th <| rg <| ls <| q1 hF rfl (e_move hF rfl) fun a hF =>
    ls <| q1 hF rfl (e_eqlP hF Try.runUnderlying24 rfl rfl) fun a hF =>
    re <| tn <| ?_
  refine cf hF rfl <| wp_skip <| tn <| ?_
  refine th <| rg <| ls <| q1 hF rfl (e_move hF rfl) fun a hF =>
    ls <| c1 hF rfl Try.call9 (pending_c _ _ _ _ (memA_read (hS.ok _ (.head _)) (hS.hs _ (.head _)) hf) hi) ⟨rfl, trivial⟩ (fun v w a hR hF => ?_)
  obtain ⟨oap, cap, rfl, hfr⟩ := hR
  replace hS := hS.fresh hfr
  clear hfr
  rw [hG.nl] at hF hS
  obtain ⟨P0, hP0⟩ : ∃ P, P = (m0.pend 0).length := ⟨_, rfl⟩
  obtain ⟨P1, hP1⟩ : ∃ P, P = (m0.pend 1).length := ⟨_, rfl⟩
  rw [show pendL m0 2 = [((P0 : Nat) : Int), ((P1 : Nat) : Int)] by rw [hP0, hP1]; rfl] at hS
  have hq0 : P0 ≤ 12 := hP0 ▸ hpl 0
  have hq1 : P1 ≤ 12 := hP1 ▸ hpl 1
  refine ls <| q1 hF rfl (e_move hF rfl) fun a hF =>
    ls <| c1 hF rfl Try.call10 (cuts_c _ _ _ _ (memA_read (hS.ok _ (.tail _ (.head _))) (hS.hs _ (.head _)) hf) hi (hG.tot hpl)) ⟨rfl, trivial⟩ (fun v w a hR hF => ?_)
  obtain ⟨oor, cor, rows, rfl, hrows, hfr⟩ := hR
  replace hS := (hS.fresh hfr).unsep2
  clear hfr
  have hR_ := rows_ok hG hpl hrows
  have hfew := hR_.few
  refine ls <| q1 hF rfl (e_asg hF rfl) fun a hF =>
    ls <| q1 hF rfl (e_asg hF rfl) fun a hF =>
    re <| tn <| ?_
  refine th <| th <| rg <| ls <| q1 hF rfl (e_move hF rfl) fun a hF =>
    ls <| q1 hF rfl (e_lenS hF Try.runUnderlying26 rfl) fun a hF =>
    ls <| q1 hF rfl (e_neq hF rfl rfl) fun a hF =>
    ls <| q1 hF rfl (e_move hF rfl) fun a hF =>
    ls <| gy hF rfl rfl <| q1 hF rfl (e_move hF rfl) fun a hF =>
    ls <| gy hF rfl rfl <| q1 hF rfl (e_lenS hF Try.runUnderlying28 rfl) fun a hF =>
    ls <| gy hF rfl rfl <| q1 hF rfl (e_as (e_gtr hF rfl rfl) (congrArg Value.bool (decide_eq_false (by omega)))) fun a hF =>
    ls <| q1 hF rfl (e_pickF hF rfl rfl) fun a hF =>
    re <| tn <| ?_
  refine cf hF rfl <| wp_skip <| tn <| ?_
  have hlo0 := lo_le (n := 65535) (by decide) za
  have hlo1 := lo_le (n := 65535) (by decide) zb
  refine th <| rdL (sub_cons (.tail _ (.tail _ (.tail _ (.tail _ (.head _))))) (sub_cons (.tail _ (.tail _ (.head _))) sub_nil)) 20 hS wide fun w hS => ?_
  refine d1 (i := 0) rfl (by kernel_rfl) (by kernel_rfl) (hS.lds (fun _ hx => hx) (sub_cons (.tail _ (.tail _ (.tail _ (.tail _ (.head _))))) (sub_cons (.tail _ (.tail _ (.head _))) sub_nil))) hF rfl (fun _ _ _ h => h) (fun w hl => e_iaA (i := 0) hF und23 Try.sizeOf3 rfl rfl rfl (by decide)) fun a hF =>
    d1 (i := 1) rfl (by kernel_rfl) (by kernel_rfl) (hS.lds (fun _ hx => hx) (sub_cons (.tail _ (.tail _ (.tail _ (.tail _ (.head _))))) (sub_cons (.tail _ (.tail _ (.head _))) sub_nil))) hF rfl (fun _ _ _ h => h) (fun w hl => e_ld hF Try.isAgg3 rfl (hl.cellB (.head _) rfl)) fun a hF =>
    d1 (i := 2) rfl (by kernel_rfl) (by kernel_rfl) (hS.lds (fun _ hx => hx) (sub_cons (.tail _ (.tail _ (.tail _ (.tail _ (.head _))))) (sub_cons (.tail _ (.tail _ (.head _))) sub_nil))) hF rfl (fun _ _ _ h => h) (fun w hl => e_andL (n := 65535) hF (by omega) rfl rfl) fun a hF =>
    d1 (i := 3) rfl (by kernel_rfl) (by kernel_rfl) (hS.lds (fun _ hx => hx) (sub_cons (.tail _ (.tail _ (.tail _ (.tail _ (.head _))))) (sub_cons (.tail _ (.tail _ (.head _))) sub_nil))) hF rfl (fun _ _ _ h => h) (fun w hl => e_move hF rfl) fun a hF =>
    d1 (i := 4) rfl (by kernel_rfl) (by kernel_rfl) (hS.lds (fun _ hx => hx) (sub_cons (.tail _ (.tail _ (.tail _ (.tail _ (.head _))))) (sub_cons (.tail _ (.tail _ (.head _))) sub_nil))) hF rfl (fun _ _ _ h => h) (fun w hl => e_ia hF Try.runUnderlying26 Try.sizeOf3 rfl rfl rfl (by first | (show 0 < 2; decide) | (show 1 < 2; decide)) ((hl.rdO (.tail _ (.head _))).some (ints_ne (l := [((P0 : Nat) : Int), ((P1 : Nat) : Int)]) (by first | (show 0 < 2; decide) | (show 1 < 2; decide))))) fun a hF =>
    d1 (i := 5) rfl (by kernel_rfl) (by kernel_rfl) (hS.lds (fun _ hx => hx) (sub_cons (.tail _ (.tail _ (.tail _ (.tail _ (.head _))))) (sub_cons (.tail _ (.tail _ (.head _))) sub_nil))) hF rfl (fun _ _ _ h => h) (fun w hl => e_ld hF Try.isAgg3 rfl (hl.elO (.tail _ (.head _)) (rfl : (ints [((P0 : Nat) : Int), ((P1 : Nat) : Int)])[0 * 1]? = some (.int .i64 ((P0 : Nat) : Int))))) fun a hF =>
    d1 (i := 6) rfl (by kernel_rfl) (by kernel_rfl) (hS.lds (fun _ hx => hx) (sub_cons (.tail _ (.tail _ (.tail _ (.tail _ (.head _))))) (sub_cons (.tail _ (.tail _ (.head _))) sub_nil))) hF rfl (fun _ _ _ h => h) (fun w hl => e_maxN (m := 0) (n := P0) hF rfl rfl) fun a hF =>
    d1 (i := 7) rfl (by kernel_rfl) (by kernel_rfl) (hS.lds (fun _ hx => hx) (sub_cons (.tail _ (.tail _ (.tail _ (.tail _ (.head _))))) (sub_cons (.tail _ (.tail _ (.head _))) sub_nil))) hF rfl (fun _ _ _ h => h) (fun w hl => e_addI (r := ((((max 0 P0) + 1) : Nat) : Int)) hF rfl rfl rfl (by omega)) fun a hF =>
    d1 (i := 8) rfl (by kernel_rfl) (by kernel_rfl) (hS.lds (fun _ hx => hx) (sub_cons (.tail _ (.tail _ (.tail _ (.tail _ (.head _))))) (sub_cons (.tail _ (.tail _ (.head _))) sub_nil))) hF rfl (fun _ _ _ h => h) (fun w hl => e_remN (m := (lo 65535 za)) (n := ((max 0 P0) + 1)) hF rfl rfl (by omega)) fun a hF =>
    d1 (i := 9) rfl (by kernel_rfl) (by kernel_rfl) (hS.lds (fun _ hx => hx) (sub_cons (.tail _ (.tail _ (.tail _ (.tail _ (.head _))))) (sub_cons (.tail _ (.tail _ (.head _))) sub_nil))) hF rfl (fun _ _ _ h => h) (fun w hl => e_iaA (i := 1) hF und23 Try.sizeOf3 rfl rfl rfl (by decide)) fun a hF =>
    d1 (i := 10) rfl (by kernel_rfl) (by kernel_rfl) (hS.lds (fun _ hx => hx) (sub_cons (.tail _ (.tail _ (.tail _ (.tail _ (.head _))))) (sub_cons (.tail _ (.tail _ (.head _))) sub_nil))) hF rfl (fun _ _ _ h => h) (fun w hl => e_ld hF Try.isAgg3 rfl (hl.cellB (.head _) rfl)) fun a hF =>
    d1 (i := 11) rfl (by kernel_rfl) (by kernel_rfl) (hS.lds (fun _ hx => hx) (sub_cons (.tail _ (.tail _ (.tail _ (.tail _ (.head _))))) (sub_cons (.tail _ (.tail _ (.head _))) sub_nil))) hF rfl (fun _ _ _ h => h) (fun w hl => e_andL (n := 65535) hF (by omega) rfl rfl) fun a hF =>
    d1 (i := 12) rfl (by kernel_rfl) (by kernel_rfl) (hS.lds (fun _ hx => hx) (sub_cons (.tail _ (.tail _ (.tail _ (.tail _ (.head _))))) (sub_cons (.tail _ (.tail _ (.head _))) sub_nil))) hF rfl (fun _ _ _ h => h) (fun w hl => e_move hF rfl) fun a hF =>
    d1 (i := 13) rfl (by kernel_rfl) (by kernel_rfl) (hS.lds (fun _ hx => hx) (sub_cons (.tail _ (.tail _ (.tail _ (.tail _ (.head _))))) (sub_cons (.tail _ (.tail _ (.head _))) sub_nil))) hF rfl (fun _ _ _ h => h) (fun w hl => e_ia hF Try.runUnderlying26 Try.sizeOf3 rfl rfl rfl (by first | (show 0 < 2; decide) | (show 1 < 2; decide)) ((hl.rdO (.tail _ (.head _))).some (ints_ne (l := [((P0 : Nat) : Int), ((P1 : Nat) : Int)]) (by first | (show 0 < 2; decide) | (show 1 < 2; decide))))) fun a hF =>
    d1 (i := 14) rfl (by kernel_rfl) (by kernel_rfl) (hS.lds (fun _ hx => hx) (sub_cons (.tail _ (.tail _ (.tail _ (.tail _ (.head _))))) (sub_cons (.tail _ (.tail _ (.head _))) sub_nil))) hF rfl (fun _ _ _ h => h) (fun w hl => e_ld hF Try.isAgg3 rfl (hl.elO (.tail _ (.head _)) (rfl : (ints [((P0 : Nat) : Int), ((P1 : Nat) : Int)])[1 * 1]? = some (.int .i64 ((P1 : Nat) : Int))))) fun a hF =>
    d1 (i := 15) rfl (by kernel_rfl) (by kernel_rfl) (hS.lds (fun _ hx => hx) (sub_cons (.tail _ (.tail _ (.tail _ (.tail _ (.head _))))) (sub_cons (.tail _ (.tail _ (.head _))) sub_nil))) hF rfl (fun _ _ _ h => h) (fun w hl => e_maxN (m := 0) (n := P1) hF rfl rfl) fun a hF =>
    d1 (i := 16) rfl (by kernel_rfl) (by kernel_rfl) (hS.lds (fun _ hx => hx) (sub_cons (.tail _ (.tail _ (.tail _ (.tail _ (.head _))))) (sub_cons (.tail _ (.tail _ (.head _))) sub_nil))) hF rfl (fun _ _ _ h => h) (fun w hl => e_addI (r := ((((max 0 P1) + 1) : Nat) : Int)) hF rfl rfl rfl (by omega)) fun a hF =>
    d1 (i := 17) rfl (by kernel_rfl) (by kernel_rfl) (hS.lds (fun _ hx => hx) (sub_cons (.tail _ (.tail _ (.tail _ (.tail _ (.head _))))) (sub_cons (.tail _ (.tail _ (.head _))) sub_nil))) hF rfl (fun _ _ _ h => h) (fun w hl => e_remN (m := (lo 65535 zb)) (n := ((max 0 P1) + 1)) hF rfl rfl (by omega)) fun a hF =>
    da1 (i := 18) (by kernel_rfl) ?_
  refine di (i := 18) rfl <| a_bsl (e := 3) (sz := 1) (ints [((((lo 65535 za) % ((max 0 P0) + 1)) : Nat) : Int), ((((lo 65535 zb) % ((max 0 P1) + 1)) : Nat) : Int)]) hF rfl hS rfl rfl rfl (fun w => by kernel_rfl) fun bkbs4 w a hS hF => ?_
  refine ⟨fun _ => (hS.lds (fun _ hx => hx) (sub_cons (.tail _ (.tail _ (.tail _ (.tail _ (.tail _ (.head _)))))) (sub_cons (.tail _ (.tail _ (.tail _ (.head _)))) sub_nil))), ?_⟩
  refine d1 (i := 19) rfl (by kernel_rfl) (by kernel_rfl) (hS.lds (fun _ hx => hx) (sub_cons (.tail _ (.tail _ (.tail _ (.tail _ (.tail _ (.head _)))))) (sub_cons (.tail _ (.tail _ (.tail _ (.head _)))) sub_nil))) hF rfl (fun _ _ _ h => h) (fun w hl => e_asg hF rfl) fun a hF =>
    de (by kernel_rfl) <| tn <| ?_
  obtain ⟨A0, hA0⟩ : ∃ A, A = lo 65535 za % (max 0 P0 + 1) := ⟨_, rfl⟩
  obtain ⟨A1, hA1⟩ : ∃ A, A = lo 65535 zb % (max 0 P1 + 1) := ⟨_, rfl⟩
  rw [← hA0, ← hA1] at hS
  have hB0 : A0 ≤ P0 := by have := Nat.mod_lt (lo 65535 za) (show 0 < max 0 P0 + 1 by omega); omega
  have hB1 : A1 ≤ P1 := by have := Nat.mod_lt (lo 65535 zb) (show 0 < max 0 P1 + 1 by omega); omega
  have hcA : cutOk m0 [((A0 : Nat) : Int), ((A1 : Nat) : Int)] := cutA hG (by omega) (by omega)
  refine th <| rg <| ls <| q1 hF rfl (e_move hF rfl) fun a hF =>
    ls <| q1 hF rfl (e_move hF rfl) fun a hF =>
    ls <| c1 hF rfl Try.call11 (image_c _ _ _ _ (memA_read (hS.ok _ (.tail _ (.tail _ (.tail _ (.tail _ (.head _)))))) (hS.hs _ (.head _)) hf) hi _ _ _ (hS.rdO (.head _)) (Nat.le_of_ble_eq_true rfl)) ⟨rfl, rfl, trivial⟩ (fun v w a hR hF => ?_)
  replace hR := hR.resolve_left (fun h => h.1 hcA)
  obtain ⟨hyes, oax, cax, rfl, hfr⟩ := hR
  replace hS := hS.fresh hfr
  clear hfr
  refine ls <| q1 hF rfl (e_move hF rfl) fun a hF =>
    ls <| q1 hF rfl (e_ext hF rfl rfl) fun a hF =>
    ls <| q1 hF rfl (e_ext hF rfl rfl) fun a hF =>
    ls <| q1 hF rfl (e_asg hF rfl) fun a hF =>
    ls <| q1 hF rfl (e_asg hF rfl) fun a hF =>
    re <| tn <| ?_
  refine th <| rg <| ls <| q1 hF rfl (e_asg hF rfl) fun a hF =>
    re <| tn <| ?_
  refine th <| th <| rg <| ls <| q1 hF rfl (e_asg hF rfl) fun a hF =>
    re <| tn <| ?_
  replace hS := hS.pickL (.cons (.tail (.tail (.tail (.tail (.tail .head))))) (.cons (.tail (.tail .head)) (.cons (.tail (.tail .head)) (.cons .head .nil))))
  refine wp_block <| lp (α := Nat × Bool) (fun (gh : Nat × Bool) a w => match gh with | (i, inn) => Fr 160 [(5, .pointer (some ⟨p, 0, none⟩)), (7, .slice oor rows.length cor), (9, .slice oax m0.kept.length cax), (10, .int .i64 0), (11, .bool inn), (12, .int .i64 ((i : Nat) : Int))] a ∧ St w0 Nil [hO, hp w0] [memA p g m0, sla 26 1 oor rows.length cor (rowsV rows), bigA rowA rows, sla 3 1 oax m0.kept.length cax (ints (imgUp m0 [((A0 : Nat) : Int), ((A1 : Nat) : Int)] (nlines m0)))] w ∧ (i ≤ rows.length ∧ (inn = true ↔ cutHit m0 rows (imgUp m0 [((A0 : Nat) : Int), ((A1 : Nat) : Int)] (nlines m0)) i))) (fun (gh : Nat × Bool) => match gh with | (i, inn) => rows.length - i) (0, false) ⟨hF.has ⟨rfl, rfl, rfl, rfl, rfl, rfl, trivial⟩, hS, ⟨Nat.zero_le _, ⟨fun h => (nomatch h), fun ⟨j, _, hj, _⟩ => absurd hj (Nat.not_lt_zero _)⟩⟩⟩ ?_
  clear hF hS
  rintro ⟨i, inn⟩ a w ⟨hF, hS, hin, hinn⟩
  refine th <| th <| rg <| ls <| q1 hF rfl (e_move hF rfl) fun a hF =>
    ls <| q1 hF rfl (e_move hF rfl) fun a hF =>
    ls <| q1 hF rfl (e_lenS hF Try.runUnderlying28 rfl) fun a hF =>
    ls <| q1 hF rfl (e_lss hF rfl rfl) fun a hF =>
    re <| tn <| ?_
  refine cs hF rfl (fun hb => ?_) (fun hb => ?_)
  ·
    replace hb := of_decide_eq_true hb
    refine wp_skip <| tn <| ?_
    have hic : i < rows.length := by omega
    refine th <| wp_block <| th <| rg <| ls <| q1 hF rfl (e_move hF rfl) fun a hF =>
      ls <| q1 hF rfl (e_move hF rfl) fun a hF =>
      ls <| q1 hF rfl (e_move hF rfl) fun a hF =>
      ls <| q1 hF rfl (e_ia hF Try.runUnderlying28 Try.sizeOf26 rfl rfl rfl (by omega) (((St.ld hS).rdO (.tail _ (.head _))).some (rowsV_ne (l := rows) (by omega)))) fun a hF =>
      ls <| q1 hF rfl (e_ld hF Try.isAgg26 rfl ((St.ld hS).elO (.tail _ (.head _)) (rowsV_get (l := rows) (k := i) (by omega)))) fun a hF =>
      ls <| c1 hF rfl Try.call11 (image_c _ _ _ _ (memA_read (hS.ok _ (.head _)) (hS.hs _ (.head _)) hf) hi _ _ _ (hS.rdRows (.tail _ (.tail _ (.head _))) _ (List.getElem_mem (by omega : i < rows.length))) (by rw [hR_.len _ (by omega)]; decide)) ⟨rfl, rfl, trivial⟩ (fun v w a hR hF => ?_)
    replace hR := hR.resolve_left (fun h => h.1 (hR_.ok _ (by omega)))
    obtain ⟨hyes, oaa, caa, rfl, hfr⟩ := hR
    replace hS := hS.fresh hfr
    clear hfr
    refine ls <| q1 hF rfl (e_move hF rfl) fun a hF =>
      ls <| q1 hF rfl (e_ext hF rfl rfl) fun a hF =>
      ls <| q1 hF rfl (e_ext hF rfl rfl) fun a hF =>
      ls <| q1 hF rfl (e_asg hF rfl) fun a hF =>
      ls <| q1 hF rfl (e_asg hF rfl) fun a hF =>
      re <| tn <| ?_
    refine th <| th <| rg <| ls <| q1 hF rfl (e_move hF rfl) fun a hF =>
      ls <| q1 hF rfl (e_neq hF rfl rfl) fun a hF =>
      ls <| q1 hF rfl (e_move hF rfl) fun a hF =>
      ls <| gy hF rfl rfl <| q1 hF rfl (e_move hF rfl) fun a hF =>
      ls <| gy hF rfl rfl <| q1 hF rfl (e_move hF rfl) fun a hF =>
      ls <| gy hF rfl rfl <| q1 hF rfl (e_ia hF Try.runUnderlying28 Try.sizeOf26 rfl rfl rfl (by omega) (((St.ld hS).rdO (.tail _ (.tail _ (.head _)))).some (rowsV_ne (l := rows) (by omega)))) fun a hF =>
      ls <| gy hF rfl rfl <| q1 hF rfl (e_ld hF Try.isAgg26 rfl ((St.ld hS).elO (.tail _ (.tail _ (.head _))) (rowsV_get (l := rows) (k := i) (by omega)))) fun a hF =>
      ls <| gy hF rfl rfl <| q1 hF rfl (e_lenS hF Try.runUnderlying26 rfl) fun a hF =>
      ls <| gy hF rfl rfl <| q1 hF rfl (e_as (e_neq hF rfl rfl) (congrArg Value.bool (decide_eq_false (by have := hR_.len i (by omega); omega)))) fun a hF =>
      ls <| q1 hF rfl (e_pickF hF rfl rfl) fun a hF =>
      re <| tn <| ?_
    refine cf hF rfl <| wp_skip <| tn <| ?_
    refine th <| rg <| ls <| q1 hF rfl (e_move hF rfl) fun a hF =>
      ls <| q1 hF rfl (e_move hF rfl) fun a hF =>
      Fr.split hF (t := 85) rfl (fun hb hF => ?_) (fun hb hF => ?_)
    ·
      refine ls <| gn hF rfl rfl rfl rfl fun a hF =>
        ls <| gn hF rfl rfl rfl rfl fun a hF =>
        ls <| gn hF rfl rfl rfl rfl fun a hF =>
        ls <| q1 hF rfl (e_pickT hF rfl rfl) fun a hF =>
        ls <| q1 hF rfl (e_asg hF rfl) fun a hF =>
        re <| tn <| ?_
      have hbb := hb
      refine th <| rg <| ls <| q1 hF rfl (e_asg hF rfl) fun a hF =>
        re <| tn <| ?_
      replace hS := hS.pickL (.cons (.tail .head) (.cons (.tail .head) (.cons (.tail .head) (.cons (.tail .head) (.cons .head .nil)))))
      refine wp_block <| lp (α := Nat) (fun (gh : Nat) a w => match gh with | k => Fr 160 [(5, .pointer (some ⟨p, 0, none⟩)), (7, .slice oor rows.length cor), (9, .slice oax m0.kept.length cax), (10, .int .i64 0), (11, .bool true), (12, .int .i64 ((i : Nat) : Int)), (13, .slice oaa m0.kept.length caa), (15, .int .i64 ((k : Nat) : Int))] a ∧ St w0 Nil [hO, hp w0] [memA p g m0, sla 26 1 oor rows.length cor (rowsV rows), bigA rowA rows, sla 3 1 oax m0.kept.length cax (ints (imgUp m0 [((A0 : Nat) : Int), ((A1 : Nat) : Int)] (nlines m0))), sla 3 1 oaa m0.kept.length caa (ints (imgUp m0 rows[i].xs (nlines m0)))] w ∧ k ≤ i) (fun (gh : Nat) => match gh with | k => i - k) 0 ⟨hF.has ⟨rfl, rfl, rfl, rfl, rfl, rfl, rfl, rfl, trivial⟩, hS, Nat.zero_le _⟩ ?_
      clear hF hS
      rintro k a w ⟨hF, hS, hki⟩
      refine th <| th <| rg <| ls <| q1 hF rfl (e_move hF rfl) fun a hF =>
        ls <| q1 hF rfl (e_move hF rfl) fun a hF =>
        ls <| q1 hF rfl (e_lss hF rfl rfl) fun a hF =>
        re <| tn <| ?_
      refine cs hF rfl (fun hb => ?_) (fun hb => ?_)
      ·
        replace hb := of_decide_eq_true hb
        refine wp_skip <| tn <| ?_
        refine th <| wp_block <| th <| rg <| ls <| q1 hF rfl (e_move hF rfl) fun a hF =>
          ls <| q1 hF rfl (e_move hF rfl) fun a hF =>
          ls <| q1 hF rfl (e_move hF rfl) fun a hF =>
          ls <| q1 hF rfl (e_ia hF Try.runUnderlying28 Try.sizeOf26 rfl rfl rfl (by omega) (((St.ld hS).rdO (.tail _ (.head _))).some (rowsV_ne (l := rows) (by omega)))) fun a hF =>
          ls <| q1 hF rfl (e_ld hF Try.isAgg26 rfl ((St.ld hS).elO (.tail _ (.head _)) (rowsV_get (l := rows) (k := k) (by omega)))) fun a hF =>
          ls <| c1 hF rfl Try.call11 (image_c _ _ _ _ (memA_read (hS.ok _ (.head _)) (hS.hs _ (.head _)) hf) hi _ _ _ (hS.rdRows (.tail _ (.tail _ (.head _))) _ (List.getElem_mem (by omega : k < rows.length))) (by rw [hR_.len _ (by omega)]; decide)) ⟨rfl, rfl, trivial⟩ (fun v w a hR hF => ?_)
        replace hR := hR.resolve_left (fun h => h.1 (hR_.ok _ (by omega)))
        obtain ⟨hyes, oab, cab, rfl, hfr⟩ := hR
        replace hS := hS.fresh hfr
        clear hfr
        refine ls <| q1 hF rfl (e_move hF rfl) fun a hF =>
          ls <| q1 hF rfl (e_ext hF rfl rfl) fun a hF =>
          ls <| q1 hF rfl (e_ext hF rfl rfl) fun a hF =>
          ls <| q1 hF rfl (e_asg hF rfl) fun a hF =>
          ls <| q1 hF rfl (e_asg hF rfl) fun a hF =>
          re <| tn <| ?_
        refine th <| rdL (sub_cons (.tail _ (.tail _ (.head _))) (sub_cons (.tail _ (.tail _ (.tail _ (.head _)))) sub_nil)) 48 hS wide fun w hS => ?_
        refine d1 (i := 0) rfl (by kernel_rfl) (by kernel_rfl) (hS.lds (fun _ hx => hx) (sub_cons (.tail _ (.tail _ (.head _))) (sub_cons (.tail _ (.tail _ (.tail _ (.head _)))) sub_nil))) hF rfl (fun _ _ _ h => h) (fun w hl => e_move hF rfl) fun a hF =>
          d1 (i := 1) rfl (by kernel_rfl) (by kernel_rfl) (hS.lds (fun _ hx => hx) (sub_cons (.tail _ (.tail _ (.head _))) (sub_cons (.tail _ (.tail _ (.tail _ (.head _)))) sub_nil))) hF rfl (fun _ _ _ h => h) (fun w hl => e_move hF rfl) fun a hF =>
          da1 (i := 2) (by kernel_rfl) ?_
        refine di (i := 2) rfl <| c1 hF rfl Try.call12 (intsF _ _ _ _ _ _ _ _ _ (hS.rdO (.tail _ (.tail _ (.tail _ (.tail _ (.tail _ (.head _))))))) (hS.rdO (.head _)) (by rw [imgUp_len, hG.k4]; decide) (imgUp_len _ _ _).symm (imgUp_len _ _ _).symm (hR_.dist k i (by omega) (by omega) (by omega))) ⟨rfl, rfl, trivial⟩ (fun v w a hR hF => ?_)
        obtain ⟨rfl, hk⟩ := hR
        replace hS := hS.pass hk
        clear hk
        refine ⟨fun _ => (hS.lds (fun _ hx => hx) (sub_cons (.tail _ (.tail _ (.head _))) (sub_cons (.tail _ (.tail _ (.tail _ (.head _)))) sub_nil))), ?_⟩
        refine d1 (i := 3) rfl (by kernel_rfl) (by kernel_rfl) (hS.lds (fun _ hx => hx) (sub_cons (.tail _ (.tail _ (.head _))) (sub_cons (.tail _ (.tail _ (.tail _ (.head _)))) sub_nil))) hF rfl (fun _ _ _ h => h) (fun w hl => e_move hF rfl) fun a hF =>
          d1g (i := 4) rfl (by kernel_rfl) (by kernel_rfl) (hS.lds (fun _ hx => hx) (sub_cons (.tail _ (.tail _ (.head _))) (sub_cons (.tail _ (.tail _ (.tail _ (.head _)))) sub_nil))) hF rfl rfl rfl (fun _ _ _ h => h) (fun w hl => e_move hF rfl) fun a hF =>
          d1g (i := 5) rfl (by kernel_rfl) (by kernel_rfl) (hS.lds (fun _ hx => hx) (sub_cons (.tail _ (.tail _ (.head _))) (sub_cons (.tail _ (.tail _ (.tail _ (.head _)))) sub_nil))) hF rfl rfl rfl (fun _ _ _ h => h) (fun w hl => e_move hF rfl) fun a hF =>
          d1g (i := 6) rfl (by kernel_rfl) (by kernel_rfl) (hS.lds (fun _ hx => hx) (sub_cons (.tail _ (.tail _ (.head _))) (sub_cons (.tail _ (.tail _ (.tail _ (.head _)))) sub_nil))) hF rfl rfl rfl (fun _ _ _ h => h) (fun w hl => e_ia hF Try.runUnderlying28 Try.sizeOf26 rfl rfl rfl (by omega) ((hl.rdO (.head _)).some (rowsV_ne (l := rows) (by omega)))) fun a hF =>
          d1g (i := 7) rfl (by kernel_rfl) (by kernel_rfl) (hS.lds (fun _ hx => hx) (sub_cons (.tail _ (.tail _ (.head _))) (sub_cons (.tail _ (.tail _ (.tail _ (.head _)))) sub_nil))) hF rfl rfl rfl (fun _ _ _ h => h) (fun w hl => e_ld hF Try.isAgg26 rfl (hl.elO (.head _) (rowsV_get (l := rows) (k := k) (by omega)))) fun a hF =>
          d1g (i := 8) rfl (by kernel_rfl) (by kernel_rfl) (hS.lds (fun _ hx => hx) (sub_cons (.tail _ (.tail _ (.head _))) (sub_cons (.tail _ (.tail _ (.tail _ (.head _)))) sub_nil))) hF rfl rfl rfl (fun _ _ _ h => h) (fun w hl => e_ia hF Try.runUnderlying26 Try.sizeOf3 rfl rfl rfl (by rw [hR_.len _ (by omega)]; decide) ((hl.rdRows (.tail _ (.head _)) _ (List.getElem_mem (by omega : k < rows.length))).some (ints_ne (by rw [hR_.len _ (by omega)]; decide)))) fun a hF =>
          d1g (i := 9) rfl (by kernel_rfl) (by kernel_rfl) (hS.lds (fun _ hx => hx) (sub_cons (.tail _ (.tail _ (.head _))) (sub_cons (.tail _ (.tail _ (.tail _ (.head _)))) sub_nil))) hF rfl rfl rfl (fun _ _ _ h => h) (fun w hl => e_ld hF Try.isAgg3 rfl (elR (hl.rdRows (.tail _ (.head _)) _ (List.getElem_mem (by omega : k < rows.length))) (ints_getD (l := rows[k].xs) (k := 0) (by rw [hR_.len _ (by omega)]; decide)))) fun a hF =>
          d1g (i := 10) rfl (by kernel_rfl) (by kernel_rfl) (hS.lds (fun _ hx => hx) (sub_cons (.tail _ (.tail _ (.head _))) (sub_cons (.tail _ (.tail _ (.tail _ (.head _)))) sub_nil))) hF rfl rfl rfl (fun _ _ _ h => h) (fun w hl => e_move hF rfl) fun a hF =>
          d1g (i := 11) rfl (by kernel_rfl) (by kernel_rfl) (hS.lds (fun _ hx => hx) (sub_cons (.tail _ (.tail _ (.head _))) (sub_cons (.tail _ (.tail _ (.tail _ (.head _)))) sub_nil))) hF rfl rfl rfl (fun _ _ _ h => h) (fun w hl => e_move hF rfl) fun a hF =>
          d1g (i := 12) rfl (by kernel_rfl) (by kernel_rfl) (hS.lds (fun _ hx => hx) (sub_cons (.tail _ (.tail _ (.head _))) (sub_cons (.tail _ (.tail _ (.tail _ (.head _)))) sub_nil))) hF rfl rfl rfl (fun _ _ _ h => h) (fun w hl => e_ia hF Try.runUnderlying28 Try.sizeOf26 rfl rfl rfl (by omega) ((hl.rdO (.head _)).some (rowsV_ne (l := rows) (by omega)))) fun a hF =>
          d1g (i := 13) rfl (by kernel_rfl) (by kernel_rfl) (hS.lds (fun _ hx => hx) (sub_cons (.tail _ (.tail _ (.head _))) (sub_cons (.tail _ (.tail _ (.tail _ (.head _)))) sub_nil))) hF rfl rfl rfl (fun _ _ _ h => h) (fun w hl => e_ld hF Try.isAgg26 rfl (hl.elO (.head _) (rowsV_get (l := rows) (k := i) (by omega)))) fun a hF =>
          d1g (i := 14) rfl (by kernel_rfl) (by kernel_rfl) (hS.lds (fun _ hx => hx) (sub_cons (.tail _ (.tail _ (.head _))) (sub_cons (.tail _ (.tail _ (.tail _ (.head _)))) sub_nil))) hF rfl rfl rfl (fun _ _ _ h => h) (fun w hl => e_ia hF Try.runUnderlying26 Try.sizeOf3 rfl rfl rfl (by rw [hR_.len _ (by omega)]; decide) ((hl.rdRows (.tail _ (.head _)) _ (List.getElem_mem (by omega : i < rows.length))).some (ints_ne (by rw [hR_.len _ (by omega)]; decide)))) fun a hF =>
          d1g (i := 15) rfl (by kernel_rfl) (by kernel_rfl) (hS.lds (fun _ hx => hx) (sub_cons (.tail _ (.tail _ (.head _))) (sub_cons (.tail _ (.tail _ (.tail _ (.head _)))) sub_nil))) hF rfl rfl rfl (fun _ _ _ h => h) (fun w hl => e_ld hF Try.isAgg3 rfl (elR (hl.rdRows (.tail _ (.head _)) _ (List.getElem_mem (by omega : i < rows.length))) (ints_getD (l := rows[i].xs) (k := 0) (by rw [hR_.len _ (by omega)]; decide)))) fun a hF =>
          d1g (i := 16) rfl (by kernel_rfl) (by kernel_rfl) (hS.lds (fun _ hx => hx) (sub_cons (.tail _ (.tail _ (.head _))) (sub_cons (.tail _ (.tail _ (.tail _ (.head _)))) sub_nil))) hF rfl rfl rfl (fun _ _ _ h => h) (fun w hl => e_as (e_gtr hF rfl rfl) (congrArg Value.bool (decide_eq_false (by have := (hR_.lt k i (by omega) (by omega) (by omega)).1; omega)))) fun a hF =>
          d1 (i := 17) rfl (by kernel_rfl) (by kernel_rfl) (hS.lds (fun _ hx => hx) (sub_cons (.tail _ (.tail _ (.head _))) (sub_cons (.tail _ (.tail _ (.tail _ (.head _)))) sub_nil))) hF rfl (fun _ _ _ h => h) (fun w hl => e_pickF hF rfl rfl) fun a hF =>
          d1 (i := 18) rfl (by kernel_rfl) (by kernel_rfl) (hS.lds (fun _ hx => hx) (sub_cons (.tail _ (.tail _ (.head _))) (sub_cons (.tail _ (.tail _ (.tail _ (.head _)))) sub_nil))) hF rfl (fun _ _ _ h => h) (fun w hl => e_move hF rfl) fun a hF =>
          d1g (i := 19) rfl (by kernel_rfl) (by kernel_rfl) (hS.lds (fun _ hx => hx) (sub_cons (.tail _ (.tail _ (.head _))) (sub_cons (.tail _ (.tail _ (.tail _ (.head _)))) sub_nil))) hF rfl rfl rfl (fun _ _ _ h => h) (fun w hl => e_move hF rfl) fun a hF =>
          d1g (i := 20) rfl (by kernel_rfl) (by kernel_rfl) (hS.lds (fun _ hx => hx) (sub_cons (.tail _ (.tail _ (.head _))) (sub_cons (.tail _ (.tail _ (.tail _ (.head _)))) sub_nil))) hF rfl rfl rfl (fun _ _ _ h => h) (fun w hl => e_move hF rfl) fun a hF =>
          d1g (i := 21) rfl (by kernel_rfl) (by kernel_rfl) (hS.lds (fun _ hx => hx) (sub_cons (.tail _ (.tail _ (.head _))) (sub_cons (.tail _ (.tail _ (.tail _ (.head _)))) sub_nil))) hF rfl rfl rfl (fun _ _ _ h => h) (fun w hl => e_ia hF Try.runUnderlying28 Try.sizeOf26 rfl rfl rfl (by omega) ((hl.rdO (.head _)).some (rowsV_ne (l := rows) (by omega)))) fun a hF =>
          d1g (i := 22) rfl (by kernel_rfl) (by kernel_rfl) (hS.lds (fun _ hx => hx) (sub_cons (.tail _ (.tail _ (.head _))) (sub_cons (.tail _ (.tail _ (.tail _ (.head _)))) sub_nil))) hF rfl rfl rfl (fun _ _ _ h => h) (fun w hl => e_ld hF Try.isAgg26 rfl (hl.elO (.head _) (rowsV_get (l := rows) (k := k) (by omega)))) fun a hF =>
          d1g (i := 23) rfl (by kernel_rfl) (by kernel_rfl) (hS.lds (fun _ hx => hx) (sub_cons (.tail _ (.tail _ (.head _))) (sub_cons (.tail _ (.tail _ (.tail _ (.head _)))) sub_nil))) hF rfl rfl rfl (fun _ _ _ h => h) (fun w hl => e_ia hF Try.runUnderlying26 Try.sizeOf3 rfl rfl rfl (by rw [hR_.len _ (by omega)]; decide) ((hl.rdRows (.tail _ (.head _)) _ (List.getElem_mem (by omega : k < rows.length))).some (ints_ne (by rw [hR_.len _ (by omega)]; decide)))) fun a hF =>
          d1g (i := 24) rfl (by kernel_rfl) (by kernel_rfl) (hS.lds (fun _ hx => hx) (sub_cons (.tail _ (.tail _ (.head _))) (sub_cons (.tail _ (.tail _ (.tail _ (.head _)))) sub_nil))) hF rfl rfl rfl (fun _ _ _ h => h) (fun w hl => e_ld hF Try.isAgg3 rfl (elR (hl.rdRows (.tail _ (.head _)) _ (List.getElem_mem (by omega : k < rows.length))) (ints_getD (l := rows[k].xs) (k := 0) (by rw [hR_.len _ (by omega)]; decide)))) fun a hF =>
          d1g (i := 25) rfl (by kernel_rfl) (by kernel_rfl) (hS.lds (fun _ hx => hx) (sub_cons (.tail _ (.tail _ (.head _))) (sub_cons (.tail _ (.tail _ (.tail _ (.head _)))) sub_nil))) hF rfl rfl rfl (fun _ _ _ h => h) (fun w hl => e_move hF rfl) fun a hF =>
          d1g (i := 26) rfl (by kernel_rfl) (by kernel_rfl) (hS.lds (fun _ hx => hx) (sub_cons (.tail _ (.tail _ (.head _))) (sub_cons (.tail _ (.tail _ (.tail _ (.head _)))) sub_nil))) hF rfl rfl rfl (fun _ _ _ h => h) (fun w hl => e_move hF rfl) fun a hF =>
          d1g (i := 27) rfl (by kernel_rfl) (by kernel_rfl) (hS.lds (fun _ hx => hx) (sub_cons (.tail _ (.tail _ (.head _))) (sub_cons (.tail _ (.tail _ (.tail _ (.head _)))) sub_nil))) hF rfl rfl rfl (fun _ _ _ h => h) (fun w hl => e_ia hF Try.runUnderlying28 Try.sizeOf26 rfl rfl rfl (by omega) ((hl.rdO (.head _)).some (rowsV_ne (l := rows) (by omega)))) fun a hF =>
          d1g (i := 28) rfl (by kernel_rfl) (by kernel_rfl) (hS.lds (fun _ hx => hx) (sub_cons (.tail _ (.tail _ (.head _))) (sub_cons (.tail _ (.tail _ (.tail _ (.head _)))) sub_nil))) hF rfl rfl rfl (fun _ _ _ h => h) (fun w hl => e_ld hF Try.isAgg26 rfl (hl.elO (.head _) (rowsV_get (l := rows) (k := i) (by omega)))) fun a hF =>
          d1g (i := 29) rfl (by kernel_rfl) (by kernel_rfl) (hS.lds (fun _ hx => hx) (sub_cons (.tail _ (.tail _ (.head _))) (sub_cons (.tail _ (.tail _ (.tail _ (.head _)))) sub_nil))) hF rfl rfl rfl (fun _ _ _ h => h) (fun w hl => e_ia hF Try.runUnderlying26 Try.sizeOf3 rfl rfl rfl (by rw [hR_.len _ (by omega)]; decide) ((hl.rdRows (.tail _ (.head _)) _ (List.getElem_mem (by omega : i < rows.length))).some (ints_ne (by rw [hR_.len _ (by omega)]; decide)))) fun a hF =>
          d1g (i := 30) rfl (by kernel_rfl) (by kernel_rfl) (hS.lds (fun _ hx => hx) (sub_cons (.tail _ (.tail _ (.head _))) (sub_cons (.tail _ (.tail _ (.tail _ (.head _)))) sub_nil))) hF rfl rfl rfl (fun _ _ _ h => h) (fun w hl => e_ld hF Try.isAgg3 rfl (elR (hl.rdRows (.tail _ (.head _)) _ (List.getElem_mem (by omega : i < rows.length))) (ints_getD (l := rows[i].xs) (k := 0) (by rw [hR_.len _ (by omega)]; decide)))) fun a hF =>
          d1g (i := 31) rfl (by kernel_rfl) (by kernel_rfl) (hS.lds (fun _ hx => hx) (sub_cons (.tail _ (.tail _ (.head _))) (sub_cons (.tail _ (.tail _ (.tail _ (.head _)))) sub_nil))) hF rfl rfl rfl (fun _ _ _ h => h) (fun w hl => e_eql hF rfl rfl) fun a hF =>
          d1g (i := 32) rfl (by kernel_rfl) (by kernel_rfl) (hS.lds (fun _ hx => hx) (sub_cons (.tail _ (.tail _ (.head _))) (sub_cons (.tail _ (.tail _ (.tail _ (.head _)))) sub_nil))) hF rfl rfl rfl (fun _ _ _ h => h) (fun w hl => e_move hF rfl) fun a hF =>
          Fr.split hF (t := 136) rfl (fun hb hF => ?_) (fun hb hF => ?_)
        ·
          replace hb := of_decide_eq_true hb
          refine d1g (i := 33) rfl (by kernel_rfl) (by kernel_rfl) (hS.lds (fun _ hx => hx) (sub_cons (.tail _ (.tail _ (.head _))) (sub_cons (.tail _ (.tail _ (.tail _ (.head _)))) sub_nil))) hF rfl rfl rfl (fun _ _ _ h => h) (fun w hl => e_move hF rfl) fun a hF =>
            d1g (i := 34) rfl (by kernel_rfl) (by kernel_rfl) (hS.lds (fun _ hx => hx) (sub_cons (.tail _ (.tail _ (.head _))) (sub_cons (.tail _ (.tail _ (.tail _ (.head _)))) sub_nil))) hF rfl rfl rfl (fun _ _ _ h => h) (fun w hl => e_move hF rfl) fun a hF =>
            d1g (i := 35) rfl (by kernel_rfl) (by kernel_rfl) (hS.lds (fun _ hx => hx) (sub_cons (.tail _ (.tail _ (.head _))) (sub_cons (.tail _ (.tail _ (.tail _ (.head _)))) sub_nil))) hF rfl rfl rfl (fun _ _ _ h => h) (fun w hl => e_ia hF Try.runUnderlying28 Try.sizeOf26 rfl rfl rfl (by omega) ((hl.rdO (.head _)).some (rowsV_ne (l := rows) (by omega)))) fun a hF =>
            d1g (i := 36) rfl (by kernel_rfl) (by kernel_rfl) (hS.lds (fun _ hx => hx) (sub_cons (.tail _ (.tail _ (.head _))) (sub_cons (.tail _ (.tail _ (.tail _ (.head _)))) sub_nil))) hF rfl rfl rfl (fun _ _ _ h => h) (fun w hl => e_ld hF Try.isAgg26 rfl (hl.elO (.head _) (rowsV_get (l := rows) (k := k) (by omega)))) fun a hF =>
            d1g (i := 37) rfl (by kernel_rfl) (by kernel_rfl) (hS.lds (fun _ hx => hx) (sub_cons (.tail _ (.tail _ (.head _))) (sub_cons (.tail _ (.tail _ (.tail _ (.head _)))) sub_nil))) hF rfl rfl rfl (fun _ _ _ h => h) (fun w hl => e_ia hF Try.runUnderlying26 Try.sizeOf3 rfl rfl rfl (by rw [hR_.len _ (by omega)]; decide) ((hl.rdRows (.tail _ (.head _)) _ (List.getElem_mem (by omega : k < rows.length))).some (ints_ne (by rw [hR_.len _ (by omega)]; decide)))) fun a hF =>
            d1g (i := 38) rfl (by kernel_rfl) (by kernel_rfl) (hS.lds (fun _ hx => hx) (sub_cons (.tail _ (.tail _ (.head _))) (sub_cons (.tail _ (.tail _ (.tail _ (.head _)))) sub_nil))) hF rfl rfl rfl (fun _ _ _ h => h) (fun w hl => e_ld hF Try.isAgg3 rfl (elR (hl.rdRows (.tail _ (.head _)) _ (List.getElem_mem (by omega : k < rows.length))) (ints_getD (l := rows[k].xs) (k := 1) (by rw [hR_.len _ (by omega)]; decide)))) fun a hF =>
            d1g (i := 39) rfl (by kernel_rfl) (by kernel_rfl) (hS.lds (fun _ hx => hx) (sub_cons (.tail _ (.tail _ (.head _))) (sub_cons (.tail _ (.tail _ (.tail _ (.head _)))) sub_nil))) hF rfl rfl rfl (fun _ _ _ h => h) (fun w hl => e_move hF rfl) fun a hF =>
            d1g (i := 40) rfl (by kernel_rfl) (by kernel_rfl) (hS.lds (fun _ hx => hx) (sub_cons (.tail _ (.tail _ (.head _))) (sub_cons (.tail _ (.tail _ (.tail _ (.head _)))) sub_nil))) hF rfl rfl rfl (fun _ _ _ h => h) (fun w hl => e_move hF rfl) fun a hF =>
            d1g (i := 41) rfl (by kernel_rfl) (by kernel_rfl) (hS.lds (fun _ hx => hx) (sub_cons (.tail _ (.tail _ (.head _))) (sub_cons (.tail _ (.tail _ (.tail _ (.head _)))) sub_nil))) hF rfl rfl rfl (fun _ _ _ h => h) (fun w hl => e_ia hF Try.runUnderlying28 Try.sizeOf26 rfl rfl rfl (by omega) ((hl.rdO (.head _)).some (rowsV_ne (l := rows) (by omega)))) fun a hF =>
            d1g (i := 42) rfl (by kernel_rfl) (by kernel_rfl) (hS.lds (fun _ hx => hx) (sub_cons (.tail _ (.tail _ (.head _))) (sub_cons (.tail _ (.tail _ (.tail _ (.head _)))) sub_nil))) hF rfl rfl rfl (fun _ _ _ h => h) (fun w hl => e_ld hF Try.isAgg26 rfl (hl.elO (.head _) (rowsV_get (l := rows) (k := i) (by omega)))) fun a hF =>
            d1g (i := 43) rfl (by kernel_rfl) (by kernel_rfl) (hS.lds (fun _ hx => hx) (sub_cons (.tail _ (.tail _ (.head _))) (sub_cons (.tail _ (.tail _ (.tail _ (.head _)))) sub_nil))) hF rfl rfl rfl (fun _ _ _ h => h) (fun w hl => e_ia hF Try.runUnderlying26 Try.sizeOf3 rfl rfl rfl (by rw [hR_.len _ (by omega)]; decide) ((hl.rdRows (.tail _ (.head _)) _ (List.getElem_mem (by omega : i < rows.length))).some (ints_ne (by rw [hR_.len _ (by omega)]; decide)))) fun a hF =>
            d1g (i := 44) rfl (by kernel_rfl) (by kernel_rfl) (hS.lds (fun _ hx => hx) (sub_cons (.tail _ (.tail _ (.head _))) (sub_cons (.tail _ (.tail _ (.tail _ (.head _)))) sub_nil))) hF rfl rfl rfl (fun _ _ _ h => h) (fun w hl => e_ld hF Try.isAgg3 rfl (elR (hl.rdRows (.tail _ (.head _)) _ (List.getElem_mem (by omega : i < rows.length))) (ints_getD (l := rows[i].xs) (k := 1) (by rw [hR_.len _ (by omega)]; decide)))) fun a hF =>
            d1g (i := 45) rfl (by kernel_rfl) (by kernel_rfl) (hS.lds (fun _ hx => hx) (sub_cons (.tail _ (.tail _ (.head _))) (sub_cons (.tail _ (.tail _ (.tail _ (.head _)))) sub_nil))) hF rfl rfl rfl (fun _ _ _ h => h) (fun w hl => e_as (e_geq hF rfl rfl) (congrArg Value.bool (decide_eq_false (by have := (hR_.lt k i (by omega) (by omega) (by omega)).2 hb; omega)))) fun a hF =>
            d1g (i := 46) rfl (by kernel_rfl) (by kernel_rfl) (hS.lds (fun _ hx => hx) (sub_cons (.tail _ (.tail _ (.head _))) (sub_cons (.tail _ (.tail _ (.tail _ (.head _)))) sub_nil))) hF rfl rfl rfl (fun _ _ _ h => h) (fun w hl => e_pickT hF rfl rfl) fun a hF =>
            d1 (i := 47) rfl (by kernel_rfl) (by kernel_rfl) (hS.lds (fun _ hx => hx) (sub_cons (.tail _ (.tail _ (.head _))) (sub_cons (.tail _ (.tail _ (.tail _ (.head _)))) sub_nil))) hF rfl (fun _ _ _ h => h) (fun w hl => e_pickF hF rfl rfl) fun a hF =>
            de (by kernel_rfl) <| tn <| ?_
          refine cf hF rfl <| wp_skip <| bn <| tn <| ?_
          refine rg <| ls <| q1 hF rfl (e_move hF rfl) fun a hF =>
            ls <| q1 hF rfl (e_addI (r := (((k + 1) : Nat) : Int)) hF rfl rfl rfl (by omega)) fun a hF =>
            ls <| q1 hF rfl (e_asg hF rfl) fun a hF =>
            re <| tn <| ?_
          replace hS := hS.pickL (.cons (.tail .head) (.cons (.tail .head) (.cons (.tail .head) (.cons (.tail .head) (.cons (.tail .head) .nil)))))
          exact ⟨k + 1, ⟨hF.has ⟨rfl, rfl, rfl, rfl, rfl, rfl, rfl, rfl, trivial⟩, hS, (by omega)⟩, (by dsimp only; omega)⟩
        ·
          replace hb := of_decide_eq_false hb
          refine d1n (i := 33) rfl (by kernel_rfl) (by kernel_rfl) (hS.lds (fun _ hx => hx) (sub_cons (.tail _ (.tail _ (.head _))) (sub_cons (.tail _ (.tail _ (.tail _ (.head _)))) sub_nil))) hF rfl rfl rfl rfl (fun _ _ _ h => h) fun a hF =>
            d1n (i := 34) rfl (by kernel_rfl) (by kernel_rfl) (hS.lds (fun _ hx => hx) (sub_cons (.tail _ (.tail _ (.head _))) (sub_cons (.tail _ (.tail _ (.tail _ (.head _)))) sub_nil))) hF rfl rfl rfl rfl (fun _ _ _ h => h) fun a hF =>
            ?_
          refine d1n (i := 35) rfl (by kernel_rfl) (by kernel_rfl) (hS.lds (fun _ hx => hx) (sub_cons (.tail _ (.tail _ (.head _))) (sub_cons (.tail _ (.tail _ (.tail _ (.head _)))) sub_nil))) hF rfl rfl rfl rfl (fun _ _ _ h => h) fun a hF =>
            d1n (i := 36) rfl (by kernel_rfl) (by kernel_rfl) (hS.lds (fun _ hx => hx) (sub_cons (.tail _ (.tail _ (.head _))) (sub_cons (.tail _ (.tail _ (.tail _ (.head _)))) sub_nil))) hF rfl rfl rfl rfl (fun _ _ _ h => h) fun a hF =>
            d1n (i := 37) rfl (by kernel_rfl) (by kernel_rfl) (hS.lds (fun _ hx => hx) (sub_cons (.tail _ (.tail _ (.head _))) (sub_cons (.tail _ (.tail _ (.tail _ (.head _)))) sub_nil))) hF rfl rfl rfl rfl (fun _ _ _ h => h) fun a hF =>
            d1n (i := 38) rfl (by kernel_rfl) (by kernel_rfl) (hS.lds (fun _ hx => hx) (sub_cons (.tail _ (.tail _ (.head _))) (sub_cons (.tail _ (.tail _ (.tail _ (.head _)))) sub_nil))) hF rfl rfl rfl rfl (fun _ _ _ h => h) fun a hF =>
            d1n (i := 39) rfl (by kernel_rfl) (by kernel_rfl) (hS.lds (fun _ hx => hx) (sub_cons (.tail _ (.tail _ (.head _))) (sub_cons (.tail _ (.tail _ (.tail _ (.head _)))) sub_nil))) hF rfl rfl rfl rfl (fun _ _ _ h => h) fun a hF =>
            d1n (i := 40) rfl (by kernel_rfl) (by kernel_rfl) (hS.lds (fun _ hx => hx) (sub_cons (.tail _ (.tail _ (.head _))) (sub_cons (.tail _ (.tail _ (.tail _ (.head _)))) sub_nil))) hF rfl rfl rfl rfl (fun _ _ _ h => h) fun a hF =>
            ?_
          refine d1n (i := 41) rfl (by kernel_rfl) (by kernel_rfl) (hS.lds (fun _ hx => hx) (sub_cons (.tail _ (.tail _ (.head _))) (sub_cons (.tail _ (.tail _ (.tail _ (.head _)))) sub_nil))) hF rfl rfl rfl rfl (fun _ _ _ h => h) fun a hF =>
            d1n (i := 42) rfl (by kernel_rfl) (by kernel_rfl) (hS.lds (fun _ hx => hx) (sub_cons (.tail _ (.tail _ (.head _))) (sub_cons (.tail _ (.tail _ (.tail _ (.head _)))) sub_nil))) hF rfl rfl rfl rfl (fun _ _ _ h => h) fun a hF =>
            d1n (i := 43) rfl (by kernel_rfl) (by kernel_rfl) (hS.lds (fun _ hx => hx) (sub_cons (.tail _ (.tail _ (.head _))) (sub_cons (.tail _ (.tail _ (.tail _ (.head _)))) sub_nil))) hF rfl rfl rfl rfl (fun _ _ _ h => h) fun a hF =>
            d1n (i := 44) rfl (by kernel_rfl) (by kernel_rfl) (hS.lds (fun _ hx => hx) (sub_cons (.tail _ (.tail _ (.head _))) (sub_cons (.tail _ (.tail _ (.tail _ (.head _)))) sub_nil))) hF rfl rfl rfl rfl (fun _ _ _ h => h) fun a hF =>
            d1n (i := 45) rfl (by kernel_rfl) (by kernel_rfl) (hS.lds (fun _ hx => hx) (sub_cons (.tail _ (.tail _ (.head _))) (sub_cons (.tail _ (.tail _ (.tail _ (.head _)))) sub_nil))) hF rfl rfl rfl rfl (fun _ _ _ h => h) fun a hF =>
            d1g (i := 46) rfl (by kernel_rfl) (by kernel_rfl) (hS.lds (fun _ hx => hx) (sub_cons (.tail _ (.tail _ (.head _))) (sub_cons (.tail _ (.tail _ (.tail _ (.head _)))) sub_nil))) hF rfl rfl rfl (fun _ _ _ h => h) (fun w hl => e_pickF hF rfl rfl) fun a hF =>
            d1 (i := 47) rfl (by kernel_rfl) (by kernel_rfl) (hS.lds (fun _ hx => hx) (sub_cons (.tail _ (.tail _ (.head _))) (sub_cons (.tail _ (.tail _ (.tail _ (.head _)))) sub_nil))) hF rfl (fun _ _ _ h => h) (fun w hl => e_pickF hF rfl rfl) fun a hF =>
            de (by kernel_rfl) <| tn <| ?_
          refine cf hF rfl <| wp_skip <| bn <| tn <| ?_
          refine rg <| ls <| q1 hF rfl (e_move hF rfl) fun a hF =>
            ls <| q1 hF rfl (e_addI (r := (((k + 1) : Nat) : Int)) hF rfl rfl rfl (by omega)) fun a hF =>
            ls <| q1 hF rfl (e_asg hF rfl) fun a hF =>
            re <| tn <| ?_
          replace hS := hS.pickL (.cons (.tail .head) (.cons (.tail .head) (.cons (.tail .head) (.cons (.tail .head) (.cons (.tail .head) .nil)))))
          exact ⟨k + 1, ⟨hF.has ⟨rfl, rfl, rfl, rfl, rfl, rfl, rfl, rfl, trivial⟩, hS, (by omega)⟩, (by dsimp only; omega)⟩
      ·
        replace hb := Int.not_lt.1 (of_decide_eq_false hb)
        refine wp_exit <| tx <| tx <| bx <| bn <| tn <| ?_
        refine rg <| ls <| q1 hF rfl (e_move hF rfl) fun a hF =>
          ls <| q1 hF rfl (e_addI (r := (((i + 1) : Nat) : Int)) hF rfl rfl rfl (by omega)) fun a hF =>
          ls <| q1 hF rfl (e_asg hF rfl) fun a hF =>
          re <| tn <| ?_
        replace hS := hS.pickL (.cons .head (.cons .head (.cons .head (.cons .head .nil))))
        exact ⟨(i + 1, true), ⟨hF.has ⟨rfl, rfl, rfl, rfl, rfl, rfl, trivial⟩, hS, ⟨by omega, cutHit_T hinn hbb⟩⟩, (by dsimp only; omega)⟩
    ·
      refine ls <| gy hF rfl rfl <| q1 hF rfl (e_move hF rfl) fun a hF =>
        ls <| gy hF rfl rfl <| q1 hF rfl (e_move hF rfl) fun a hF =>
        ls <| gy hF rfl rfl <| c1 hF rfl Try.call12 (intsN _ _ _ _ _ _ _ _ _ (hS.rdO (.head _)) (hS.rdO (.tail _ (.tail _ (.tail _ (.tail _ (.head _)))))) (by rw [imgUp_len, hG.k4]; decide) (imgUp_len _ _ _).symm (imgUp_len _ _ _).symm) ⟨rfl, rfl, trivial⟩ (fun v w a hR hF => ?_)
      obtain ⟨rfl, hk⟩ := hR
      replace hS := hS.pass hk
      clear hk
      refine ls <| q1 hF rfl (e_pickF hF rfl rfl) fun a hF =>
        ls <| q1 hF rfl (e_asg hF rfl) fun a hF =>
        re <| tn <| ?_
      have hbb := hb
      refine th <| rg <| ls <| q1 hF rfl (e_asg hF rfl) fun a hF =>
        re <| tn <| ?_
      replace hS := hS.pickL (.cons (.tail .head) (.cons (.tail .head) (.cons (.tail .head) (.cons (.tail .head) (.cons .head .nil)))))
      refine wp_block <| lp (α := Nat) (fun (gh : Nat) a w => match gh with | k => Fr 160 [(5, .pointer (some ⟨p, 0, none⟩)), (7, .slice oor rows.length cor), (9, .slice oax m0.kept.length cax), (10, .int .i64 0), (11, .bool (decide ((imgUp m0 rows[i].xs (nlines m0)) = (imgUp m0 [((A0 : Nat) : Int), ((A1 : Nat) : Int)] (nlines m0))))), (12, .int .i64 ((i : Nat) : Int)), (13, .slice oaa m0.kept.length caa), (15, .int .i64 ((k : Nat) : Int))] a ∧ St w0 Nil [hO, hp w0] [memA p g m0, sla 26 1 oor rows.length cor (rowsV rows), bigA rowA rows, sla 3 1 oax m0.kept.length cax (ints (imgUp m0 [((A0 : Nat) : Int), ((A1 : Nat) : Int)] (nlines m0))), sla 3 1 oaa m0.kept.length caa (ints (imgUp m0 rows[i].xs (nlines m0)))] w ∧ k ≤ i) (fun (gh : Nat) => match gh with | k => i - k) 0 ⟨hF.has ⟨rfl, rfl, rfl, rfl, rfl, rfl, rfl, rfl, trivial⟩, hS, Nat.zero_le _⟩ ?_
      clear hF hS
      rintro k a w ⟨hF, hS, hki⟩
      refine th <| th <| rg <| ls <| q1 hF rfl (e_move hF rfl) fun a hF =>
        ls <| q1 hF rfl (e_move hF rfl) fun a hF =>
        ls <| q1 hF rfl (e_lss hF rfl rfl) fun a hF =>
        re <| tn <| ?_
      refine cs hF rfl (fun hb => ?_) (fun hb => ?_)
      ·
        replace hb := of_decide_eq_true hb
        refine wp_skip <| tn <| ?_
        refine th <| wp_block <| th <| rg <| ls <| q1 hF rfl (e_move hF rfl) fun a hF =>
          ls <| q1 hF rfl (e_move hF rfl) fun a hF =>
          ls <| q1 hF rfl (e_move hF rfl) fun a hF =>
          ls <| q1 hF rfl (e_ia hF Try.runUnderlying28 Try.sizeOf26 rfl rfl rfl (by omega) (((St.ld hS).rdO (.tail _ (.head _))).some (rowsV_ne (l := rows) (by omega)))) fun a hF =>
          ls <| q1 hF rfl (e_ld hF Try.isAgg26 rfl ((St.ld hS).elO (.tail _ (.head _)) (rowsV_get (l := rows) (k := k) (by omega)))) fun a hF =>
          ls <| c1 hF rfl Try.call11 (image_c _ _ _ _ (memA_read (hS.ok _ (.head _)) (hS.hs _ (.head _)) hf) hi _ _ _ (hS.rdRows (.tail _ (.tail _ (.head _))) _ (List.getElem_mem (by omega : k < rows.length))) (by rw [hR_.len _ (by omega)]; decide)) ⟨rfl, rfl, trivial⟩ (fun v w a hR hF => ?_)
        replace hR := hR.resolve_left (fun h => h.1 (hR_.ok _ (by omega)))
        obtain ⟨hyes, oab, cab, rfl, hfr⟩ := hR
        replace hS := hS.fresh hfr
        clear hfr
        refine ls <| q1 hF rfl (e_move hF rfl) fun a hF =>
          ls <| q1 hF rfl (e_ext hF rfl rfl) fun a hF =>
          ls <| q1 hF rfl (e_ext hF rfl rfl) fun a hF =>
          ls <| q1 hF rfl (e_asg hF rfl) fun a hF =>
          ls <| q1 hF rfl (e_asg hF rfl) fun a hF =>
          re <| tn <| ?_
        refine th <| rdL (sub_cons (.tail _ (.tail _ (.head _))) (sub_cons (.tail _ (.tail _ (.tail _ (.head _)))) sub_nil)) 48 hS wide fun w hS => ?_
        refine d1 (i := 0) rfl (by kernel_rfl) (by kernel_rfl) (hS.lds (fun _ hx => hx) (sub_cons (.tail _ (.tail _ (.head _))) (sub_cons (.tail _ (.tail _ (.tail _ (.head _)))) sub_nil))) hF rfl (fun _ _ _ h => h) (fun w hl => e_move hF rfl) fun a hF =>
          d1 (i := 1) rfl (by kernel_rfl) (by kernel_rfl) (hS.lds (fun _ hx => hx) (sub_cons (.tail _ (.tail _ (.head _))) (sub_cons (.tail _ (.tail _ (.tail _ (.head _)))) sub_nil))) hF rfl (fun _ _ _ h => h) (fun w hl => e_move hF rfl) fun a hF =>
          da1 (i := 2) (by kernel_rfl) ?_
        refine di (i := 2) rfl <| c1 hF rfl Try.call12 (intsF _ _ _ _ _ _ _ _ _ (hS.rdO (.tail _ (.tail _ (.tail _ (.tail _ (.tail _ (.head _))))))) (hS.rdO (.head _)) (by rw [imgUp_len, hG.k4]; decide) (imgUp_len _ _ _).symm (imgUp_len _ _ _).symm (hR_.dist k i (by omega) (by omega) (by omega))) ⟨rfl, rfl, trivial⟩ (fun v w a hR hF => ?_)
        obtain ⟨rfl, hk⟩ := hR
        replace hS := hS.pass hk
        clear hk
        refine ⟨fun _ => (hS.lds (fun _ hx => hx) (sub_cons (.tail _ (.tail _ (.head _))) (sub_cons (.tail _ (.tail _ (.tail _ (.head _)))) sub_nil))), ?_⟩
        refine d1 (i := 3) rfl (by kernel_rfl) (by kernel_rfl) (hS.lds (fun _ hx => hx) (sub_cons (.tail _ (.tail _ (.head _))) (sub_cons (.tail _ (.tail _ (.tail _ (.head _)))) sub_nil))) hF rfl (fun _ _ _ h => h) (fun w hl => e_move hF rfl) fun a hF =>
          d1g (i := 4) rfl (by kernel_rfl) (by kernel_rfl) (hS.lds (fun _ hx => hx) (sub_cons (.tail _ (.tail _ (.head _))) (sub_cons (.tail _ (.tail _ (.tail _ (.head _)))) sub_nil))) hF rfl rfl rfl (fun _ _ _ h => h) (fun w hl => e_move hF rfl) fun a hF =>
          d1g (i := 5) rfl (by kernel_rfl) (by kernel_rfl) (hS.lds (fun _ hx => hx) (sub_cons (.tail _ (.tail _ (.head _))) (sub_cons (.tail _ (.tail _ (.tail _ (.head _)))) sub_nil))) hF rfl rfl rfl (fun _ _ _ h => h) (fun w hl => e_move hF rfl) fun a hF =>
          d1g (i := 6) rfl (by kernel_rfl) (by kernel_rfl) (hS.lds (fun _ hx => hx) (sub_cons (.tail _ (.tail _ (.head _))) (sub_cons (.tail _ (.tail _ (.tail _ (.head _)))) sub_nil))) hF rfl rfl rfl (fun _ _ _ h => h) (fun w hl => e_ia hF Try.runUnderlying28 Try.sizeOf26 rfl rfl rfl (by omega) ((hl.rdO (.head _)).some (rowsV_ne (l := rows) (by omega)))) fun a hF =>
          d1g (i := 7) rfl (by kernel_rfl) (by kernel_rfl) (hS.lds (fun _ hx => hx) (sub_cons (.tail _ (.tail _ (.head _))) (sub_cons (.tail _ (.tail _ (.tail _ (.head _)))) sub_nil))) hF rfl rfl rfl (fun _ _ _ h => h) (fun w hl => e_ld hF Try.isAgg26 rfl (hl.elO (.head _) (rowsV_get (l := rows) (k := k) (by omega)))) fun a hF =>
          d1g (i := 8) rfl (by kernel_rfl) (by kernel_rfl) (hS.lds (fun _ hx => hx) (sub_cons (.tail _ (.tail _ (.head _))) (sub_cons (.tail _ (.tail _ (.tail _ (.head _)))) sub_nil))) hF rfl rfl rfl (fun _ _ _ h => h) (fun w hl => e_ia hF Try.runUnderlying26 Try.sizeOf3 rfl rfl rfl (by rw [hR_.len _ (by omega)]; decide) ((hl.rdRows (.tail _ (.head _)) _ (List.getElem_mem (by omega : k < rows.length))).some (ints_ne (by rw [hR_.len _ (by omega)]; decide)))) fun a hF =>
          d1g (i := 9) rfl (by kernel_rfl) (by kernel_rfl) (hS.lds (fun _ hx => hx) (sub_cons (.tail _ (.tail _ (.head _))) (sub_cons (.tail _ (.tail _ (.tail _ (.head _)))) sub_nil))) hF rfl rfl rfl (fun _ _ _ h => h) (fun w hl => e_ld hF Try.isAgg3 rfl (elR (hl.rdRows (.tail _ (.head _)) _ (List.getElem_mem (by omega : k < rows.length))) (ints_getD (l := rows[k].xs) (k := 0) (by rw [hR_.len _ (by omega)]; decide)))) fun a hF =>
          d1g (i := 10) rfl (by kernel_rfl) (by kernel_rfl) (hS.lds (fun _ hx => hx) (sub_cons (.tail _ (.tail _ (.head _))) (sub_cons (.tail _ (.tail _ (.tail _ (.head _)))) sub_nil))) hF rfl rfl rfl (fun _ _ _ h => h) (fun w hl => e_move hF rfl) fun a hF =>
          d1g (i := 11) rfl (by kernel_rfl) (by kernel_rfl) (hS.lds (fun _ hx => hx) (sub_cons (.tail _ (.tail _ (.head _))) (sub_cons (.tail _ (.tail _ (.tail _ (.head _)))) sub_nil))) hF rfl rfl rfl (fun _ _ _ h => h) (fun w hl => e_move hF rfl) fun a hF =>
          d1g (i := 12) rfl (by kernel_rfl) (by kernel_rfl) (hS.lds (fun _ hx => hx) (sub_cons (.tail _ (.tail _ (.head _))) (sub_cons (.tail _ (.tail _ (.tail _ (.head _)))) sub_nil))) hF rfl rfl rfl (fun _ _ _ h => h) (fun w hl => e_ia hF Try.runUnderlying28 Try.sizeOf26 rfl rfl rfl (by omega) ((hl.rdO (.head _)).some (rowsV_ne (l := rows) (by omega)))) fun a hF =>
          d1g (i := 13) rfl (by kernel_rfl) (by kernel_rfl) (hS.lds (fun _ hx => hx) (sub_cons (.tail _ (.tail _ (.head _))) (sub_cons (.tail _ (.tail _ (.tail _ (.head _)))) sub_nil))) hF rfl rfl rfl (fun _ _ _ h => h) (fun w hl => e_ld hF Try.isAgg26 rfl (hl.elO (.head _) (rowsV_get (l := rows) (k := i) (by omega)))) fun a hF =>
          d1g (i := 14) rfl (by kernel_rfl) (by kernel_rfl) (hS.lds (fun _ hx => hx) (sub_cons (.tail _ (.tail _ (.head _))) (sub_cons (.tail _ (.tail _ (.tail _ (.head _)))) sub_nil))) hF rfl rfl rfl (fun _ _ _ h => h) (fun w hl => e_ia hF Try.runUnderlying26 Try.sizeOf3 rfl rfl rfl (by rw [hR_.len _ (by omega)]; decide) ((hl.rdRows (.tail _ (.head _)) _ (List.getElem_mem (by omega : i < rows.length))).some (ints_ne (by rw [hR_.len _ (by omega)]; decide)))) fun a hF =>
          d1g (i := 15) rfl (by kernel_rfl) (by kernel_rfl) (hS.lds (fun _ hx => hx) (sub_cons (.tail _ (.tail _ (.head _))) (sub_cons (.tail _ (.tail _ (.tail _ (.head _)))) sub_nil))) hF rfl rfl rfl (fun _ _ _ h => h) (fun w hl => e_ld hF Try.isAgg3 rfl (elR (hl.rdRows (.tail _ (.head _)) _ (List.getElem_mem (by omega : i < rows.length))) (ints_getD (l := rows[i].xs) (k := 0) (by rw [hR_.len _ (by omega)]; decide)))) fun a hF =>
          d1g (i := 16) rfl (by kernel_rfl) (by kernel_rfl) (hS.lds (fun _ hx => hx) (sub_cons (.tail _ (.tail _ (.head _))) (sub_cons (.tail _ (.tail _ (.tail _ (.head _)))) sub_nil))) hF rfl rfl rfl (fun _ _ _ h => h) (fun w hl => e_as (e_gtr hF rfl rfl) (congrArg Value.bool (decide_eq_false (by have := (hR_.lt k i (by omega) (by omega) (by omega)).1; omega)))) fun a hF =>
          d1 (i := 17) rfl (by kernel_rfl) (by kernel_rfl) (hS.lds (fun _ hx => hx) (sub_cons (.tail _ (.tail _ (.head _))) (sub_cons (.tail _ (.tail _ (.tail _ (.head _)))) sub_nil))) hF rfl (fun _ _ _ h => h) (fun w hl => e_pickF hF rfl rfl) fun a hF =>
          d1 (i := 18) rfl (by kernel_rfl) (by kernel_rfl) (hS.lds (fun _ hx => hx) (sub_cons (.tail _ (.tail _ (.head _))) (sub_cons (.tail _ (.tail _ (.tail _ (.head _)))) sub_nil))) hF rfl (fun _ _ _ h => h) (fun w hl => e_move hF rfl) fun a hF =>
          d1g (i := 19) rfl (by kernel_rfl) (by kernel_rfl) (hS.lds (fun _ hx => hx) (sub_cons (.tail _ (.tail _ (.head _))) (sub_cons (.tail _ (.tail _ (.tail _ (.head _)))) sub_nil))) hF rfl rfl rfl (fun _ _ _ h => h) (fun w hl => e_move hF rfl) fun a hF =>
          d1g (i := 20) rfl (by kernel_rfl) (by kernel_rfl) (hS.lds (fun _ hx => hx) (sub_cons (.tail _ (.tail _ (.head _))) (sub_cons (.tail _ (.tail _ (.tail _ (.head _)))) sub_nil))) hF rfl rfl rfl (fun _ _ _ h => h) (fun w hl => e_move hF rfl) fun a hF =>
          d1g (i := 21) rfl (by kernel_rfl) (by kernel_rfl) (hS.lds (fun _ hx => hx) (sub_cons (.tail _ (.tail _ (.head _))) (sub_cons (.tail _ (.tail _ (.tail _ (.head _)))) sub_nil))) hF rfl rfl rfl (fun _ _ _ h => h) (fun w hl => e_ia hF Try.runUnderlying28 Try.sizeOf26 rfl rfl rfl (by omega) ((hl.rdO (.head _)).some (rowsV_ne (l := rows) (by omega)))) fun a hF =>
          d1g (i := 22) rfl (by kernel_rfl) (by kernel_rfl) (hS.lds (fun _ hx => hx) (sub_cons (.tail _ (.tail _ (.head _))) (sub_cons (.tail _ (.tail _ (.tail _ (.head _)))) sub_nil))) hF rfl rfl rfl (fun _ _ _ h => h) (fun w hl => e_ld hF Try.isAgg26 rfl (hl.elO (.head _) (rowsV_get (l := rows) (k := k) (by omega)))) fun a hF =>
          d1g (i := 23) rfl (by kernel_rfl) (by kernel_rfl) (hS.lds (fun _ hx => hx) (sub_cons (.tail _ (.tail _ (.head _))) (sub_cons (.tail _ (.tail _ (.tail _ (.head _)))) sub_nil))) hF rfl rfl rfl (fun _ _ _ h => h) (fun w hl => e_ia hF Try.runUnderlying26 Try.sizeOf3 rfl rfl rfl (by rw [hR_.len _ (by omega)]; decide) ((hl.rdRows (.tail _ (.head _)) _ (List.getElem_mem (by omega : k < rows.length))).some (ints_ne (by rw [hR_.len _ (by omega)]; decide)))) fun a hF =>
          d1g (i := 24) rfl (by kernel_rfl) (by kernel_rfl) (hS.lds (fun _ hx => hx) (sub_cons (.tail _ (.tail _ (.head _))) (sub_cons (.tail _ (.tail _ (.tail _ (.head _)))) sub_nil))) hF rfl rfl rfl (fun _ _ _ h => h) (fun w hl => e_ld hF Try.isAgg3 rfl (elR (hl.rdRows (.tail _ (.head _)) _ (List.getElem_mem (by omega : k < rows.length))) (ints_getD (l := rows[k].xs) (k := 0) (by rw [hR_.len _ (by omega)]; decide)))) fun a hF =>
          d1g (i := 25) rfl (by kernel_rfl) (by kernel_rfl) (hS.lds (fun _ hx => hx) (sub_cons (.tail _ (.tail _ (.head _))) (sub_cons (.tail _ (.tail _ (.tail _ (.head _)))) sub_nil))) hF rfl rfl rfl (fun _ _ _ h => h) (fun w hl => e_move hF rfl) fun a hF =>
          d1g (i := 26) rfl (by kernel_rfl) (by kernel_rfl) (hS.lds (fun _ hx => hx) (sub_cons (.tail _ (.tail _ (.head _))) (sub_cons (.tail _ (.tail _ (.tail _ (.head _)))) sub_nil))) hF rfl rfl rfl (fun _ _ _ h => h) (fun w hl => e_move hF rfl) fun a hF =>
          d1g (i := 27) rfl (by kernel_rfl) (by kernel_rfl) (hS.lds (fun _ hx => hx) (sub_cons (.tail _ (.tail _ (.head _))) (sub_cons (.tail _ (.tail _ (.tail _ (.head _)))) sub_nil))) hF rfl rfl rfl (fun _ _ _ h => h) (fun w hl => e_ia hF Try.runUnderlying28 Try.sizeOf26 rfl rfl rfl (by omega) ((hl.rdO (.head _)).some (rowsV_ne (l := rows) (by omega)))) fun a hF =>
          d1g (i := 28) rfl (by kernel_rfl) (by kernel_rfl) (hS.lds (fun _ hx => hx) (sub_cons (.tail _ (.tail _ (.head _))) (sub_cons (.tail _ (.tail _ (.tail _ (.head _)))) sub_nil))) hF rfl rfl rfl (fun _ _ _ h => h) (fun w hl => e_ld hF Try.isAgg26 rfl (hl.elO (.head _) (rowsV_get (l := rows) (k := i) (by omega)))) fun a hF =>
          d1g (i := 29) rfl (by kernel_rfl) (by kernel_rfl) (hS.lds (fun _ hx => hx) (sub_cons (.tail _ (.tail _ (.head _))) (sub_cons (.tail _ (.tail _ (.tail _ (.head _)))) sub_nil))) hF rfl rfl rfl (fun _ _ _ h => h) (fun w hl => e_ia hF Try.runUnderlying26 Try.sizeOf3 rfl rfl rfl (by rw [hR_.len _ (by omega)]; decide) ((hl.rdRows (.tail _ (.head _)) _ (List.getElem_mem (by omega : i < rows.length))).some (ints_ne (by rw [hR_.len _ (by omega)]; decide)))) fun a hF =>
          d1g (i := 30) rfl (by kernel_rfl) (by kernel_rfl) (hS.lds (fun _ hx => hx) (sub_cons (.tail _ (.tail _ (.head _))) (sub_cons (.tail _ (.tail _ (.tail _ (.head _)))) sub_nil))) hF rfl rfl rfl (fun _ _ _ h => h) (fun w hl => e_ld hF Try.isAgg3 rfl (elR (hl.rdRows (.tail _ (.head _)) _ (List.getElem_mem (by omega : i < rows.length))) (ints_getD (l := rows[i].xs) (k := 0) (by rw [hR_.len _ (by omega)]; decide)))) fun a hF =>
          d1g (i := 31) rfl (by kernel_rfl) (by kernel_rfl) (hS.lds (fun _ hx => hx) (sub_cons (.tail _ (.tail _ (.head _))) (sub_cons (.tail _ (.tail _ (.tail _ (.head _)))) sub_nil))) hF rfl rfl rfl (fun _ _ _ h => h) (fun w hl => e_eql hF rfl rfl) fun a hF =>
          d1g (i := 32) rfl (by kernel_rfl) (by kernel_rfl) (hS.lds (fun _ hx => hx) (sub_cons (.tail _ (.tail _ (.head _))) (sub_cons (.tail _ (.tail _ (.tail _ (.head _)))) sub_nil))) hF rfl rfl rfl (fun _ _ _ h => h) (fun w hl => e_move hF rfl) fun a hF =>
          Fr.split hF (t := 136) rfl (fun hb hF => ?_) (fun hb hF => ?_)
        ·
          replace hb := of_decide_eq_true hb
          refine d1g (i := 33) rfl (by kernel_rfl) (by kernel_rfl) (hS.lds (fun _ hx => hx) (sub_cons (.tail _ (.tail _ (.head _))) (sub_cons (.tail _ (.tail _ (.tail _ (.head _)))) sub_nil))) hF rfl rfl rfl (fun _ _ _ h => h) (fun w hl => e_move hF rfl) fun a hF =>
            d1g (i := 34) rfl (by kernel_rfl) (by kernel_rfl) (hS.lds (fun _ hx => hx) (sub_cons (.tail _ (.tail _ (.head _))) (sub_cons (.tail _ (.tail _ (.tail _ (.head _)))) sub_nil))) hF rfl rfl rfl (fun _ _ _ h => h) (fun w hl => e_move hF rfl) fun a hF =>
            d1g (i := 35) rfl (by kernel_rfl) (by kernel_rfl) (hS.lds (fun _ hx => hx) (sub_cons (.tail _ (.tail _ (.head _))) (sub_cons (.tail _ (.tail _ (.tail _ (.head _)))) sub_nil))) hF rfl rfl rfl (fun _ _ _ h => h) (fun w hl => e_ia hF Try.runUnderlying28 Try.sizeOf26 rfl rfl rfl (by omega) ((hl.rdO (.head _)).some (rowsV_ne (l := rows) (by omega)))) fun a hF =>
            d1g (i := 36) rfl (by kernel_rfl) (by kernel_rfl) (hS.lds (fun _ hx => hx) (sub_cons (.tail _ (.tail _ (.head _))) (sub_cons (.tail _ (.tail _ (.tail _ (.head _)))) sub_nil))) hF rfl rfl rfl (fun _ _ _ h => h) (fun w hl => e_ld hF Try.isAgg26 rfl (hl.elO (.head _) (rowsV_get (l := rows) (k := k) (by omega)))) fun a hF =>
            d1g (i := 37) rfl (by kernel_rfl) (by kernel_rfl) (hS.lds (fun _ hx => hx) (sub_cons (.tail _ (.tail _ (.head _))) (sub_cons (.tail _ (.tail _ (.tail _ (.head _)))) sub_nil))) hF rfl rfl rfl (fun _ _ _ h => h) (fun w hl => e_ia hF Try.runUnderlying26 Try.sizeOf3 rfl rfl rfl (by rw [hR_.len _ (by omega)]; decide) ((hl.rdRows (.tail _ (.head _)) _ (List.getElem_mem (by omega : k < rows.length))).some (ints_ne (by rw [hR_.len _ (by omega)]; decide)))) fun a hF =>
            d1g (i := 38) rfl (by kernel_rfl) (by kernel_rfl) (hS.lds (fun _ hx => hx) (sub_cons (.tail _ (.tail _ (.head _))) (sub_cons (.tail _ (.tail _ (.tail _ (.head _)))) sub_nil))) hF rfl rfl rfl (fun _ _ _ h => h) (fun w hl => e_ld hF Try.isAgg3 rfl (elR (hl.rdRows (.tail _ (.head _)) _ (List.getElem_mem (by omega : k < rows.length))) (ints_getD (l := rows[k].xs) (k := 1) (by rw [hR_.len _ (by omega)]; decide)))) fun a hF =>
            d1g (i := 39) rfl (by kernel_rfl) (by kernel_rfl) (hS.lds (fun _ hx => hx) (sub_cons (.tail _ (.tail _ (.head _))) (sub_cons (.tail _ (.tail _ (.tail _ (.head _)))) sub_nil))) hF rfl rfl rfl (fun _ _ _ h => h) (fun w hl => e_move hF rfl) fun a hF =>
            d1g (i := 40) rfl (by kernel_rfl) (by kernel_rfl) (hS.lds (fun _ hx => hx) (sub_cons (.tail _ (.tail _ (.head _))) (sub_cons (.tail _ (.tail _ (.tail _ (.head _)))) sub_nil))) hF rfl rfl rfl (fun _ _ _ h => h) (fun w hl => e_move hF rfl) fun a hF =>
            d1g (i := 41) rfl (by kernel_rfl) (by kernel_rfl) (hS.lds (fun _ hx => hx) (sub_cons (.tail _ (.tail _ (.head _))) (sub_cons (.tail _ (.tail _ (.tail _ (.head _)))) sub_nil))) hF rfl rfl rfl (fun _ _ _ h => h) (fun w hl => e_ia hF Try.runUnderlying28 Try.sizeOf26 rfl rfl rfl (by omega) ((hl.rdO (.head _)).some (rowsV_ne (l := rows) (by omega)))) fun a hF =>
            d1g (i := 42) rfl (by kernel_rfl) (by kernel_rfl) (hS.lds (fun _ hx => hx) (sub_cons (.tail _ (.tail _ (.head _))) (sub_cons (.tail _ (.tail _ (.tail _ (.head _)))) sub_nil))) hF rfl rfl rfl (fun _ _ _ h => h) (fun w hl => e_ld hF Try.isAgg26 rfl (hl.elO (.head _) (rowsV_get (l := rows) (k := i) (by omega)))) fun a hF =>
            d1g (i := 43) rfl (by kernel_rfl) (by kernel_rfl) (hS.lds (fun _ hx => hx) (sub_cons (.tail _ (.tail _ (.head _))) (sub_cons (.tail _ (.tail _ (.tail _ (.head _)))) sub_nil))) hF rfl rfl rfl (fun _ _ _ h => h) (fun w hl => e_ia hF Try.runUnderlying26 Try.sizeOf3 rfl rfl rfl (by rw [hR_.len _ (by omega)]; decide) ((hl.rdRows (.tail _ (.head _)) _ (List.getElem_mem (by omega : i < rows.length))).some (ints_ne (by rw [hR_.len _ (by omega)]; decide)))) fun a hF =>
            d1g (i := 44) rfl (by kernel_rfl) (by kernel_rfl) (hS.lds (fun _ hx => hx) (sub_cons (.tail _ (.tail _ (.head _))) (sub_cons (.tail _ (.tail _ (.tail _ (.head _)))) sub_nil))) hF rfl rfl rfl (fun _ _ _ h => h) (fun w hl => e_ld hF Try.isAgg3 rfl (elR (hl.rdRows (.tail _ (.head _)) _ (List.getElem_mem (by omega : i < rows.length))) (ints_getD (l := rows[i].xs) (k := 1) (by rw [hR_.len _ (by omega)]; decide)))) fun a hF =>
            d1g (i := 45) rfl (by kernel_rfl) (by kernel_rfl) (hS.lds (fun _ hx => hx) (sub_cons (.tail _ (.tail _ (.head _))) (sub_cons (.tail _ (.tail _ (.tail _ (.head _)))) sub_nil))) hF rfl rfl rfl (fun _ _ _ h => h) (fun w hl => e_as (e_geq hF rfl rfl) (congrArg Value.bool (decide_eq_false (by have := (hR_.lt k i (by omega) (by omega) (by omega)).2 hb; omega)))) fun a hF =>
            d1g (i := 46) rfl (by kernel_rfl) (by kernel_rfl) (hS.lds (fun _ hx => hx) (sub_cons (.tail _ (.tail _ (.head _))) (sub_cons (.tail _ (.tail _ (.tail _ (.head _)))) sub_nil))) hF rfl rfl rfl (fun _ _ _ h => h) (fun w hl => e_pickT hF rfl rfl) fun a hF =>
            d1 (i := 47) rfl (by kernel_rfl) (by kernel_rfl) (hS.lds (fun _ hx => hx) (sub_cons (.tail _ (.tail _ (.head _))) (sub_cons (.tail _ (.tail _ (.tail _ (.head _)))) sub_nil))) hF rfl (fun _ _ _ h => h) (fun w hl => e_pickF hF rfl rfl) fun a hF =>
            de (by kernel_rfl) <| tn <| ?_
          refine cf hF rfl <| wp_skip <| bn <| tn <| ?_
          refine rg <| ls <| q1 hF rfl (e_move hF rfl) fun a hF =>
            ls <| q1 hF rfl (e_addI (r := (((k + 1) : Nat) : Int)) hF rfl rfl rfl (by omega)) fun a hF =>
            ls <| q1 hF rfl (e_asg hF rfl) fun a hF =>
            re <| tn <| ?_
          replace hS := hS.pickL (.cons (.tail .head) (.cons (.tail .head) (.cons (.tail .head) (.cons (.tail .head) (.cons (.tail .head) .nil)))))
          exact ⟨k + 1, ⟨hF.has ⟨rfl, rfl, rfl, rfl, rfl, rfl, rfl, rfl, trivial⟩, hS, (by omega)⟩, (by dsimp only; omega)⟩
        ·
          replace hb := of_decide_eq_false hb
          refine d1n (i := 33) rfl (by kernel_rfl) (by kernel_rfl) (hS.lds (fun _ hx => hx) (sub_cons (.tail _ (.tail _ (.head _))) (sub_cons (.tail _ (.tail _ (.tail _ (.head _)))) sub_nil))) hF rfl rfl rfl rfl (fun _ _ _ h => h) fun a hF =>
            d1n (i := 34) rfl (by kernel_rfl) (by kernel_rfl) (hS.lds (fun _ hx => hx) (sub_cons (.tail _ (.tail _ (.head _))) (sub_cons (.tail _ (.tail _ (.tail _ (.head _)))) sub_nil))) hF rfl rfl rfl rfl (fun _ _ _ h => h) fun a hF =>
            ?_
          refine d1n (i := 35) rfl (by kernel_rfl) (by kernel_rfl) (hS.lds (fun _ hx => hx) (sub_cons (.tail _ (.tail _ (.head _))) (sub_cons (.tail _ (.tail _ (.tail _ (.head _)))) sub_nil))) hF rfl rfl rfl rfl (fun _ _ _ h => h) fun a hF =>
            d1n (i := 36) rfl (by kernel_rfl) (by kernel_rfl) (hS.lds (fun _ hx => hx) (sub_cons (.tail _ (.tail _ (.head _))) (sub_cons (.tail _ (.tail _ (.tail _ (.head _)))) sub_nil))) hF rfl rfl rfl rfl (fun _ _ _ h => h) fun a hF =>
            d1n (i := 37) rfl (by kernel_rfl) (by kernel_rfl) (hS.lds (fun _ hx => hx) (sub_cons (.tail _ (.tail _ (.head _))) (sub_cons (.tail _ (.tail _ (.tail _ (.head _)))) sub_nil))) hF rfl rfl rfl rfl (fun _ _ _ h => h) fun a hF =>
            d1n (i := 38) rfl (by kernel_rfl) (by kernel_rfl) (hS.lds (fun _ hx => hx) (sub_cons (.tail _ (.tail _ (.head _))) (sub_cons (.tail _ (.tail _ (.tail _ (.head _)))) sub_nil))) hF rfl rfl rfl rfl (fun _ _ _ h => h) fun a hF =>
            d1n (i := 39) rfl (by kernel_rfl) (by kernel_rfl) (hS.lds (fun _ hx => hx) (sub_cons (.tail _ (.tail _ (.head _))) (sub_cons (.tail _ (.tail _ (.tail _ (.head _)))) sub_nil))) hF rfl rfl rfl rfl (fun _ _ _ h => h) fun a hF =>
            d1n (i := 40) rfl (by kernel_rfl) (by kernel_rfl) (hS.lds (fun _ hx => hx) (sub_cons (.tail _ (.tail _ (.head _))) (sub_cons (.tail _ (.tail _ (.tail _ (.head _)))) sub_nil))) hF rfl rfl rfl rfl (fun _ _ _ h => h) fun a hF =>
            ?_
          refine d1n (i := 41) rfl (by kernel_rfl) (by kernel_rfl) (hS.lds (fun _ hx => hx) (sub_cons (.tail _ (.tail _ (.head _))) (sub_cons (.tail _ (.tail _ (.tail _ (.head _)))) sub_nil))) hF rfl rfl rfl rfl (fun _ _ _ h => h) fun a hF =>
            d1n (i := 42) rfl (by kernel_rfl) (by kernel_rfl) (hS.lds (fun _ hx => hx) (sub_cons (.tail _ (.tail _ (.head _))) (sub_cons (.tail _ (.tail _ (.tail _ (.head _)))) sub_nil))) hF rfl rfl rfl rfl (fun _ _ _ h => h) fun a hF =>
            d1n (i := 43) rfl (by kernel_rfl) (by kernel_rfl) (hS.lds (fun _ hx => hx) (sub_cons (.tail _ (.tail _ (.head _))) (sub_cons (.tail _ (.tail _ (.tail _ (.head _)))) sub_nil))) hF rfl rfl rfl rfl (fun _ _ _ h => h) fun a hF =>
            d1n (i := 44) rfl (by kernel_rfl) (by kernel_rfl) (hS.lds (fun _ hx => hx) (sub_cons (.tail _ (.tail _ (.head _))) (sub_cons (.tail _ (.tail _ (.tail _ (.head _)))) sub_nil))) hF rfl rfl rfl rfl (fun _ _ _ h => h) fun a hF =>
            d1n (i := 45) rfl (by kernel_rfl) (by kernel_rfl) (hS.lds (fun _ hx => hx) (sub_cons (.tail _ (.tail _ (.head _))) (sub_cons (.tail _ (.tail _ (.tail _ (.head _)))) sub_nil))) hF rfl rfl rfl rfl (fun _ _ _ h => h) fun a hF =>
            d1g (i := 46) rfl (by kernel_rfl) (by kernel_rfl) (hS.lds (fun _ hx => hx) (sub_cons (.tail _ (.tail _ (.head _))) (sub_cons (.tail _ (.tail _ (.tail _ (.head _)))) sub_nil))) hF rfl rfl rfl (fun _ _ _ h => h) (fun w hl => e_pickF hF rfl rfl) fun a hF =>
            d1 (i := 47) rfl (by kernel_rfl) (by kernel_rfl) (hS.lds (fun _ hx => hx) (sub_cons (.tail _ (.tail _ (.head _))) (sub_cons (.tail _ (.tail _ (.tail _ (.head _)))) sub_nil))) hF rfl (fun _ _ _ h => h) (fun w hl => e_pickF hF rfl rfl) fun a hF =>
            de (by kernel_rfl) <| tn <| ?_
          refine cf hF rfl <| wp_skip <| bn <| tn <| ?_
          refine rg <| ls <| q1 hF rfl (e_move hF rfl) fun a hF =>
            ls <| q1 hF rfl (e_addI (r := (((k + 1) : Nat) : Int)) hF rfl rfl rfl (by omega)) fun a hF =>
            ls <| q1 hF rfl (e_asg hF rfl) fun a hF =>
            re <| tn <| ?_
          replace hS := hS.pickL (.cons (.tail .head) (.cons (.tail .head) (.cons (.tail .head) (.cons (.tail .head) (.cons (.tail .head) .nil)))))
          exact ⟨k + 1, ⟨hF.has ⟨rfl, rfl, rfl, rfl, rfl, rfl, rfl, rfl, trivial⟩, hS, (by omega)⟩, (by dsimp only; omega)⟩
      ·
        replace hb := Int.not_lt.1 (of_decide_eq_false hb)
        refine wp_exit <| tx <| tx <| bx <| bn <| tn <| ?_
        refine rg <| ls <| q1 hF rfl (e_move hF rfl) fun a hF =>
          ls <| q1 hF rfl (e_addI (r := (((i + 1) : Nat) : Int)) hF rfl rfl rfl (by omega)) fun a hF =>
          ls <| q1 hF rfl (e_asg hF rfl) fun a hF =>
          re <| tn <| ?_
        replace hS := hS.pickL (.cons .head (.cons .head (.cons .head (.cons .head .nil))))
        exact ⟨(i + 1, (decide ((imgUp m0 rows[i].xs (nlines m0)) = (imgUp m0 [((A0 : Nat) : Int), ((A1 : Nat) : Int)] (nlines m0))))), ⟨hF.has ⟨rfl, rfl, rfl, rfl, rfl, rfl, trivial⟩, hS, ⟨by omega, cutHit_F hinn hbb (by omega)⟩⟩, (by dsimp only; omega)⟩
  ·
    replace hb := Int.not_lt.1 (of_decide_eq_false hb)
    refine wp_exit <| tx <| tx <| bx <| tn <| ?_
    have hit : inn = true := by
      obtain ⟨j, hj, e⟩ := hR_.all _ hcA
      exact hinn.2 ⟨j, hj, by omega, e⟩
    subst hit
    refine th <| rg <| ls <| q1 hF rfl (e_move hF rfl) fun a hF =>
      ls <| q1 hF rfl (e_eql hF rfl rfl) fun a hF =>
      ls <| q1 hF rfl (e_move hF rfl) fun a hF =>
      ls <| gy hF rfl rfl <| q1 hF rfl (e_move hF rfl) fun a hF =>
      ls <| q1 hF rfl (e_pickT hF rfl rfl) fun a hF =>
      ls <| q1 hF rfl (e_move hF rfl) fun a hF =>
      ls <| gy hF rfl rfl <| c1 hF rfl Try.call13 (fixed_c _) trivial (fun v w a hR hF => ?_)
    obtain ⟨rfl, hk⟩ := hR
    replace hS := hS.pass hk
    clear hk
    refine ls <| q1 hF rfl (e_pickT hF rfl rfl) fun a hF =>
      ls <| q1 hF rfl (e_asg hF rfl) fun a hF =>
      re <| tn <| ?_
    refine wp_ret <| ?_
    exact r1 hF Try.results3 rfl ⟨rfl, hS.keep⟩

end Go.LL
