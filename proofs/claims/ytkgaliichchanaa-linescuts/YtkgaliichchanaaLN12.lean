/- A walk: the ends of the images. No condition beyond the theorem's own premises. -/
import Derived.Test.YtkgaliichchanaaLN11
namespace Go.LL
open Go Go.Proofs


theorem applyW_comm {ws : List (Int × Int)} {c : Nat} (h : ∀ x ∈ ws, x.1.toNat ≠ c) (n : Int) : ∀ l : List Int, applyW ws (l.set c n) = (applyW ws l).set c n := by
  induction ws with
  | nil => intro l; rfl
  | cons x r ih =>
    intro l
    show applyW r ((l.set c n).set x.1.toNat x.2) = _
    rw [List.set_comm _ _ (Ne.symm (h x (.head _)))]
    exact ih (fun y hy => h y (.tail _ hy)) _
theorem applyW_swap {ws vs : List (Int × Int)} (h : ∀ x ∈ ws, ∀ y ∈ vs, x.1.toNat ≠ y.1.toNat) : ∀ l : List Int, applyW ws (applyW vs l) = applyW vs (applyW ws l) := by
  induction vs with
  | nil => intro l; rfl
  | cons y r ih =>
    intro l
    show applyW ws (applyW r (l.set y.1.toNat y.2)) = applyW r ((applyW ws l).set y.1.toNat y.2)
    rw [ih (fun x hx z hz => h x hx z (.tail _ hz)), applyW_comm (fun x hx => h x hx y (.head _))]

/-- what always holds of the memory of two lines -/
structure Good (m : MS) : Prop where
  of : m.of = [0, 0, 1, 1]
  firsts : m.firsts = [0, 0, 0, 0, 0]
  l5 : m.l.length = 5
  k4 : m.kept.length = 4
  p0 : ∀ x ∈ m.pend 0, x.1 = 0 ∨ x.1 = 1
  p1 : ∀ x ∈ m.pend 1, x.1 = 2 ∨ x.1 = 3
  pk : ∀ k, k ≠ 0 → k ≠ 1 → m.pend k = []
  img : applyW (m.pend 1) (applyW (m.pend 0) m.kept) = m.l.take 4
theorem Good.nl {m : MS} (h : Good m) : nlines m = 2 := by unfold nlines; rw [h.of]; rfl
theorem Good.new : Good (newM [0, 0, 1, 1, 2] 4 [0, 0, 0, 0, 0]) := by
  refine ⟨rfl, rfl, rfl, rfl, fun x hx => ?_, fun x hx => ?_, fun _ _ _ => rfl, rfl⟩ <;> simp [newM] at hx
theorem Good.write {m : MS} (h : Good m) {c : Nat} (hc : c ≤ 3) (n : Int) : Good (writeM m (c : Int) n) := by
  rw [writeM, if_pos (by rw [h.l5]; omega)]
  have hof : m.of.length = 4 := by rw [h.of]; rfl
  have hlt : (c : Int) < (m.of.length : Int) := by rw [hof]; omega
  have hset : (m.l.set c n).take 4 = (m.l.take 4).set c n := by rw [List.take_set]
  have h01 : ¬ ((0 : Int) = 1) := by decide
  have h10 : ¬ ((1 : Int) = 0) := by decide
  by_cases e : c ≤ 1
  · have hline : m.of.getD c 0 = 0 := by
      rw [h.of]
      match c, e with
      | 0, _ => rfl
      | 1, _ => rfl
    simp only [Int.toNat_natCast, hline, hlt, true_and]
    refine ⟨h.of, h.firsts, by simpa using h.l5, h.k4, fun x hx => ?_, fun x hx => ?_, fun k h0 h1 => ?_, ?_⟩
    · simp only [if_true] at hx
      rcases List.mem_append.1 hx with hx | hx
      · exact h.p0 x hx
      · simp at hx; subst hx; simp only; omega
    · simp only [h10, if_false] at hx
      exact h.p1 x hx
    · simp only [h0, if_false]
      exact h.pk k h0 h1
    · simp only [if_true, h10, if_false, hset]
      rw [applyW_snoc, applyW_comm (fun x hx => by have := h.p1 x hx; simp only [Int.toNat_natCast]; omega), h.img]
      rfl
  · have hline : m.of.getD c 0 = 1 := by
      rw [h.of]
      match c, e, hc with
      | 2, _, _ => rfl
      | 3, _, _ => rfl
      | 0, e, _ => exact absurd (by omega) e
      | 1, e, _ => exact absurd (by omega) e
    simp only [Int.toNat_natCast, hline, hlt, true_and]
    refine ⟨h.of, h.firsts, by simpa using h.l5, h.k4, fun x hx => ?_, fun x hx => ?_, fun k h0 h1 => ?_, ?_⟩
    · simp only [h01, if_false] at hx
      exact h.p0 x hx
    · simp only [if_true] at hx
      rcases List.mem_append.1 hx with hx | hx
      · exact h.p1 x hx
      · simp at hx; subst hx; simp only; omega
    · simp only [h1, if_false]
      exact h.pk k h0 h1
    · simp only [if_true, h01, if_false, hset]
      rw [applyW_snoc, h.img]
      rfl
theorem Good.out {m : MS} (h : Good m) {line : Nat} (hl : line ≤ 1) : Good (outM m (line : Int)) := by
  rw [outM, if_pos (by rw [h.nl]; omega)]
  have hd : ∀ x ∈ m.pend 0, ∀ y ∈ m.pend 1, x.1.toNat ≠ y.1.toNat := fun x hx y hy => by have := h.p0 x hx; have := h.p1 y hy; omega
  refine ⟨h.of, h.firsts, h.l5, by simpa [applyW_len] using h.k4, fun x hx => ?_, fun x hx => ?_, fun k h0 h1 => ?_, ?_⟩
  · simp only at hx
    split at hx
    · cases hx
    · exact h.p0 x hx
  · simp only at hx
    split at hx
    · cases hx
    · exact h.p1 x hx
  · simp only
    split
    · rfl
    · exact h.pk k h0 h1
  · match line, hl with
    | 0, _ =>
      simp only [show ((0 : Nat) : Int) = 0 from rfl, if_true, show ¬ ((1 : Int) = 0) by decide, if_false]
      exact h.img
    | 1, _ =>
      simp only [show ((1 : Nat) : Int) = 1 from rfl, if_true, show ¬ ((0 : Int) = 1) by decide, if_false]
      show applyW (m.pend 0) (applyW (m.pend 1) m.kept) = _
      rw [applyW_swap hd]
      exact h.img
theorem Good.nl0 {m : MS} (h : Good m) : nlines (outM m 0) = 2 := (h.out (line := 0) (by omega)).nl
theorem Good.some (ops : List OpV) (j : Nat) : Good (someM ops j) := by
  unfold someM
  generalize ops.take j = l
  have key : ∀ (l : List OpV) (m : MS), Good m → Good (l.foldl stepM m) := by
    intro l
    induction l with
    | nil => intro m h; exact h
    | cons o r ih =>
      intro m h
      refine ih _ ?_
      have hw := h.write (lo_le (n := 3) (by decide) o.cell) ((lo 7 o.n : Nat) : Int)
      unfold stepM
      split
      · exact hw.out (lo_le (n := 1) (by decide) o.n)
      · exact hw
  exact key l _ Good.new
theorem Good.cutP {m : MS} (h : Good m) : cutOk m (pendL m 2) := ⟨by rw [h.nl, pendL_len], fun i hi => by simp [pendL]⟩
theorem Good.cutZ {m : MS} (h : Good m) : cutOk m [(0 : Int), 0] := ⟨by rw [h.nl]; rfl, fun i hi => by
  match i, hi with
  | 0, _ => simp
  | 1, _ => simp⟩
theorem Good.imgP {m : MS} (h : Good m) : imgUp m (pendL m 2) (nlines m) = m.l.take 4 := by
  rw [h.nl, ← h.img]
  show applyW ((m.pend 1).take ((m.pend 1).length : Int).toNat) (applyW ((m.pend 0).take ((m.pend 0).length : Int).toNat) m.kept) = _
  rw [Int.toNat_natCast, Int.toNat_natCast, List.take_length, List.take_length]
theorem Good.imgZ {m : MS} (h : Good m) : imgUp m [(0 : Int), 0] (nlines m) = m.kept := by
  rw [h.nl]
  rfl
theorem Good.out2 {m : MS} (h : Good m) : (outM (outM m 0) 1).l = m.l ∧ (outM (outM m 0) 1).kept = m.l.take 4 ∧ (∀ k, (outM (outM m 0) 1).pend k = []) := by
  have h1 : Good (outM m 0) := h.out (line := 0) (by omega)
  have h2 : Good (outM (outM m 0) 1) := h1.out (line := 1) (by omega)
  have e1 : outM m 0 = { m with kept := applyW (m.pend 0) m.kept, pend := fun k => if k = 0 then [] else m.pend k } := by rw [outM, if_pos (by rw [h.nl]; omega)]
  have e2 : outM (outM m 0) 1 = { outM m 0 with kept := applyW ((outM m 0).pend 1) (outM m 0).kept, pend := fun k => if k = 1 then [] else (outM m 0).pend k } := by rw [outM, if_pos (by rw [h1.nl]; omega)]
  have hl : (outM (outM m 0) 1).l = m.l := by rw [e2, e1]
  have hp : ∀ k, (outM (outM m 0) 1).pend k = [] := fun k => by
    by_cases k0 : k = 0
    · subst k0; rw [e2, e1]; rfl
    · by_cases k1 : k = 1
      · subst k1; rw [e2]; rfl
      · exact h2.pk k k0 k1
  refine ⟨hl, ?_, hp⟩
  have := h2.img
  rw [hp, hp, hl] at this
  exact this
theorem cutsM_one {m : MS} (h : ∀ k, m.pend k = []) : tot m (nlines m) = 1 ∧ cutsM m = [cut0 m] := by
  have ht : ∀ k, tot m k = 1 := by
    intro k
    induction k with
    | zero => rfl
    | succ k ih => rw [tot, ih, h]; rfl
  refine ⟨ht _, ?_⟩
  have : cutList m 1 (cut0 m) = [cut0 m] := by
    rw [cutList]
    split <;> rfl
  rw [cutsM, ht, this]
  simp [cutStep]

set_option maxRecDepth 100000 in
theorem ends_c (w0 : World) (oo : Option Addr) (co : Nat) (ops : List OpV) (hr : Rd (hp w0) oo (opcells ops)) :
    Tot Try.prog 4 #[.slice oo ops.length co] w0 (fun v w' => v = .bool true ∧ Keep Nil w0 w') := by
  refine fn0 (args := [.slice oo ops.length co]) (F := [(0, .slice oo ops.length co)]) Try.func4 rfl Try.ntmps4 rfl rfl fun a hF => ?_
  have hS : St w0 Nil [hp w0] [] w0 := .start (by simp [hp_le])
  refine th <| rg <| ls <| q1 hF rfl (e_asg hF rfl) fun a hF =>
    re <| tn <| ?_
  refine th <| rg <| ls <| q1 hF rfl (e_move hF rfl) fun a hF =>
    ls <| c1 hF rfl Try.call8 (some_c _ _ _ ops (hS.rdH (.head _) hr)) ⟨rfl, trivial⟩ (fun v w a hR hF => ?_)
  obtain ⟨p, g, hO, rfl, hOl, hOn, hf, hOd, hi, hpl, hfr⟩ := hR
  replace hS := hS.freshH hfr hOl hOn hOd
  clear hfr
  have hG := Good.some ops (min ops.length 12)
  generalize someM ops (min ops.length 12) = m0 at hf hi hpl hS hG
  refine ls <| q1 hF rfl (e_asg hF rfl) fun a hF =>
    re <| tn <| ?_
  refine th <| th <| rg <| ls <| q1 hF rfl (e_move hF rfl) fun a hF =>
    ls <| q1 hF rfl (e_eqlP hF Try.runUnderlying24 rfl rfl) fun a hF =>
    re <| tn <| ?_
  refine cf hF rfl <| wp_skip <| tn <| ?_
  refine th <| rg <| ls <| q1 hF rfl (e_move hF rfl) fun a hF =>
    ls <| c1 hF rfl Try.call9 (pending_c _ _ _ _ (memA_read (hS.ok _ (.head _)) (hS.hs _ (.head _)) hf) hi) ⟨rfl, trivial⟩ (fun v w a hR hF => ?_)
  obtain ⟨_, _, rfl, hfr⟩ := hR
  replace hS := hS.fresh hfr
  clear hfr
  rw [hG.nl] at hF hS
  have hcap := SlOk.cap (show SlOk _ _ (.slice _ _ _) _ _ _ from hS.ok _ (.head _))
  refine ls <| q1 hF rfl (e_move hF rfl) fun a hF =>
    ls <| c1 hF rfl Try.call14 (all_c _ _ _ _ (memA_read (hS.ok _ (.tail _ (.head _))) (hS.hs _ (.head _)) hf) hi) ⟨rfl, trivial⟩ (fun v w a hR hF => ?_)
  obtain ⟨_, _, rfl, hfr⟩ := hR
  replace hS := hS.fresh hfr
  clear hfr
  rw [hG.l5] at hF hS
  have hcap := SlOk.cap (show SlOk _ _ (.slice _ _ _) _ _ _ from hS.ok _ (.head _))
  refine ls <| q1 hF rfl (e_move hF rfl) fun a hF =>
    ls <| c1 hF rfl Try.call15 (kept_c _ _ _ _ (memA_read (hS.ok _ (.tail _ (.tail _ (.head _)))) (hS.hs _ (.head _)) hf) hi) ⟨rfl, trivial⟩ (fun v w a hR hF => ?_)
  obtain ⟨_, _, rfl, hfr⟩ := hR
  replace hS := hS.fresh hfr
  clear hfr
  refine ls <| q1 hF rfl (e_asg hF rfl) fun a hF =>
    ls <| q1 hF rfl (e_asg hF rfl) fun a hF =>
    ls <| q1 hF rfl (e_asg hF rfl) fun a hF =>
    re <| tn <| ?_
  refine th <| th <| rg <| ls <| q1 hF rfl (e_move hF rfl) fun a hF =>
    ls <| q1 hF rfl (e_lenS hF Try.runUnderlying26 rfl) fun a hF =>
    ls <| q1 hF rfl (e_neq hF rfl rfl) fun a hF =>
    ls <| q1 hF rfl (e_move hF rfl) fun a hF =>
    ls <| gy hF rfl rfl <| q1 hF rfl (e_move hF rfl) fun a hF =>
    ls <| gy hF rfl rfl <| q1 hF rfl (e_lenS hF Try.runUnderlying26 rfl) fun a hF =>
    ls <| gy hF rfl rfl <| q1 hF rfl (e_neq hF rfl rfl) fun a hF =>
    ls <| q1 hF rfl (e_pickF hF rfl rfl) fun a hF =>
    re <| tn <| ?_
  refine cf hF rfl <| wp_skip <| tn <| ?_
  refine th <| rg <| ls <| q1 hF rfl (e_move hF rfl) fun a hF =>
    ls <| q1 hF rfl (e_move hF rfl) fun a hF =>
    ls <| c1 hF rfl Try.call11 (image_c _ _ _ _ (memA_read (hS.ok _ (.tail _ (.tail _ (.tail _ (.head _))))) (hS.hs _ (.head _)) hf) hi _ _ _ (hS.rdO (.tail _ (.tail _ (.head _)))) (by first | exact Nat.le_of_ble_eq_true rfl | (rw [pendL_len]; exact Nat.le_of_ble_eq_true rfl))) ⟨rfl, rfl, trivial⟩ (fun v w a hR hF => ?_)
  replace hR := hR.resolve_left (fun h => h.1 hG.cutP)
  obtain ⟨hyes, _, _, rfl, hfr⟩ := hR
  replace hS := hS.fresh hfr
  clear hfr
  refine ls <| q1 hF rfl (e_move hF rfl) fun a hF =>
    ls <| q1 hF rfl (e_ext hF rfl rfl) fun a hF =>
    ls <| q1 hF rfl (e_ext hF rfl rfl) fun a hF =>
    ls <| q1 hF rfl (e_asg hF rfl) fun a hF =>
    ls <| q1 hF rfl (e_asg hF rfl) fun a hF =>
    re <| tn <| ?_
  refine th <| rg <| ls <| q1 hF rfl (e_move hF rfl) fun a hF =>
    ls <| a_bsl (e := 3) (sz := 1) (ints [(0 : Int), (0 : Int)]) hF rfl hS rfl rfl rfl (fun w => by kernel_rfl) fun bkbs5 w a hS hF => ?_
  refine ls <| c1 hF rfl Try.call11 (image_c _ _ _ _ (memA_read (hS.ok _ (.tail _ (.tail _ (.tail _ (.tail _ (.tail _ (.head _))))))) (hS.hs _ (.head _)) hf) hi _ _ _ (hS.rdO (.head _)) (by first | exact Nat.le_of_ble_eq_true rfl | (rw [pendL_len]; exact Nat.le_of_ble_eq_true rfl))) ⟨rfl, rfl, trivial⟩ (fun v w a hR hF => ?_)
  replace hR := hR.resolve_left (fun h => h.1 hG.cutZ)
  obtain ⟨hyes, _, _, rfl, hfr⟩ := hR
  replace hS := hS.fresh hfr
  clear hfr
  refine ls <| q1 hF rfl (e_move hF rfl) fun a hF =>
    ls <| q1 hF rfl (e_ext hF rfl rfl) fun a hF =>
    ls <| q1 hF rfl (e_ext hF rfl rfl) fun a hF =>
    ls <| q1 hF rfl (e_asg hF rfl) fun a hF =>
    ls <| q1 hF rfl (e_asg hF rfl) fun a hF =>
    re <| tn <| ?_
  refine th <| rg <| ls <| q1 hF rfl (e_move hF rfl) fun a hF =>
    ls <| c1 hF rfl Try.call16 (out_c _ _ (hS.hs _ (.head _)) _ _ _ (hS.ok _ (.tail _ (.tail _ (.tail _ (.tail _ (.tail _ (.tail _ (.head _)))))))) (fun b hb => (hS.own _ (.tail _ (.tail _ (.tail _ (.tail _ (.tail _ (.tail _ (.head _))))))) b hb).2 _ (.head _)) hf hi _) ⟨rfl, rfl, trivial⟩ (fun v w a hR hF => ?_)
  obtain ⟨g, rfl, hf, hmut⟩ := hR
  rw [if_pos (by rw [hG.nl]; omega)] at hF
  replace hS := hS.mut hmut (.tail (.tail (.tail (.tail (.tail (.tail .head))))))
  clear hmut
  replace hi := hi.out (line := (0 : Int))
  replace hpl := pl_out (line := (0 : Int)) hpl
  refine ls <| q1 hF rfl (e_move hF rfl) fun a hF =>
    ls <| c1 hF rfl Try.call16 (out_c _ _ (hS.hs _ (.head _)) _ _ _ (hS.ok _ (.tail _ (.tail _ (.tail _ (.tail _ (.tail _ (.tail _ (.head _)))))))) (fun b hb => (hS.own _ (.tail _ (.tail _ (.tail _ (.tail _ (.tail _ (.tail _ (.head _))))))) b hb).2 _ (.head _)) hf hi _) ⟨rfl, rfl, trivial⟩ (fun v w a hR hF => ?_)
  obtain ⟨g, rfl, hf, hmut⟩ := hR
  rw [if_pos (by rw [hG.nl0]; omega)] at hF
  replace hS := hS.mut hmut (.tail (.tail (.tail (.tail (.tail (.tail .head))))))
  clear hmut
  replace hi := hi.out (line := (1 : Int))
  replace hpl := pl_out (line := (1 : Int)) hpl
  refine ls <| q1 hF rfl (e_asg hF rfl) fun a hF =>
    ls <| q1 hF rfl (e_asg hF rfl) fun a hF =>
    re <| tn <| ?_
  refine th <| rdL sub_nil 48 hS wide fun w hS => ?_
  refine d1 (i := 0) rfl (by kernel_rfl) (by kernel_rfl) (hS.lds (fun _ hx => hx) sub_nil) hF rfl (fun _ _ _ h => h) (fun w hl => e_move hF rfl) fun a hF =>
    d1 (i := 1) rfl (by kernel_rfl) (by kernel_rfl) (hS.lds (fun _ hx => hx) sub_nil) hF rfl (fun _ _ _ h => h) (fun w hl => e_eql hF rfl rfl) fun a hF =>
    d1 (i := 2) rfl (by kernel_rfl) (by kernel_rfl) (hS.lds (fun _ hx => hx) sub_nil) hF rfl (fun _ _ _ h => h) (fun w hl => e_move hF rfl) fun a hF =>
    d1g (i := 3) rfl (by kernel_rfl) (by kernel_rfl) (hS.lds (fun _ hx => hx) sub_nil) hF rfl rfl rfl (fun _ _ _ h => h) (fun w hl => e_move hF rfl) fun a hF =>
    d1g (i := 4) rfl (by kernel_rfl) (by kernel_rfl) (hS.lds (fun _ hx => hx) sub_nil) hF rfl rfl rfl (fun _ _ _ h => h) (fun w hl => e_eql hF rfl rfl) fun a hF =>
    d1 (i := 5) rfl (by kernel_rfl) (by kernel_rfl) (hS.lds (fun _ hx => hx) sub_nil) hF rfl (fun _ _ _ h => h) (fun w hl => e_pickT hF rfl rfl) fun a hF =>
    d1 (i := 6) rfl (by kernel_rfl) (by kernel_rfl) (hS.lds (fun _ hx => hx) sub_nil) hF rfl (fun _ _ _ h => h) (fun w hl => e_move hF rfl) fun a hF =>
    d1g (i := 7) rfl (by kernel_rfl) (by kernel_rfl) (hS.lds (fun _ hx => hx) sub_nil) hF rfl rfl rfl (fun _ _ _ h => h) (fun w hl => e_move hF rfl) fun a hF =>
    d1g (i := 8) rfl (by kernel_rfl) (by kernel_rfl) (hS.lds (fun _ hx => hx) sub_nil) hF rfl rfl rfl (fun _ _ _ h => h) (fun w hl => e_move hF rfl) fun a hF =>
    d1g (i := 9) rfl (by kernel_rfl) (by kernel_rfl) (hS.lds (fun _ hx => hx) sub_nil) hF rfl rfl rfl (fun _ _ _ h => h) (fun w hl => e_slHi (h := 4) hF Try.runUnderlying26 Try.sizeOf3 rfl rfl (by omega) (by omega)) fun a hF =>
    da1 (i := 10) (by kernel_rfl) ?_
  refine di (i := 10) rfl <| gy hF rfl rfl <| c1 hF rfl Try.call12 (intsT _ _ _ _ _ _ _ _ _ (hS.rdO (.tail _ (.tail _ (.head _)))) ((hS.rdO (.tail _ (.tail _ (.tail _ (.tail _ (.head _)))))).take 4) (by rw [hG.imgP, List.length_take, hG.l5]; decide) (by rw [hG.imgP, List.length_take, hG.l5, hG.k4]; rfl) (by rw [List.length_take, hG.l5]; rfl) hG.imgP) ⟨rfl, rfl, trivial⟩ (fun v w a hR hF => ?_)
  obtain ⟨rfl, hk⟩ := hR
  replace hS := hS.pass hk
  clear hk
  refine ⟨fun _ => (hS.lds (fun _ hx => hx) sub_nil), ?_⟩
  refine d1 (i := 11) rfl (by kernel_rfl) (by kernel_rfl) (hS.lds (fun _ hx => hx) sub_nil) hF rfl (fun _ _ _ h => h) (fun w hl => e_pickT hF rfl rfl) fun a hF =>
    d1 (i := 12) rfl (by kernel_rfl) (by kernel_rfl) (hS.lds (fun _ hx => hx) sub_nil) hF rfl (fun _ _ _ h => h) (fun w hl => e_move hF rfl) fun a hF =>
    d1g (i := 13) rfl (by kernel_rfl) (by kernel_rfl) (hS.lds (fun _ hx => hx) sub_nil) hF rfl rfl rfl (fun _ _ _ h => h) (fun w hl => e_move hF rfl) fun a hF =>
    d1g (i := 14) rfl (by kernel_rfl) (by kernel_rfl) (hS.lds (fun _ hx => hx) sub_nil) hF rfl rfl rfl (fun _ _ _ h => h) (fun w hl => e_move hF rfl) fun a hF =>
    da1 (i := 15) (by kernel_rfl) ?_
  refine di (i := 15) rfl <| gy hF rfl rfl <| c1 hF rfl Try.call12 (intsT _ _ _ _ _ _ _ _ _ (hS.rdO (.head _)) (hS.rdO (.tail _ (.tail _ (.tail _ (.head _))))) (by rw [hG.imgZ, hG.k4]; decide) (by rw [hG.imgZ]) rfl hG.imgZ) ⟨rfl, rfl, trivial⟩ (fun v w a hR hF => ?_)
  obtain ⟨rfl, hk⟩ := hR
  replace hS := hS.pass hk
  clear hk
  refine ⟨fun _ => (hS.lds (fun _ hx => hx) sub_nil), ?_⟩
  refine d1 (i := 16) rfl (by kernel_rfl) (by kernel_rfl) (hS.lds (fun _ hx => hx) sub_nil) hF rfl (fun _ _ _ h => h) (fun w hl => e_pickT hF rfl rfl) fun a hF =>
    d1 (i := 17) rfl (by kernel_rfl) (by kernel_rfl) (hS.lds (fun _ hx => hx) sub_nil) hF rfl (fun _ _ _ h => h) (fun w hl => e_move hF rfl) fun a hF =>
    d1g (i := 18) rfl (by kernel_rfl) (by kernel_rfl) (hS.lds (fun _ hx => hx) sub_nil) hF rfl rfl rfl (fun _ _ _ h => h) (fun w hl => e_move hF rfl) fun a hF =>
    d1g (i := 19) rfl (by kernel_rfl) (by kernel_rfl) (hS.lds (fun _ hx => hx) sub_nil) hF rfl rfl rfl (fun _ _ _ h => h) (fun w hl => e_eql hF rfl rfl) fun a hF =>
    d1 (i := 20) rfl (by kernel_rfl) (by kernel_rfl) (hS.lds (fun _ hx => hx) sub_nil) hF rfl (fun _ _ _ h => h) (fun w hl => e_pickT hF rfl rfl) fun a hF =>
    d1 (i := 21) rfl (by kernel_rfl) (by kernel_rfl) (hS.lds (fun _ hx => hx) sub_nil) hF rfl (fun _ _ _ h => h) (fun w hl => e_move hF rfl) fun a hF =>
    d1g (i := 22) rfl (by kernel_rfl) (by kernel_rfl) (hS.lds (fun _ hx => hx) sub_nil) hF rfl rfl rfl (fun _ _ _ h => h) (fun w hl => e_move hF rfl) fun a hF =>
    d1g (i := 23) rfl (by kernel_rfl) (by kernel_rfl) (hS.lds (fun _ hx => hx) sub_nil) hF rfl rfl rfl (fun _ _ _ h => h) (fun w hl => e_eql hF rfl rfl) fun a hF =>
    d1 (i := 24) rfl (by kernel_rfl) (by kernel_rfl) (hS.lds (fun _ hx => hx) sub_nil) hF rfl (fun _ _ _ h => h) (fun w hl => e_pickT hF rfl rfl) fun a hF =>
    d1 (i := 25) rfl (by kernel_rfl) (by kernel_rfl) (hS.lds (fun _ hx => hx) sub_nil) hF rfl (fun _ _ _ h => h) (fun w hl => e_move hF rfl) fun a hF =>
    d1g (i := 26) rfl (by kernel_rfl) (by kernel_rfl) (hS.lds (fun _ hx => hx) sub_nil) hF rfl rfl rfl (fun _ _ _ h => h) (fun w hl => e_move hF rfl) fun a hF =>
    d1g (i := 28) rfl (by kernel_rfl) (by kernel_rfl) (hS.lds (fun _ hx => hx) sub_nil) hF rfl rfl rfl (fun _ _ _ h => h) (fun w hl => e_move hF rfl) fun a hF =>
    d1g (i := 29) rfl (by kernel_rfl) (by kernel_rfl) (hS.lds (fun _ hx => hx) sub_nil) hF rfl rfl rfl (fun _ _ _ h => h) (fun w hl => e_slHi (h := 4) hF Try.runUnderlying26 Try.sizeOf3 rfl rfl (by omega) (by omega)) fun a hF =>
    da1 (i := 27) (by kernel_rfl) ?_
  refine di (i := 27) rfl <| gy hF rfl rfl <| c1 hF rfl Try.call15 (kept_c _ _ _ _ (memA_read (hS.ok _ (.tail _ (.tail _ (.tail _ (.tail _ (.tail _ (.tail _ (.head _)))))))) (hS.hs _ (.head _)) hf) hi) ⟨rfl, trivial⟩ (fun v w a hR hF => ?_)
  obtain ⟨_, _, rfl, hfr⟩ := hR
  replace hS := hS.fresh hfr
  clear hfr
  refine ⟨fun _ => (hS.lds (fun _ hx => hx) sub_nil), ?_⟩
  refine da1 (i := 30) (by kernel_rfl) ?_
  refine di (i := 30) rfl <| gy hF rfl rfl <| c1 hF rfl Try.call12 (intsT _ _ _ _ _ _ _ _ _ (hS.rdO (.head _)) ((hS.rdO (.tail _ (.tail _ (.tail _ (.tail _ (.tail _ (.head _))))))).take 4) (by rw [hG.out2.2.1, List.length_take, hG.l5]; decide) rfl (by rw [List.length_take, hG.l5]; rfl) hG.out2.2.1) ⟨rfl, rfl, trivial⟩ (fun v w a hR hF => ?_)
  obtain ⟨rfl, hk⟩ := hR
  replace hS := hS.pass hk
  clear hk
  refine ⟨fun _ => (hS.lds (fun _ hx => hx) sub_nil), ?_⟩
  refine d1 (i := 31) rfl (by kernel_rfl) (by kernel_rfl) (hS.lds (fun _ hx => hx) sub_nil) hF rfl (fun _ _ _ h => h) (fun w hl => e_pickT hF rfl rfl) fun a hF =>
    d1 (i := 32) rfl (by kernel_rfl) (by kernel_rfl) (hS.lds (fun _ hx => hx) sub_nil) hF rfl (fun _ _ _ h => h) (fun w hl => e_move hF rfl) fun a hF =>
    d1g (i := 33) rfl (by kernel_rfl) (by kernel_rfl) (hS.lds (fun _ hx => hx) sub_nil) hF rfl rfl rfl (fun _ _ _ h => h) (fun w hl => e_move hF rfl) fun a hF =>
    da1 (i := 34) (by kernel_rfl) ?_
  refine di (i := 34) rfl <| gy hF rfl rfl <| c1 hF rfl Try.call10 (cuts_c _ _ _ _ (memA_read (hS.ok _ (.tail _ (.tail _ (.tail _ (.tail _ (.tail _ (.tail _ (.tail _ (.head _))))))))) (hS.hs _ (.head _)) hf) hi (by rw [(cutsM_one hG.out2.2.2).1]; decide)) ⟨rfl, trivial⟩ (fun v w a hR hF => ?_)
  obtain ⟨_, _, rows, rfl, hrows, hfr⟩ := hR
  replace hS := (hS.fresh hfr).unsep2
  clear hfr
  rw [(cutsM_one hG.out2.2.2).2] at hrows
  have hrl : rows.length = 1 := by simpa using congrArg List.length hrows
  rw [hrl] at hF hS
  refine ⟨fun _ => (hS.lds (fun _ hx => hx) sub_nil), ?_⟩
  refine d1g (i := 35) rfl (by kernel_rfl) (by kernel_rfl) (hS.lds (fun _ hx => hx) sub_nil) hF rfl rfl rfl (fun _ _ _ h => h) (fun w hl => e_lenS hF Try.runUnderlying28 rfl) fun a hF =>
    d1g (i := 36) rfl (by kernel_rfl) (by kernel_rfl) (hS.lds (fun _ hx => hx) sub_nil) hF rfl rfl rfl (fun _ _ _ h => h) (fun w hl => e_eql hF rfl rfl) fun a hF =>
    d1 (i := 37) rfl (by kernel_rfl) (by kernel_rfl) (hS.lds (fun _ hx => hx) sub_nil) hF rfl (fun _ _ _ h => h) (fun w hl => e_pickT hF rfl rfl) fun a hF =>
    d1 (i := 38) rfl (by kernel_rfl) (by kernel_rfl) (hS.lds (fun _ hx => hx) sub_nil) hF rfl (fun _ _ _ h => h) (fun w hl => e_move hF rfl) fun a hF =>
    d1g (i := 39) rfl (by kernel_rfl) (by kernel_rfl) (hS.lds (fun _ hx => hx) sub_nil) hF rfl rfl rfl (fun _ _ _ h => h) (fun w hl => e_move hF rfl) fun a hF =>
    d1g (i := 41) rfl (by kernel_rfl) (by kernel_rfl) (hS.lds (fun _ hx => hx) sub_nil) hF rfl rfl rfl (fun _ _ _ h => h) (fun w hl => e_move hF rfl) fun a hF =>
    da1 (i := 40) (by kernel_rfl) ?_
  refine di (i := 40) rfl <| gy hF rfl rfl <| c1 hF rfl Try.call14 (all_c _ _ _ _ (memA_read (hS.ok _ (.tail _ (.tail _ (.tail _ (.tail _ (.tail _ (.tail _ (.tail _ (.tail _ (.tail _ (.head _))))))))))) (hS.hs _ (.head _)) hf) hi) ⟨rfl, trivial⟩ (fun v w a hR hF => ?_)
  obtain ⟨_, _, rfl, hfr⟩ := hR
  replace hS := hS.fresh hfr
  clear hfr
  refine ⟨fun _ => (hS.lds (fun _ hx => hx) sub_nil), ?_⟩
  refine da1 (i := 42) (by kernel_rfl) ?_
  refine di (i := 42) rfl <| gy hF rfl rfl <| c1 hF rfl Try.call12 (intsT _ _ _ _ _ _ _ _ _ (hS.rdO (.head _)) (hS.rdO (.tail _ (.tail _ (.tail _ (.tail _ (.tail _ (.tail _ (.tail _ (.tail _ (.head _)))))))))) (by rw [hG.out2.1, hG.l5]; decide) rfl hG.l5.symm hG.out2.1) ⟨rfl, rfl, trivial⟩ (fun v w a hR hF => ?_)
  obtain ⟨rfl, hk⟩ := hR
  replace hS := hS.pass hk
  clear hk
  refine ⟨fun _ => (hS.lds (fun _ hx => hx) sub_nil), ?_⟩
  refine d1 (i := 43) rfl (by kernel_rfl) (by kernel_rfl) (hS.lds (fun _ hx => hx) sub_nil) hF rfl (fun _ _ _ h => h) (fun w hl => e_pickT hF rfl rfl) fun a hF =>
    d1 (i := 44) rfl (by kernel_rfl) (by kernel_rfl) (hS.lds (fun _ hx => hx) sub_nil) hF rfl (fun _ _ _ h => h) (fun w hl => e_move hF rfl) fun a hF =>
    da1 (i := 45) (by kernel_rfl) ?_
  refine di (i := 45) rfl <| gy hF rfl rfl <| c1 hF rfl Try.call13 (fixed_c _) trivial (fun v w a hR hF => ?_)
  obtain ⟨rfl, hk⟩ := hR
  replace hS := hS.pass hk
  clear hk
  refine ⟨fun _ => (hS.lds (fun _ hx => hx) sub_nil), ?_⟩
  refine d1 (i := 46) rfl (by kernel_rfl) (by kernel_rfl) (hS.lds (fun _ hx => hx) sub_nil) hF rfl (fun _ _ _ h => h) (fun w hl => e_pickT hF rfl rfl) fun a hF =>
    d1 (i := 47) rfl (by kernel_rfl) (by kernel_rfl) (hS.lds (fun _ hx => hx) sub_nil) hF rfl (fun _ _ _ h => h) (fun w hl => e_asg hF rfl) fun a hF =>
    de (by kernel_rfl) <| tn <| ?_
  refine wp_ret <| ?_
  exact r1 hF Try.results4 rfl ⟨rfl, hS.keep⟩

end Go.LL
