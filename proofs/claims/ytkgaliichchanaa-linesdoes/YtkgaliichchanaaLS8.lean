/- A walk: does the program's memory stand as the document's? No condition beyond the theorem's own premises. -/
import Derived.Test.YtkgaliichchanaaLS5
set_option linter.unusedSectionVars false
namespace Go.LM.LINES
open Go Go.LL Go.MD Go.LM Go.Proofs Go.MD.LINES

theorem foldl_sub {m : MS} : ∀ (l : List (List Int)) (s : List (Vec 20) × List (List Int)), (∀ x ∈ (l.foldl (cutStep m) s).2, x ∈ s.2 ∨ x ∈ l) ∧ (l.foldl (cutStep m) s).2.length ≤ s.2.length + l.length
  | [], s => ⟨fun x hx => .inl hx, by simp⟩
  | c :: r, s => by
    obtain ⟨h1, h2⟩ := foldl_sub r (cutStep m s c)
    have h3 : (∀ x ∈ (cutStep m s c).2, x ∈ s.2 ∨ x = c) ∧ (cutStep m s c).2.length ≤ s.2.length + 1 := by
      unfold cutStep
      split
      · exact ⟨fun x hx => .inl hx, by omega⟩
      · refine ⟨fun x hx => ?_, by simp⟩
        rcases List.mem_append.1 hx with h | h
        · exact .inl h
        · exact .inr (List.mem_singleton.1 h)
    refine ⟨fun x hx => ?_, ?_⟩
    · rcases h1 x hx with h | h
      · rcases h3.1 x h with h | rfl
        · exact .inl h
        · exact .inr (.head _)
      · exact .inr (.tail _ h)
    · simp only [List.foldl_cons, List.length_cons]; omega
theorem cutsM_len {m : MS} {x : List Int} (hx : x ∈ cutsM m) : x.length = nlines m := by
  rcases (foldl_sub _ ([], [])).1 x hx with h | h
  · cases h
  · rw [cuts_all] at h
    have := (mem_allC h).1
    rwa [pN_len] at this
theorem cutsM_few (m : MS) : (cutsM m).length ≤ tot m (nlines m) := by
  have := (foldl_sub (m := m) (cutList m (tot m (nlines m)) (cut0 m)) ([], [])).2
  rw [cuts_all, ← tot_all] at this
  simp only [List.length_nil, Nat.zero_add] at this
  unfold cutsM
  rw [cuts_all]
  exact this
theorem rowsK {w0 : World} {m : MS} {oa ob : Option Addr} {ca cb : Nat} {ra rb : List Row} (hi : MInv m) (ht : tot m (nlines m) ≤ 200) (h1 : Rd (hp w0) oa (rowsV ra)) (h2 : Rd (hp w0) ob (rowsV rb)) (k1 : ∀ r ∈ ra, Rd (hp w0) r.oa (ints r.xs)) (k2 : ∀ r ∈ rb, Rd (hp w0) r.oa (ints r.xs)) (e1 : ra.map (·.xs) = cutsM m) (e2 : rb.map (·.xs) = cutsM m) :
    Tot Try.prog 33 #[.slice oa ra.length ca, .slice ob rb.length cb] w0 (fun v w' => v = .bool true ∧ Keep Nil w0 w') := by
  have hnl := hi.nl
  have hs : ∀ {l : List Row}, l.map (·.xs) = cutsM m → ∀ r ∈ l, r.xs.length ≤ 1000000 := fun {l} e r hr => by
    have : r.xs ∈ cutsM m := by rw [← e]; exact List.mem_map.2 ⟨r, hr, rfl⟩
    rw [cutsM_len this]; omega
  have hl : ra.length ≤ 1000000 := by
    have := congrArg List.length e1
    have := cutsM_few m
    simp only [List.length_map] at *; omega
  have h := rows_c w0 oa ob ca cb ra rb h1 h2 (fun r hr => ⟨k1 r hr, hs e1 r hr⟩) (fun r hr => ⟨k2 r hr, hs e2 r hr⟩) hl
  rw [decide_eq_true (e1.trans e2.symm)] at h
  exact h
theorem kcell2 {w : World} {Hs : List PH} {L : List HA} {p : Nat} {g : KG} {k : Rm} (hl : Lds Hs L w) (hm : kA p g k ∈ L) : w.cell? ⟨p, 2, none⟩ = some (.slice g.lo k.L.length g.cl) :=
  cell_hp w _ ▸ ph_cell ((sepA_ok.1 (hl.ok _ hm)).1 (blk p _) (.head _)) rfl
theorem kcell3 {w : World} {Hs : List PH} {L : List HA} {p : Nat} {g : KG} {k : Rm} (hl : Lds Hs L w) (hm : kA p g k ∈ L) : w.cell? ⟨p, 3, none⟩ = some (.slice g.ko k.K.length g.ck) :=
  cell_hp w _ ▸ ph_cell ((sepA_ok.1 (hl.ok _ hm)).1 (blk p _) (.head _)) rfl
theorem kRdL {h : PH} {p : Nat} {g : KG} {k : Rm} (ho : (kA p g k).ok h) : Rd h g.lo (ints k.L) := SlOk.rd ((sepA_ok.1 ho).1 (sla 3 1 g.lo k.L.length g.cl (ints k.L)) (.tail _ (.head _)))
theorem kRdK {h : PH} {p : Nat} {g : KG} {k : Rm} (ho : (kA p g k).ok h) : Rd h g.ko (ints k.K) := SlOk.rd ((sepA_ok.1 ho).1 (sla 3 1 g.ko k.K.length g.ck (ints k.K)) (.tail _ (.tail _ (.head _))))
theorem pend_get {m : MS} {n i : Nat} (h : i < n) : (ints (pendL m n))[i * 1]? = some (.int .i64 (((m.pend ((i : Nat) : Int)).length : Nat) : Int)) := by
  simp [ints, pendL, h]
theorem pend_ne {m : MS} {n i : Nat} (h : i < n) : ints (pendL m n) ≠ [] := by
  intro e
  have := congrArg List.length e
  simp [ints, pendL] at this
  omega
theorem tot_le {m : MS} {i a : Nat} (h : tot m i ≤ 200) (ha : a ≤ 1000) : tot m i * (a + 1) ≤ 200200 := by
  calc tot m i * (a + 1) ≤ 200 * 1001 := Nat.mul_le_mul h (by omega)
    _ = 200200 := rfl
theorem tot_suc (m : MS) (i : Nat) : ((tot m i : Nat) : Int) * (((m.pend ((i : Nat) : Int)).length + 1 : Nat) : Int) = ((tot m (i + 1) : Nat) : Int) := by rw [tot]; push_cast; rfl
theorem tot_mul {t a : Nat} (h : t * (a + 1) ≤ 200200) : -9223372036854775808 ≤ ((t : Nat) : Int) * (((a + 1 : Nat)) : Int) ∧ ((t : Nat) : Int) * (((a + 1 : Nat)) : Int) ≤ 9223372036854775807 := by
  rw [show ((t : Nat) : Int) * (((a + 1 : Nat)) : Int) = ((t * (a + 1) : Nat) : Int) by push_cast; rfl]
  omega
theorem pend_few {m : MS} {k : Rm} (hs : Sim m k) (hw : k.W.length ≤ 1000) (j : Int) : (m.pend j).length ≤ 1000 := by
  rw [hs.pend j]; exact Nat.le_trans (onL_len _ _) hw


set_option maxRecDepth 100000 in
set_option maxHeartbeats 1000000 in
theorem alike_c (w0 : World) (h : PH) (hl : h.le w0) (p : Nat) (g : MG) (m : MS) (pk : Nat) (gk : KG) (k : Rm) (ho : (sepA [memA p g m, kA pk gk k]).ok (hp w0)) (hd : ∀ b, (sepA [memA p g m, kA pk gk k]).fp b → h b = none) (hf : MemF h g m) (hkf : KF h gk k) (hi : MInv m) (hs : Sim m k) (hw : k.W.length ≤ 1000) :
    Tot Try.prog 29 #[.pointer (some ⟨p, 0, none⟩), .pointer (some ⟨pk, 0, none⟩)] w0 (fun v w' => ∃ gk' H', v = .bool true ∧ ExtM w0 (sepA [memA p g m, kA pk gk k]).fp h H' ∧ H'.le w' ∧ (∀ b, (sepA [memA p g m, kA pk gk' k]).fp b → H' b = none) ∧ KF H' gk' k ∧ Mut w0 (sepA [memA p g m, kA pk gk k]) (sepA [memA p g m, kA pk gk' k]) w') := by
  have hl1 := hi.len1
  have hl2 := hi.len2
  have hl3 := hi.len3
  have hl4 := hi.len4
  have hnl := hi.nl
  refine fn0 (args := [.pointer (some ⟨p, 0, none⟩), .pointer (some ⟨pk, 0, none⟩)]) (F := [(0, .pointer (some ⟨p, 0, none⟩)), (1, .pointer (some ⟨pk, 0, none⟩))]) Try.func29 rfl Try.ntmps29 rfl rfl fun a hF => ?_
  have hS : St w0 (sepA [memA p g m, kA pk gk k]).fp [h] [memA p g m, kA pk gk k] w0 := .startL (by simpa using hl) ho (fun b hb x hx => by simp at hx; subst hx; exact hd b hb)
  refine th <| rg <| ls <| q1 hF rfl (e_asg hF rfl) fun a hF =>
    re <| tn <| ?_
  refine th <| rg <| ls <| q1 hF rfl (e_move hF rfl) fun a hF =>
    ls <| c1 hF rfl Try.call36 (kpending_c (hS.hs _ (.head _)) (hS.ok _ (.tail _ (.head _))) (fun b hb => (hS.own _ (.tail _ (.head _)) b hb).2 _ (.head _)) hkf hi hs hw) ⟨rfl, trivial⟩ (fun v w a hR hF => ?_)
  obtain ⟨gk1, oap, cap, rfl, hkf, hmut⟩ := hR
  replace hS := (hS.mut hmut (.tail .head)).pickL (.cons (.tail .head) (.cons .head .nil))
  clear hmut
  replace hS := hS.unsep2
  refine ls <| q1 hF rfl (e_asg hF rfl) fun a hF =>
    ls <| q1 hF rfl (e_asg hF rfl) fun a hF =>
    re <| tn <| ?_
  refine th <| th <| rdL (sub_cons (.tail _ (.tail _ (.head _))) (sub_cons (.head _) (sub_cons (.tail _ (.head _)) sub_nil))) 25 hS wide fun w hS => ?_
  refine d1 (i := 0) rfl (by kernel_rfl) (by kernel_rfl) (hS.lds (fun _ hx => hx) (sub_cons (.tail _ (.tail _ (.head _))) (sub_cons (.head _) (sub_cons (.tail _ (.head _)) sub_nil)))) hF rfl (fun _ _ _ h => h) (fun w hl => e_move hF rfl) fun a hF =>
    d1 (i := 2) rfl (by kernel_rfl) (by kernel_rfl) (hS.lds (fun _ hx => hx) (sub_cons (.tail _ (.tail _ (.head _))) (sub_cons (.head _) (sub_cons (.tail _ (.head _)) sub_nil)))) hF rfl (fun _ _ _ h => h) (fun w hl => e_move hF rfl) fun a hF =>
    d1 (i := 3) rfl (by kernel_rfl) (by kernel_rfl) (hS.lds (fun _ hx => hx) (sub_cons (.tail _ (.tail _ (.head _))) (sub_cons (.head _) (sub_cons (.tail _ (.head _)) sub_nil)))) hF rfl (fun _ _ _ h => h) (fun w hl => e_nilp hF rfl) fun a hF =>
    d1 (i := 4) rfl (by kernel_rfl) (by kernel_rfl) (hS.lds (fun _ hx => hx) (sub_cons (.tail _ (.tail _ (.head _))) (sub_cons (.head _) (sub_cons (.tail _ (.head _)) sub_nil)))) hF rfl (fun _ _ _ h => h) (fun w hl => e_fa hF fa71_2 rfl) fun a hF =>
    d1 (i := 5) rfl (by kernel_rfl) (by kernel_rfl) (hS.lds (fun _ hx => hx) (sub_cons (.tail _ (.tail _ (.head _))) (sub_cons (.head _) (sub_cons (.tail _ (.head _)) sub_nil)))) hF rfl (fun _ _ _ h => h) (fun w hl => e_ld hF Try.isAgg26 rfl (kcell2 hl (.tail _ (.head _)))) fun a hF =>
    da1 (i := 1) (by kernel_rfl) ?_
  refine di (i := 1) rfl <| c1 hF rfl Try.call14 (all_c _ _ _ _ (memA_read (hS.ok _ (.tail _ (.tail _ (.head _)))) (hS.hs _ (.head _)) hf) hi) ⟨rfl, trivial⟩ (fun v w a hR hF => ?_)
  obtain ⟨_, _, rfl, hfr⟩ := hR
  replace hS := hS.fresh hfr
  clear hfr
  refine ⟨fun _ => (hS.lds (fun _ hx => hx) (sub_cons (.tail _ (.tail _ (.tail _ (.head _)))) (sub_cons (.tail _ (.head _)) (sub_cons (.tail _ (.tail _ (.head _))) sub_nil)))), ?_⟩
  refine da1 (i := 6) (by kernel_rfl) ?_
  refine di (i := 6) rfl <| c1 hF rfl Try.call12 (intsT _ _ _ _ _ _ _ _ _ (hS.rdO (.head _)) (kRdL (hS.ok _ (.tail _ (.head _)))) (by omega) rfl rfl hs.l.symm) ⟨rfl, rfl, trivial⟩ (fun v w a hR hF => ?_)
  obtain ⟨rfl, hk⟩ := hR
  replace hS := hS.pass hk
  clear hk
  refine ⟨fun _ => (hS.lds (fun _ hx => hx) (sub_cons (.tail _ (.tail _ (.tail _ (.head _)))) (sub_cons (.tail _ (.head _)) (sub_cons (.tail _ (.tail _ (.head _))) sub_nil)))), ?_⟩
  refine d1 (i := 7) rfl (by kernel_rfl) (by kernel_rfl) (hS.lds (fun _ hx => hx) (sub_cons (.tail _ (.tail _ (.tail _ (.head _)))) (sub_cons (.tail _ (.head _)) (sub_cons (.tail _ (.tail _ (.head _))) sub_nil)))) hF rfl (fun _ _ _ h => h) (fun w hl => e_not hF rfl) fun a hF =>
    d1 (i := 8) rfl (by kernel_rfl) (by kernel_rfl) (hS.lds (fun _ hx => hx) (sub_cons (.tail _ (.tail _ (.tail _ (.head _)))) (sub_cons (.tail _ (.head _)) (sub_cons (.tail _ (.tail _ (.head _))) sub_nil)))) hF rfl (fun _ _ _ h => h) (fun w hl => e_move hF rfl) fun a hF =>
    d1g (i := 9) rfl (by kernel_rfl) (by kernel_rfl) (hS.lds (fun _ hx => hx) (sub_cons (.tail _ (.tail _ (.tail _ (.head _)))) (sub_cons (.tail _ (.head _)) (sub_cons (.tail _ (.tail _ (.head _))) sub_nil)))) hF rfl rfl rfl (fun _ _ _ h => h) (fun w hl => e_move hF rfl) fun a hF =>
    d1g (i := 11) rfl (by kernel_rfl) (by kernel_rfl) (hS.lds (fun _ hx => hx) (sub_cons (.tail _ (.tail _ (.tail _ (.head _)))) (sub_cons (.tail _ (.head _)) (sub_cons (.tail _ (.tail _ (.head _))) sub_nil)))) hF rfl rfl rfl (fun _ _ _ h => h) (fun w hl => e_move hF rfl) fun a hF =>
    d1g (i := 12) rfl (by kernel_rfl) (by kernel_rfl) (hS.lds (fun _ hx => hx) (sub_cons (.tail _ (.tail _ (.tail _ (.head _)))) (sub_cons (.tail _ (.head _)) (sub_cons (.tail _ (.tail _ (.head _))) sub_nil)))) hF rfl rfl rfl (fun _ _ _ h => h) (fun w hl => e_nilp hF rfl) fun a hF =>
    d1g (i := 13) rfl (by kernel_rfl) (by kernel_rfl) (hS.lds (fun _ hx => hx) (sub_cons (.tail _ (.tail _ (.tail _ (.head _)))) (sub_cons (.tail _ (.head _)) (sub_cons (.tail _ (.tail _ (.head _))) sub_nil)))) hF rfl rfl rfl (fun _ _ _ h => h) (fun w hl => e_fa hF fa71_3 rfl) fun a hF =>
    d1g (i := 14) rfl (by kernel_rfl) (by kernel_rfl) (hS.lds (fun _ hx => hx) (sub_cons (.tail _ (.tail _ (.tail _ (.head _)))) (sub_cons (.tail _ (.head _)) (sub_cons (.tail _ (.tail _ (.head _))) sub_nil)))) hF rfl rfl rfl (fun _ _ _ h => h) (fun w hl => e_ld hF Try.isAgg26 rfl (kcell3 hl (.tail _ (.head _)))) fun a hF =>
    da1 (i := 10) (by kernel_rfl) ?_
  refine di (i := 10) rfl <| gy hF rfl rfl <| c1 hF rfl Try.call15 (kept_c _ _ _ _ (memA_read (hS.ok _ (.tail _ (.tail _ (.tail _ (.head _))))) (hS.hs _ (.head _)) hf) hi) ⟨rfl, trivial⟩ (fun v w a hR hF => ?_)
  obtain ⟨_, _, rfl, hfr⟩ := hR
  replace hS := hS.fresh hfr
  clear hfr
  refine ⟨fun _ => (hS.lds (fun _ hx => hx) (sub_cons (.tail _ (.tail _ (.tail _ (.tail _ (.head _))))) (sub_cons (.tail _ (.tail _ (.head _))) (sub_cons (.tail _ (.tail _ (.tail _ (.head _)))) sub_nil)))), ?_⟩
  refine da1 (i := 15) (by kernel_rfl) ?_
  refine di (i := 15) rfl <| gy hF rfl rfl <| c1 hF rfl Try.call12 (intsT _ _ _ _ _ _ _ _ _ (hS.rdO (.head _)) (kRdK (hS.ok _ (.tail _ (.tail _ (.head _))))) (by omega) rfl rfl hs.kept.symm) ⟨rfl, rfl, trivial⟩ (fun v w a hR hF => ?_)
  obtain ⟨rfl, hk⟩ := hR
  replace hS := hS.pass hk
  clear hk
  refine ⟨fun _ => (hS.lds (fun _ hx => hx) (sub_cons (.tail _ (.tail _ (.tail _ (.tail _ (.head _))))) (sub_cons (.tail _ (.tail _ (.head _))) (sub_cons (.tail _ (.tail _ (.tail _ (.head _)))) sub_nil)))), ?_⟩
  refine d1g (i := 16) rfl (by kernel_rfl) (by kernel_rfl) (hS.lds (fun _ hx => hx) (sub_cons (.tail _ (.tail _ (.tail _ (.tail _ (.head _))))) (sub_cons (.tail _ (.tail _ (.head _))) (sub_cons (.tail _ (.tail _ (.tail _ (.head _)))) sub_nil)))) hF rfl rfl rfl (fun _ _ _ h => h) (fun w hl => e_not hF rfl) fun a hF =>
    d1 (i := 17) rfl (by kernel_rfl) (by kernel_rfl) (hS.lds (fun _ hx => hx) (sub_cons (.tail _ (.tail _ (.tail _ (.tail _ (.head _))))) (sub_cons (.tail _ (.tail _ (.head _))) (sub_cons (.tail _ (.tail _ (.tail _ (.head _)))) sub_nil)))) hF rfl (fun _ _ _ h => h) (fun w hl => e_pickF hF rfl rfl) fun a hF =>
    d1 (i := 18) rfl (by kernel_rfl) (by kernel_rfl) (hS.lds (fun _ hx => hx) (sub_cons (.tail _ (.tail _ (.tail _ (.tail _ (.head _))))) (sub_cons (.tail _ (.tail _ (.head _))) (sub_cons (.tail _ (.tail _ (.tail _ (.head _)))) sub_nil)))) hF rfl (fun _ _ _ h => h) (fun w hl => e_move hF rfl) fun a hF =>
    d1g (i := 19) rfl (by kernel_rfl) (by kernel_rfl) (hS.lds (fun _ hx => hx) (sub_cons (.tail _ (.tail _ (.tail _ (.tail _ (.head _))))) (sub_cons (.tail _ (.tail _ (.head _))) (sub_cons (.tail _ (.tail _ (.tail _ (.head _)))) sub_nil)))) hF rfl rfl rfl (fun _ _ _ h => h) (fun w hl => e_move hF rfl) fun a hF =>
    d1g (i := 21) rfl (by kernel_rfl) (by kernel_rfl) (hS.lds (fun _ hx => hx) (sub_cons (.tail _ (.tail _ (.tail _ (.tail _ (.head _))))) (sub_cons (.tail _ (.tail _ (.head _))) (sub_cons (.tail _ (.tail _ (.tail _ (.head _)))) sub_nil)))) hF rfl rfl rfl (fun _ _ _ h => h) (fun w hl => e_move hF rfl) fun a hF =>
    da1 (i := 20) (by kernel_rfl) ?_
  refine di (i := 20) rfl <| gy hF rfl rfl <| c1 hF rfl Try.call9 (pending_c _ _ _ _ (memA_read (hS.ok _ (.tail _ (.tail _ (.tail _ (.tail _ (.head _)))))) (hS.hs _ (.head _)) hf) hi) ⟨rfl, trivial⟩ (fun v w a hR hF => ?_)
  obtain ⟨_, _, rfl, hfr⟩ := hR
  replace hS := hS.fresh hfr
  clear hfr
  refine ⟨fun _ => (hS.lds (fun _ hx => hx) (sub_cons (.tail _ (.tail _ (.tail _ (.tail _ (.tail _ (.head _)))))) (sub_cons (.tail _ (.tail _ (.tail _ (.head _)))) (sub_cons (.tail _ (.tail _ (.tail _ (.tail _ (.head _))))) sub_nil)))), ?_⟩
  refine da1 (i := 22) (by kernel_rfl) ?_
  refine di (i := 22) rfl <| gy hF rfl rfl <| c1 hF rfl Try.call12 (intsT _ _ _ _ _ _ _ _ _ (hS.rdO (.head _)) (hS.rdO (.tail _ (.tail _ (.tail _ (.tail _ (.head _)))))) (by rw [pendL_len]; omega) (pendL_len _ _).symm (pendL_len _ _).symm rfl) ⟨rfl, rfl, trivial⟩ (fun v w a hR hF => ?_)
  obtain ⟨rfl, hk⟩ := hR
  replace hS := hS.pass hk
  clear hk
  refine ⟨fun _ => (hS.lds (fun _ hx => hx) (sub_cons (.tail _ (.tail _ (.tail _ (.tail _ (.tail _ (.head _)))))) (sub_cons (.tail _ (.tail _ (.tail _ (.head _)))) (sub_cons (.tail _ (.tail _ (.tail _ (.tail _ (.head _))))) sub_nil)))), ?_⟩
  refine d1g (i := 23) rfl (by kernel_rfl) (by kernel_rfl) (hS.lds (fun _ hx => hx) (sub_cons (.tail _ (.tail _ (.tail _ (.tail _ (.tail _ (.head _)))))) (sub_cons (.tail _ (.tail _ (.tail _ (.head _)))) (sub_cons (.tail _ (.tail _ (.tail _ (.tail _ (.head _))))) sub_nil)))) hF rfl rfl rfl (fun _ _ _ h => h) (fun w hl => e_not hF rfl) fun a hF =>
    d1 (i := 24) rfl (by kernel_rfl) (by kernel_rfl) (hS.lds (fun _ hx => hx) (sub_cons (.tail _ (.tail _ (.tail _ (.tail _ (.tail _ (.head _)))))) (sub_cons (.tail _ (.tail _ (.tail _ (.head _)))) (sub_cons (.tail _ (.tail _ (.tail _ (.tail _ (.head _))))) sub_nil)))) hF rfl (fun _ _ _ h => h) (fun w hl => e_pickF hF rfl rfl) fun a hF =>
    de (by kernel_rfl) <| tn <| ?_
  refine cf hF rfl <| wk <| tn <| ?_
  replace hS := hS.pickL (.cons (.tail (.tail (.tail (.tail (.tail .head))))) (.cons (.tail (.tail (.tail .head))) (.cons (.tail (.tail (.tail .head))) .nil)))
  refine th <| th <| rg <| ls <| q1 hF rfl (e_asg hF rfl) fun a hF =>
    re <| tn <| ?_
  refine wb <| lp (α := Nat) (fun (gh : Nat) a w => match gh with | i => Fr 61 [(0, .pointer (some ⟨p, 0, none⟩)), (1, .pointer (some ⟨pk, 0, none⟩)), (5, .slice oap (nlines m) cap), (6, .int .i64 ((tot m i : Nat) : Int)), (7, .int .i64 ((i : Nat) : Int))] a ∧ St w0 (sepA [memA p g m, kA pk gk k]).fp [h] [memA p g m, kA pk gk1 k, sla 3 1 oap (nlines m) cap (ints (pendL m (nlines m)))] w ∧ i ≤ nlines m) (fun (gh : Nat) => match gh with | i => nlines m - i) 0 ⟨hF.has ⟨rfl, rfl, rfl, rfl, rfl, trivial⟩, hS, Nat.zero_le _⟩ ?_
  clear hF hS
  rintro i a w ⟨hF, hS, hin⟩
  refine th <| th <| rg <| ls <| q1 hF rfl (e_move hF rfl) fun a hF =>
    ls <| q1 hF rfl (e_move hF rfl) fun a hF =>
    ls <| q1 hF rfl (e_lenS hF Try.runUnderlying26 rfl) fun a hF =>
    ls <| q1 hF rfl (e_lss hF rfl rfl) fun a hF =>
    ls <| q1 hF rfl (e_move hF rfl) fun a hF =>
    Fr.split hF (t := 39) rfl (fun hb hF => ?_) (fun hb hF => ?_)
  ·
    replace hb := of_decide_eq_true hb
    refine ls <| gy hF rfl rfl <| q1 hF rfl (e_move hF rfl) fun a hF =>
      ls <| gy hF rfl rfl <| q1 hF rfl (e_leq hF rfl rfl) fun a hF =>
      ls <| q1 hF rfl (e_pickT hF rfl rfl) fun a hF =>
      re <| tn <| ?_
    refine cs hF rfl (fun hb => ?_) (fun hb => ?_)
    ·
      replace hb := of_decide_eq_true hb
      refine wk <| tn <| ?_
      have hpi := pend_few hs hw ((i : Nat) : Int)
      have htl := tot_le (m := m) (i := i) (by omega) hpi
      refine th <| wb <| rg <| ls <| q1 hF rfl (e_move hF rfl) fun a hF =>
        ls <| q1 hF rfl (e_move hF rfl) fun a hF =>
        ls <| q1 hF rfl (e_move hF rfl) fun a hF =>
        ls <| q1 hF rfl (e_ia hF Try.runUnderlying26 Try.sizeOf3 rfl rfl rfl (by omega) (((St.ld hS).rdO (.tail _ (.tail _ (.head _)))).some (pend_ne (i := i) (by omega)))) fun a hF =>
        ls <| q1 hF rfl (e_ld hF Try.isAgg3 rfl ((St.ld hS).elO (.tail _ (.tail _ (.head _))) (pend_get (by omega)))) fun a hF =>
        ls <| q1 hF rfl (e_addI (r := ((((m.pend ((i : Nat) : Int)).length + 1) : Nat) : Int)) hF rfl rfl rfl (by omega)) fun a hF =>
        ls <| q1 hF rfl (e_mulI (r := ((tot m (i + 1) : Nat) : Int)) hF rfl rfl (tot_suc m i) (tot_mul htl)) fun a hF =>
        ls <| q1 hF rfl (e_asg hF rfl) fun a hF =>
        re <| bn <| tn <| ?_
      refine rg <| ls <| q1 hF rfl (e_move hF rfl) fun a hF =>
        ls <| q1 hF rfl (e_addI (r := (((i + 1) : Nat) : Int)) hF rfl rfl rfl (by omega)) fun a hF =>
        ls <| q1 hF rfl (e_asg hF rfl) fun a hF =>
        re <| tn <| ?_
      exact ⟨i + 1, ⟨hF.has ⟨rfl, rfl, rfl, rfl, rfl, trivial⟩, hS, (by omega)⟩, (by dsimp only; omega)⟩
    ·
      replace hb := Int.not_le.1 (of_decide_eq_false hb)
      refine we <| tx <| tx <| bx <| tn <| ?_
      refine th <| rg <| ls <| q1 hF rfl (e_move hF rfl) fun a hF =>
        ls <| q1 hF rfl (e_gtr hF rfl rfl) fun a hF =>
        ls <| q1 hF rfl (e_move hF rfl) fun a hF =>
        Fr.split hF (t := 54) rfl (fun hb hF => ?_) (fun hb hF => ?_)
      ·
        replace hb := of_decide_eq_true hb
        refine ls <| gn hF rfl rfl rfl rfl fun a hF =>
          ls <| gn hF rfl rfl rfl rfl fun a hF =>
          ls <| gn hF rfl rfl rfl rfl fun a hF =>
          ls <| gn hF rfl rfl rfl rfl fun a hF =>
          ls <| gn hF rfl rfl rfl rfl fun a hF =>
          ls <| q1 hF rfl (e_pickT hF rfl rfl) fun a hF =>
          ls <| q1 hF rfl (e_asg hF rfl) fun a hF =>
          re <| tn <| ?_
        refine wr <| ?_
        replace hS := hS.pickL (.cons .head (.cons .head .nil))
        exact r1 hF Try.results29 rfl ⟨gk1, h, rfl, .refl _ _ _, hS.hs _ (.head _), (St.disL hS), hkf, hS.endMut⟩
      ·
        replace hb := Int.not_lt.1 (of_decide_eq_false hb)
        have e : i = nlines m ∧ tot m i ≤ 200 := by omega
        have ht : tot m (nlines m) ≤ 200 := e.1 ▸ e.2
        refine ls <| gy hF rfl rfl <| q1 hF rfl (e_move hF rfl) fun a hF =>
          ls <| gy hF rfl rfl <| c1 hF rfl Try.call10 (cuts_c _ _ _ _ (memA_read (hS.ok _ (.head _)) (hS.hs _ (.head _)) hf) hi (by omega)) ⟨rfl, trivial⟩ (fun v w a hR hF => ?_)
        obtain ⟨oor, cor, rows, rfl, hrows, hfr⟩ := hR
        replace hS := (hS.fresh hfr).unsep2
        clear hfr
        refine ls <| gy hF rfl rfl <| q1 hF rfl (e_move hF rfl) fun a hF =>
          ls <| gy hF rfl rfl <| c1 hF rfl Try.call37 (kcuts_c (hS.hs _ (.head _)) (hS.ok _ (.tail _ (.tail _ (.tail _ (.head _))))) (fun b hb => (hS.own _ (.tail _ (.tail _ (.tail _ (.head _)))) b hb).2 _ (.head _)) hkf hi hs hw ht) ⟨rfl, trivial⟩ (fun v w a hR hF => ?_)
        obtain ⟨gk2, H', oo2, co2, rows2, rfl, hrows2, hro2, hrr2, hext, hle, hdis, hkf2, hmut⟩ := hR
        replace hS := hS.pickL (.cons (.tail (.tail (.tail .head))) (.cons (.tail (.tail .head)) (.cons .head (.cons .head .nil))))
        have hextM := St.extcMM hS hext
        replace hS := St.mutH hS hmut hext hle hdis
        clear hmut hext hle hdis
        refine ls <| gy hF rfl rfl <| c1 hF rfl Try.call33 (rowsK hi ht (hS.rdO (.tail _ (.tail _ (.head _)))) (hS.rdH (.head _) hro2) (hS.rdRows (.tail _ (.tail _ (.tail _ (.head _))))) (fun r hr => hS.rdH (.head _) (hrr2 r hr)) hrows hrows2) ⟨rfl, rfl, trivial⟩ (fun v w a hR hF => ?_)
        obtain ⟨rfl, hk⟩ := hR
        replace hS := hS.pass hk
        clear hk
        refine ls <| q1 hF rfl (e_pickF hF rfl rfl) fun a hF =>
          ls <| q1 hF rfl (e_asg hF rfl) fun a hF =>
          re <| tn <| ?_
        refine wr <| ?_
        replace hS := hS.pickL (.cons (.tail .head) (.cons .head .nil))
        exact r1 hF Try.results29 rfl ⟨gk2, H', rfl, hextM, hS.hs _ (.head _), (St.disL hS), hkf2, hS.endMut⟩
  ·
    replace hb := Int.not_lt.1 (of_decide_eq_false hb)
    refine ls <| gn hF rfl rfl rfl rfl fun a hF =>
      ls <| gn hF rfl rfl rfl rfl fun a hF =>
      ls <| q1 hF rfl (e_pickF hF rfl rfl) fun a hF =>
      re <| tn <| ?_
    refine cf hF rfl <| we <| tx <| tx <| bx <| tn <| ?_
    refine th <| rg <| ls <| q1 hF rfl (e_move hF rfl) fun a hF =>
      ls <| q1 hF rfl (e_gtr hF rfl rfl) fun a hF =>
      ls <| q1 hF rfl (e_move hF rfl) fun a hF =>
      Fr.split hF (t := 54) rfl (fun hb hF => ?_) (fun hb hF => ?_)
    ·
      replace hb := of_decide_eq_true hb
      refine ls <| gn hF rfl rfl rfl rfl fun a hF =>
        ls <| gn hF rfl rfl rfl rfl fun a hF =>
        ls <| gn hF rfl rfl rfl rfl fun a hF =>
        ls <| gn hF rfl rfl rfl rfl fun a hF =>
        ls <| gn hF rfl rfl rfl rfl fun a hF =>
        ls <| q1 hF rfl (e_pickT hF rfl rfl) fun a hF =>
        ls <| q1 hF rfl (e_asg hF rfl) fun a hF =>
        re <| tn <| ?_
      refine wr <| ?_
      replace hS := hS.pickL (.cons .head (.cons .head .nil))
      exact r1 hF Try.results29 rfl ⟨gk1, h, rfl, .refl _ _ _, hS.hs _ (.head _), (St.disL hS), hkf, hS.endMut⟩
    ·
      replace hb := Int.not_lt.1 (of_decide_eq_false hb)
      have e : i = nlines m ∧ tot m i ≤ 200 := by omega
      have ht : tot m (nlines m) ≤ 200 := e.1 ▸ e.2
      refine ls <| gy hF rfl rfl <| q1 hF rfl (e_move hF rfl) fun a hF =>
        ls <| gy hF rfl rfl <| c1 hF rfl Try.call10 (cuts_c _ _ _ _ (memA_read (hS.ok _ (.head _)) (hS.hs _ (.head _)) hf) hi (by omega)) ⟨rfl, trivial⟩ (fun v w a hR hF => ?_)
      obtain ⟨oor, cor, rows, rfl, hrows, hfr⟩ := hR
      replace hS := (hS.fresh hfr).unsep2
      clear hfr
      refine ls <| gy hF rfl rfl <| q1 hF rfl (e_move hF rfl) fun a hF =>
        ls <| gy hF rfl rfl <| c1 hF rfl Try.call37 (kcuts_c (hS.hs _ (.head _)) (hS.ok _ (.tail _ (.tail _ (.tail _ (.head _))))) (fun b hb => (hS.own _ (.tail _ (.tail _ (.tail _ (.head _)))) b hb).2 _ (.head _)) hkf hi hs hw ht) ⟨rfl, trivial⟩ (fun v w a hR hF => ?_)
      obtain ⟨gk2, H', oo2, co2, rows2, rfl, hrows2, hro2, hrr2, hext, hle, hdis, hkf2, hmut⟩ := hR
      replace hS := hS.pickL (.cons (.tail (.tail (.tail .head))) (.cons (.tail (.tail .head)) (.cons .head (.cons .head .nil))))
      have hextM := St.extcMM hS hext
      replace hS := St.mutH hS hmut hext hle hdis
      clear hmut hext hle hdis
      refine ls <| gy hF rfl rfl <| c1 hF rfl Try.call33 (rowsK hi ht (hS.rdO (.tail _ (.tail _ (.head _)))) (hS.rdH (.head _) hro2) (hS.rdRows (.tail _ (.tail _ (.tail _ (.head _))))) (fun r hr => hS.rdH (.head _) (hrr2 r hr)) hrows hrows2) ⟨rfl, rfl, trivial⟩ (fun v w a hR hF => ?_)
      obtain ⟨rfl, hk⟩ := hR
      replace hS := hS.pass hk
      clear hk
      refine ls <| q1 hF rfl (e_pickF hF rfl rfl) fun a hF =>
        ls <| q1 hF rfl (e_asg hF rfl) fun a hF =>
        re <| tn <| ?_
      refine wr <| ?_
      replace hS := hS.pickL (.cons (.tail .head) (.cons .head .nil))
      exact r1 hF Try.results29 rfl ⟨gk2, H', rfl, hextM, hS.hs _ (.head _), (St.disL hS), hkf2, hS.endMut⟩

end Go.LM.LINES
