/- Walks over what compares lists. No condition beyond each theorem's own premises. -/
import Derived.Test.YtkgaliichchanaaLN7
namespace Go.LL
open Go Go.Proofs


theorem take_succ_eq {α : Type} {l m : List α} {k : Nat} (h : k < l.length) (h' : k < m.length) (he : l.take k = m.take k) (hx : l[k] = m[k]) : l.take (k + 1) = m.take (k + 1) := by
  rw [List.take_succ_eq_append_getElem h, List.take_succ_eq_append_getElem h', he, hx]
theorem all_eq {α : Type} {l m : List α} {k : Nat} (hl : l.length = m.length) (h : l.length ≤ k) (he : l.take k = m.take k) : l = m := by
  rwa [List.take_of_length_le h, List.take_of_length_le (by omega)] at he

set_option maxRecDepth 100000 in
theorem ints_c (w0 : World) (oa ob : Option Addr) (ca cb : Nat) (xs ys : List Int) (ra : Rd (hp w0) oa (ints xs)) (rb : Rd (hp w0) ob (ints ys)) (hx : xs.length ≤ 1000000) :
    Tot Try.prog 12 #[.slice oa xs.length ca, .slice ob ys.length cb] w0 (fun v w' => v = .bool (decide (xs = ys)) ∧ Keep Nil w0 w') := by
  refine fn0 (args := [.slice oa xs.length ca, .slice ob ys.length cb]) (F := [(0, .slice oa xs.length ca), (1, .slice ob ys.length cb)]) Try.func12 rfl Try.ntmps12 rfl rfl fun a hF => ?_
  have hS : St w0 Nil [hp w0] [] w0 := .start (by simp [hp_le])
  refine th <| rg <| ls <| q1 hF rfl (e_asg hF rfl) fun a hF =>
    re <| tn <| ?_
  refine th <| th <| rg <| ls <| q1 hF rfl (e_move hF rfl) fun a hF =>
    ls <| q1 hF rfl (e_lenS hF Try.runUnderlying26 rfl) fun a hF =>
    ls <| q1 hF rfl (e_move hF rfl) fun a hF =>
    ls <| q1 hF rfl (e_lenS hF Try.runUnderlying26 rfl) fun a hF =>
    ls <| q1 hF rfl (e_neq hF rfl rfl) fun a hF =>
    re <| tn <| ?_
  refine cs hF rfl (fun hb => ?_) (fun hb => ?_)
  ·
    replace hb := of_decide_eq_true hb
    refine th <| rg <| ls <| q1 hF rfl (e_asg hF rfl) fun a hF =>
      re <| tn <| ?_
    refine wr <| tr <| ?_
    exact r1 hF Try.results12 rfl ⟨by rw [decide_eq_false (by first | (intro e; subst e; exact hb rfl) | (intro e; subst e; exact hb rfl))], hS.keep⟩
  ·
    replace hb := Classical.not_not.1 (of_decide_eq_false hb)
    refine wk <| tn <| ?_
    refine th <| th <| rg <| ls <| q1 hF rfl (e_asg hF rfl) fun a hF =>
      re <| tn <| ?_
    refine wb <| lp (α := Nat) (fun (gh : Nat) a w => match gh with | k => Fr 26 [(0, .slice oa xs.length ca), (1, .slice ob ys.length cb), (5, .int .i64 (k : Int))] a ∧ St w0 Nil [hp w0] [] w ∧ (k ≤ xs.length ∧ xs.take k = ys.take k)) (fun (gh : Nat) => match gh with | k => xs.length - k) 0 ⟨hF.has ⟨rfl, rfl, rfl, trivial⟩, hS, ⟨Nat.zero_le _, by simp⟩⟩ ?_
    clear hF hS
    rintro k a w ⟨hF, hS, hk, heq⟩
    refine th <| th <| rg <| ls <| q1 hF rfl (e_move hF rfl) fun a hF =>
      ls <| q1 hF rfl (e_move hF rfl) fun a hF =>
      ls <| q1 hF rfl (e_lenS hF Try.runUnderlying26 rfl) fun a hF =>
      ls <| q1 hF rfl (e_lss hF rfl rfl) fun a hF =>
      re <| tn <| ?_
    refine cs hF rfl (fun hb => ?_) (fun hb => ?_)
    ·
      replace hb := of_decide_eq_true hb
      refine wk <| tn <| ?_
      refine th <| wb <| th <| rxS 9 hS wide (by kernel_rfl) fun w hS => ?_
      refine x1 (St.ld hS) hF rfl rfl (fun _ _ _ h => h) (fun w hl => e_move hF rfl) fun a hF =>
        x1 (St.ld hS) hF rfl rfl (fun _ _ _ h => h) (fun w hl => e_move hF rfl) fun a hF =>
        x1 (St.ld hS) hF rfl rfl (fun _ _ _ h => h) (fun w hl => e_ia hF Try.runUnderlying26 Try.sizeOf3 rfl rfl rfl (by omega) (ra.some (ints_ne (l := xs) (by omega)))) fun a hF =>
        x1 (St.ld hS) hF rfl rfl (fun _ _ _ h => h) (fun w hl => e_ld hF Try.isAgg3 rfl (hl.elH (.head _) ra (ints_get (l := xs) (k := k) (by omega)))) fun a hF =>
        x1 (St.ld hS) hF rfl rfl (fun _ _ _ h => h) (fun w hl => e_move hF rfl) fun a hF =>
        x1 (St.ld hS) hF rfl rfl (fun _ _ _ h => h) (fun w hl => e_move hF rfl) fun a hF =>
        x1 (St.ld hS) hF rfl rfl (fun _ _ _ h => h) (fun w hl => e_ia hF Try.runUnderlying26 Try.sizeOf3 rfl rfl rfl (by omega) (rb.some (ints_ne (l := ys) (by omega)))) fun a hF =>
        x1 (St.ld hS) hF rfl rfl (fun _ _ _ h => h) (fun w hl => e_ld hF Try.isAgg3 rfl (hl.elH (.head _) rb (ints_get (l := ys) (k := k) (by omega)))) fun a hF =>
        x1 (St.ld hS) hF rfl rfl (fun _ _ _ h => h) (fun w hl => e_neq hF rfl rfl) fun a hF =>
        xe <| tn <| ?_
      refine cs hF rfl (fun hb => ?_) (fun hb => ?_)
      ·
        replace hb := of_decide_eq_true hb
        refine th <| rg <| ls <| q1 hF rfl (e_asg hF rfl) fun a hF =>
          re <| tn <| ?_
        refine wr <| br <| tr <| tr <| br <| tr <| ?_
        exact r1 hF Try.results12 rfl ⟨by rw [decide_eq_false (by first | (intro e; subst e; exact hb rfl) | (intro e; subst e; exact hb rfl))], hS.keep⟩
      ·
        replace hb := Classical.not_not.1 (of_decide_eq_false hb)
        refine wk <| bn <| tn <| ?_
        refine rg <| ls <| q1 hF rfl (e_move hF rfl) fun a hF =>
          ls <| q1 hF rfl (e_addI (r := (((k + 1) : Nat) : Int)) hF rfl rfl rfl (by omega)) fun a hF =>
          ls <| q1 hF rfl (e_asg hF rfl) fun a hF =>
          re <| tn <| ?_
        have hkx : k < xs.length := by omega
        have hky : k < ys.length := by omega
        exact ⟨k + 1, ⟨hF.has ⟨rfl, rfl, rfl, trivial⟩, hS, ⟨by omega, take_succ_eq hkx hky heq hb⟩⟩, (by dsimp only; omega)⟩
    ·
      replace hb := Int.not_lt.1 (of_decide_eq_false hb)
      refine we <| tx <| tx <| bx <| tn <| ?_
      refine th <| rg <| ls <| q1 hF rfl (e_asg hF rfl) fun a hF =>
        re <| tn <| ?_
      refine wr <| ?_
      exact r1 hF Try.results12 rfl ⟨by rw [decide_eq_true (all_eq (by omega) (by omega) heq)], hS.keep⟩

theorem intsN (w0 : World) (oa ob : Option Addr) (na nb ca cb : Nat) (xs ys : List Int) (ra : Rd (hp w0) oa (ints xs)) (rb : Rd (hp w0) ob (ints ys)) (hx : xs.length ≤ 1000000) (ha : na = xs.length) (hb : nb = ys.length) :
    Tot Try.prog 12 #[.slice oa na ca, .slice ob nb cb] w0 (fun v w' => v = .bool (decide (xs = ys)) ∧ Keep Nil w0 w') := by
  subst ha; subst hb; exact ints_c w0 oa ob ca cb xs ys ra rb hx
theorem intsT (w0 : World) (oa ob : Option Addr) (na nb ca cb : Nat) (xs ys : List Int) (ra : Rd (hp w0) oa (ints xs)) (rb : Rd (hp w0) ob (ints ys)) (hx : xs.length ≤ 1000000) (ha : na = xs.length) (hb : nb = ys.length) (he : xs = ys) :
    Tot Try.prog 12 #[.slice oa na ca, .slice ob nb cb] w0 (fun v w' => v = .bool true ∧ Keep Nil w0 w') := by
  have h := intsN w0 oa ob na nb ca cb xs ys ra rb hx ha hb
  rw [decide_eq_true he] at h
  exact h

theorem rows_at {l m : List Row} {k : Nat} (e : l.map (·.xs) = m.map (·.xs)) (h1 : k < l.length) (h2 : k < m.length) : l[k].xs = m[k].xs := by
  have h := congrArg (fun z => z[k]?) e
  simpa [h1, h2] using h

set_option maxRecDepth 100000 in
theorem rows_c (w0 : World) (oa ob : Option Addr) (ca cb : Nat) (ra rb : List Row) (h1 : Rd (hp w0) oa (rowsV ra)) (h2 : Rd (hp w0) ob (rowsV rb)) (k1 : ∀ r ∈ ra, Rd (hp w0) r.oa (ints r.xs) ∧ r.xs.length ≤ 1000000) (k2 : ∀ r ∈ rb, Rd (hp w0) r.oa (ints r.xs) ∧ r.xs.length ≤ 1000000) (hl : ra.length ≤ 1000000) :
    Tot Try.prog 33 #[.slice oa ra.length ca, .slice ob rb.length cb] w0 (fun v w' => v = .bool (decide (ra.map (·.xs) = rb.map (·.xs))) ∧ Keep Nil w0 w') := by
  refine fn0 (args := [.slice oa ra.length ca, .slice ob rb.length cb]) (F := [(0, .slice oa ra.length ca), (1, .slice ob rb.length cb)]) Try.func33 rfl Try.ntmps33 rfl rfl fun a hF => ?_
  have hS : St w0 Nil [hp w0] [] w0 := .start (by simp [hp_le])
  refine th <| rg <| ls <| q1 hF rfl (e_asg hF rfl) fun a hF =>
    re <| tn <| ?_
  refine th <| th <| rg <| ls <| q1 hF rfl (e_move hF rfl) fun a hF =>
    ls <| q1 hF rfl (e_lenS hF Try.runUnderlying28 rfl) fun a hF =>
    ls <| q1 hF rfl (e_move hF rfl) fun a hF =>
    ls <| q1 hF rfl (e_lenS hF Try.runUnderlying28 rfl) fun a hF =>
    ls <| q1 hF rfl (e_neq hF rfl rfl) fun a hF =>
    re <| tn <| ?_
  refine cs hF rfl (fun hb => ?_) (fun hb => ?_)
  ·
    replace hb := of_decide_eq_true hb
    refine th <| rg <| ls <| q1 hF rfl (e_asg hF rfl) fun a hF =>
      re <| tn <| ?_
    refine wr <| tr <| ?_
    exact r1 hF Try.results33 rfl ⟨by rw [decide_eq_false (by first | (intro e; have e2 := congrArg List.length e; simp only [List.length_map] at e2; exact hb (by omega)) | (intro e; exact hb (rows_at e (by omega) (by omega))))], hS.keep⟩
  ·
    replace hb := Classical.not_not.1 (of_decide_eq_false hb)
    refine wk <| tn <| ?_
    refine th <| th <| rg <| ls <| q1 hF rfl (e_asg hF rfl) fun a hF =>
      re <| tn <| ?_
    refine wb <| lp (α := Nat) (fun (gh : Nat) a w => match gh with | k => Fr 27 [(0, .slice oa ra.length ca), (1, .slice ob rb.length cb), (5, .int .i64 (k : Int))] a ∧ St w0 Nil [hp w0] [] w ∧ (k ≤ ra.length ∧ (ra.map (·.xs)).take k = (rb.map (·.xs)).take k)) (fun (gh : Nat) => match gh with | k => ra.length - k) 0 ⟨hF.has ⟨rfl, rfl, rfl, trivial⟩, hS, ⟨Nat.zero_le _, by simp⟩⟩ ?_
    clear hF hS
    rintro k a w ⟨hF, hS, hk, heq⟩
    refine th <| th <| rg <| ls <| q1 hF rfl (e_move hF rfl) fun a hF =>
      ls <| q1 hF rfl (e_move hF rfl) fun a hF =>
      ls <| q1 hF rfl (e_lenS hF Try.runUnderlying28 rfl) fun a hF =>
      ls <| q1 hF rfl (e_lss hF rfl rfl) fun a hF =>
      re <| tn <| ?_
    refine cs hF rfl (fun hb => ?_) (fun hb => ?_)
    ·
      replace hb := of_decide_eq_true hb
      refine wk <| tn <| ?_
      refine th <| wb <| th <| rdL sub_nil 10 hS wide fun w hS => ?_
      refine d1 (i := 0) rfl (by kernel_rfl) (by kernel_rfl) (hS.lds (fun _ hx => hx) sub_nil) hF rfl (fun _ _ _ h => h) (fun w hl => e_move hF rfl) fun a hF =>
        d1 (i := 1) rfl (by kernel_rfl) (by kernel_rfl) (hS.lds (fun _ hx => hx) sub_nil) hF rfl (fun _ _ _ h => h) (fun w hl => e_move hF rfl) fun a hF =>
        d1 (i := 2) rfl (by kernel_rfl) (by kernel_rfl) (hS.lds (fun _ hx => hx) sub_nil) hF rfl (fun _ _ _ h => h) (fun w hl => e_ia hF Try.runUnderlying28 Try.sizeOf26 rfl rfl rfl (by omega) (h1.some (rowsV_ne (l := ra) (by omega)))) fun a hF =>
        d1 (i := 3) rfl (by kernel_rfl) (by kernel_rfl) (hS.lds (fun _ hx => hx) sub_nil) hF rfl (fun _ _ _ h => h) (fun w hl => e_ld hF Try.isAgg26 rfl (hl.elH (.head _) h1 (rowsV_get (l := ra) (k := k) (by omega)))) fun a hF =>
        d1 (i := 4) rfl (by kernel_rfl) (by kernel_rfl) (hS.lds (fun _ hx => hx) sub_nil) hF rfl (fun _ _ _ h => h) (fun w hl => e_move hF rfl) fun a hF =>
        d1 (i := 5) rfl (by kernel_rfl) (by kernel_rfl) (hS.lds (fun _ hx => hx) sub_nil) hF rfl (fun _ _ _ h => h) (fun w hl => e_move hF rfl) fun a hF =>
        d1 (i := 6) rfl (by kernel_rfl) (by kernel_rfl) (hS.lds (fun _ hx => hx) sub_nil) hF rfl (fun _ _ _ h => h) (fun w hl => e_ia hF Try.runUnderlying28 Try.sizeOf26 rfl rfl rfl (by omega) (h2.some (rowsV_ne (l := rb) (by omega)))) fun a hF =>
        d1 (i := 7) rfl (by kernel_rfl) (by kernel_rfl) (hS.lds (fun _ hx => hx) sub_nil) hF rfl (fun _ _ _ h => h) (fun w hl => e_ld hF Try.isAgg26 rfl (hl.elH (.head _) h2 (rowsV_get (l := rb) (k := k) (by omega)))) fun a hF =>
        da1 (i := 8) (by kernel_rfl) ?_
      refine di (i := 8) rfl <| c1 hF rfl Try.call12 (ints_c _ _ _ _ _ ra[k].xs rb[k].xs (hS.rdH (.head _) (k1 _ (List.getElem_mem (by omega : k < ra.length))).1) (hS.rdH (.head _) (k2 _ (List.getElem_mem (by omega : k < rb.length))).1) (k1 _ (List.getElem_mem (by omega : k < ra.length))).2) ⟨rfl, rfl, trivial⟩ (fun v w a hR hF => ?_)
      obtain ⟨rfl, hk'⟩ := hR
      replace hS := hS.pass hk'
      refine ⟨fun _ => (hS.lds (fun _ hx => hx) sub_nil), ?_⟩
      refine d1 (i := 9) rfl (by kernel_rfl) (by kernel_rfl) (hS.lds (fun _ hx => hx) sub_nil) hF rfl (fun _ _ _ h => h) (fun w hl => e_not hF rfl) fun a hF =>
        de (by kernel_rfl) <| tn <| ?_
      refine cs hF rfl (fun hb => ?_) (fun hb => ?_)
      ·
        replace hb := bnt hb
        replace hb := of_decide_eq_false hb
        refine th <| rg <| ls <| q1 hF rfl (e_asg hF rfl) fun a hF =>
          re <| tn <| ?_
        refine wr <| br <| tr <| tr <| br <| tr <| ?_
        exact r1 hF Try.results33 rfl ⟨by rw [decide_eq_false (by first | (intro e; have e2 := congrArg List.length e; simp only [List.length_map] at e2; exact hb (by omega)) | (intro e; exact hb (rows_at e (by omega) (by omega))))], hS.keep⟩
      ·
        replace hb := bnf hb
        replace hb := of_decide_eq_true hb
        refine wk <| bn <| tn <| ?_
        refine rg <| ls <| q1 hF rfl (e_move hF rfl) fun a hF =>
          ls <| q1 hF rfl (e_addI (r := (((k + 1) : Nat) : Int)) hF rfl rfl rfl (by omega)) fun a hF =>
          ls <| q1 hF rfl (e_asg hF rfl) fun a hF =>
          re <| tn <| ?_
        have hkx : k < ra.length := by omega
        have hky : k < rb.length := by omega
        exact ⟨k + 1, ⟨hF.has ⟨rfl, rfl, rfl, trivial⟩, hS, ⟨by omega, take_succ_eq (by simpa using hkx) (by simpa using hky) heq (by simpa using hb)⟩⟩, (by dsimp only; omega)⟩
    ·
      replace hb := Int.not_lt.1 (of_decide_eq_false hb)
      refine we <| tx <| tx <| bx <| tn <| ?_
      refine th <| rg <| ls <| q1 hF rfl (e_asg hF rfl) fun a hF =>
        re <| tn <| ?_
      refine wr <| ?_
      exact r1 hF Try.results33 rfl ⟨by rw [decide_eq_true (all_eq (by simp only [List.length_map]; omega) (by simp only [List.length_map]; omega) heq)], hS.keep⟩

end Go.LL
