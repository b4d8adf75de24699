/- A script that came in. No condition: plain lemmas. -/
import Derived.Test.YtkgaliichchanaaLSv
import Derived.Test.YtkgaliichchanaaLLt
namespace Go.LL
open Go Go.Proofs Go.ChangeShapes Go.WideShapes Go.ChangeAt Go.RowKit Go.WideElems

section
variable {H : Type} {enc : TypeId × Value → H} {W W' : World} {base : Nat}
theorem listOf {α : Type} {n : Nat} {p : Nat → α → Prop} (h : ∀ i, i < n → ∃ x, p i x) : ∃ l : List α, l.length = n ∧ ∀ i (h : i < l.length), p i l[i] := by
  induction n with
  | zero => exact ⟨[], rfl, fun i h => nomatch h⟩
  | succ n ih =>
    obtain ⟨l, h1, h2⟩ := ih (fun i hi => h i (by omega))
    obtain ⟨o, ho⟩ := h n (by omega)
    refine ⟨l ++ [o], by simp [h1], fun i hi => ?_⟩
    by_cases e : i < l.length
    · rw [List.getElem_append_left e]; exact h2 i e
    · have e2 : i = n := by simp at hi; omega
      subst e2
      rw [List.getElem_append_right (by omega)]
      simp only [h1, Nat.sub_self, List.getElem_cons_zero]
      exact ho
theorem open_op {sp : Nat → Bool} {held : Bool} {n : Nat} {cs : List Value} {y : DataW H × List MemPlace} (h : DataW.trod enc Try.prog W base sp held n 44 cs = some y) : ∃ o : OpV, cs = opcell o ∧ o.xs.length ≤ o.cap ∧ Rd (hp W) o.oa (ints o.xs) := by
  obtain ⟨xs, n, _, rfl, hl, hlen, hf⟩ := DataW.trod_struct Try.underlying44 h
  have c44 : Try.prog.cellsOf 44 = 4 := by kernel_rfl
  have c3 : Try.prog.cellsOf 3 = 1 := by kernel_rfl
  have c26 : Try.prog.cellsOf 26 = 1 := by kernel_rfl
  rw [c44] at hl
  match cs, hl with
  | [x0, x1, x2, x3], _ =>
    match xs, hlen with
    | [y0, y1, y2, y3], _ =>
      have h0 : DataW.trod enc Try.prog W base sp held n 3 (([x0, x1, x2, x3].drop 0).take (Try.prog.cellsOf 3)) = some y0 := hf 0 _ rfl
      have h1 : DataW.trod enc Try.prog W base sp held n 3 (([x0, x1, x2, x3].drop 1).take (Try.prog.cellsOf 3)) = some y1 := hf 1 _ rfl
      have h2 : DataW.trod enc Try.prog W base sp held n 3 (([x0, x1, x2, x3].drop 2).take (Try.prog.cellsOf 3)) = some y2 := hf 2 _ rfl
      have h3 : DataW.trod enc Try.prog W base sp held n 26 (([x0, x1, x2, x3].drop 3).take (Try.prog.cellsOf 26)) = some y3 := hf 3 _ rfl
      rw [c3] at h0 h1 h2
      rw [c26] at h3
      simp only [List.drop_zero, List.drop_succ_cons, List.take_succ_cons, List.take_zero] at h0 h1 h2 h3
      obtain ⟨k, e0, -⟩ := DataW.trod_int Try.underlying3 h0
      obtain ⟨c, e1, -⟩ := DataW.trod_int Try.underlying3 h1
      obtain ⟨m, e2, -⟩ := DataW.trod_int Try.underlying3 h2
      simp only [List.cons.injEq, and_true] at e0 e1 e2
      subst e0; subst e1; subst e2
      have hx3 : ∃ oa n cap, x3 = .slice oa n cap := by
        rcases open_ints Try.underlying26 Try.underlying3 c3 h3 with ⟨h, _⟩ | ⟨a, len, cap', zs, h, _⟩
        · simp at h; exact ⟨_, _, _, h⟩
        · simp at h; exact ⟨_, _, _, h⟩
      obtain ⟨oa, n2, cap, rfl⟩ := hx3
      obtain ⟨zs, hz, hr, hc, -⟩ := rd_of_trod Try.underlying26 Try.underlying3 c3 (oa := oa) (n := n2) (cap := cap) ⟨_, h3⟩
      subst hz
      exact ⟨⟨k, c, m, oa, cap, zs⟩, rfl, hc, hr⟩

theorem open_ops {r : Reach} {b0 : Nat} {v : Value} {d : DataW H} {ps : List MemPlace} {sp : Nat → Bool} {held : Bool} (hval : Value.okWide Try.prog W r b0 22 v) (hd : DataW.Trod enc Try.prog W base sp held 22 v d ps) :
    ∃ oo co ops, v = .slice oo ops.length co ∧ ops.length ≤ co ∧ Rd (hp W) oo (opcells ops) ∧ ∀ o ∈ ops, o.xs.length ≤ o.cap ∧ Rd (hp W) o.oa (ints o.xs) := by
  obtain ⟨oa, n, cap, rfl⟩ := okWide_slice Try.underlying22 hval
  obtain ⟨fuel, hf⟩ := hd
  have c44 : Try.prog.cellsOf 44 = 4 := by kernel_rfl
  rcases DataW.trod_slice Try.underlying22 hf with ⟨h, _⟩ | ⟨a, len, cap', elems, rest, m, _, hcs, _, _, hl, _, hlen, hel, _⟩
  · simp [Value.cells] at h
    obtain ⟨rfl, rfl, rfl⟩ := h
    exact ⟨none, 0, [], rfl, Nat.le_refl _, Rd.nil _ _, fun z hz => nomatch hz⟩
  · simp [Value.cells] at hcs
    obtain ⟨rfl, rfl, rfl⟩ := hcs
    rw [c44] at hel
    have each : ∀ i, i < n → ∃ o : OpV, (∀ j v, (opcell o)[j]? = some v → W.cell? ((a.add (i * 4)).add j) = some v) ∧ o.xs.length ≤ o.cap ∧ Rd (hp W) o.oa (ints o.xs) := by
      intro i hi
      have h1 := hel i hi
      rw [List.getElem?_eq_getElem (by omega)] at h1
      obtain ⟨cs, hc, hy⟩ := Option.bind_eq_some_iff.1 h1
      obtain ⟨_, hcl, hcell⟩ := World.cells?_some hc
      obtain ⟨o, rfl, h2, h3⟩ := open_op hy
      refine ⟨o, fun j v hj => ?_, h2, h3⟩
      rw [hcell j (by have := (List.getElem?_eq_some_iff.1 hj).1; rw [opcell_len] at this; exact this)]
      exact hj
    obtain ⟨ops, hol, hop⟩ : ∃ ops : List OpV, ops.length = n ∧ ∀ i (h : i < ops.length), (∀ j v, (opcell ops[i])[j]? = some v → W.cell? ((a.add (i * 4)).add j) = some v) ∧ ops[i].xs.length ≤ ops[i].cap ∧ Rd (hp W) ops[i].oa (ints ops[i].xs) :=
      listOf (p := fun i (o : OpV) => (∀ j v, (opcell o)[j]? = some v → W.cell? ((a.add (i * 4)).add j) = some v) ∧ o.xs.length ≤ o.cap ∧ Rd (hp W) o.oa (ints o.xs)) each
    refine ⟨some a, cap, ops, by rw [hol], by omega, ⟨fun hne => ?_, fun j u hj => ?_⟩, fun o ho => ?_⟩
    · have h0 : 0 < ops.length := by
        rcases Nat.eq_zero_or_pos ops.length with h | h
        · rw [List.eq_nil_of_length_eq_zero h] at hne; simp [opcells] at hne
        · exact h
      have := (hop 0 h0).1 0 _ rfl
      rw [Nat.zero_mul] at this
      have h1 := cell_spot (w := W) (a := a) this
      simp only [adr, Option.getD_some]
      rw [← h1]
    · have hjl : j < ops.length * 4 := by have := (List.getElem?_eq_some_iff.1 hj).1; rwa [opcells_len] at this
      have hk : j / 4 < ops.length := by omega
      have h0 : 0 < ops.length := by omega
      have h1 := (hop 0 h0).1 0 _ rfl
      rw [Nat.zero_mul] at h1
      have hsp := cell_spot (w := W) (a := a) h1
      have hj2 : (opcells ops)[(j / 4) * 4 + j % 4]? = some u := by rw [show j / 4 * 4 + j % 4 = j by omega]; exact hj
      have h2 : (opcells ops)[(j / 4) * 4 + j % 4]? = (opcell ops[j / 4])[j % 4]? := flat_get opcell_len hk (by omega)
      rw [h2] at hj2
      have h3 := (hop (j / 4) hk).1 (j % 4) u hj2
      rw [hsp, addLit, addLit] at h3
      rw [cell_hp]
      simp only [adr, Option.getD_some]
      rw [show a.off + j = a.off + j / 4 * 4 + j % 4 by omega]
      exact h3
    · obtain ⟨i, hi, rfl⟩ := List.getElem_of_mem ho
      exact (hop i hi).2
end
end Go.LL
