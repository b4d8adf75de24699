/- Cells that came in. No condition: plain lemmas. -/
import Derived.Test.YtkgaliichchanaaLNo
import Derived.Test.YtkgaliichchanaaLO
namespace Go.LL
open Go Go.Proofs Go.ChangeShapes Go.WideShapes Go.ChangeAt Go.RowKit Go.WideElems

section
variable {H : Type} {enc : TypeId × Value → H} {W : World} {base : Nat}
theorem okWide_struct3 {P : Program} {r : Reach} {b0 : Nat} {t : TypeId} {v : Value} {fs : Array Field} (ht : P.underlying t = some (.struct fs)) (h : Value.okWide P W r b0 t v) : ∃ cs, v = .agg cs := by
  simp only [Value.okWide, ht] at h
  obtain ⟨cs, h1, _⟩ := h
  exact ⟨cs, h1⟩
theorem open_set {r : Reach} {b0 : Nat} {v : Value} {d : DataW H} {ps : List MemPlace} {sp : Nat → Bool} {held : Bool} (hval : Value.okWide Try.prog W r b0 46 v) (hd : DataW.Trod enc Try.prog W base sp held 46 v d ps) :
    ∃ so sc sof st sf sfc sfi, v = .agg #[.slice so sof.length sc, .int .i64 st, .slice sf sfi.length sfc] ∧ sof.length ≤ sc ∧ Rd (hp W) so (ints sof) ∧ sfi.length ≤ sfc ∧ Rd (hp W) sf (ints sfi) := by
  obtain ⟨cs, rfl⟩ := okWide_struct3 Try.underlying46 hval
  obtain ⟨fuel, hf⟩ := hd
  obtain ⟨l⟩ := cs
  obtain ⟨xs, n, _, _, hl, hlen, hf⟩ := DataW.trod_struct Try.underlying46 hf
  have c46 : Try.prog.cellsOf 46 = 3 := by kernel_rfl
  have c3 : Try.prog.cellsOf 3 = 1 := by kernel_rfl
  have c26 : Try.prog.cellsOf 26 = 1 := by kernel_rfl
  rw [c46] at hl
  simp only [Value.cells] at hl hf
  match l, hl with
  | [x0, x1, x2], _ =>
    match xs, hlen with
    | [y0, y1, y2], _ =>
      have h0 : DataW.trod enc Try.prog W base sp held n 26 (([x0, x1, x2].drop 0).take (Try.prog.cellsOf 26)) = some y0 := hf 0 _ rfl
      have h1 : DataW.trod enc Try.prog W base sp held n 3 (([x0, x1, x2].drop 1).take (Try.prog.cellsOf 3)) = some y1 := hf 1 _ rfl
      have h2 : DataW.trod enc Try.prog W base sp held n 26 (([x0, x1, x2].drop 2).take (Try.prog.cellsOf 26)) = some y2 := hf 2 _ rfl
      rw [c3] at h1
      rw [c26] at h0 h2
      simp only [List.drop_zero, List.drop_succ_cons, List.take_succ_cons, List.take_zero] at h0 h1 h2
      obtain ⟨k, e1, -⟩ := DataW.trod_int Try.underlying3 h1
      simp only [List.cons.injEq, and_true] at e1
      subst e1
      have sl : ∀ {x : Value} {y}, DataW.trod enc Try.prog W base sp held n 26 [x] = some y → ∃ oa cap zs, x = .slice oa zs.length cap ∧ zs.length ≤ cap ∧ Rd (hp W) oa (ints zs) := by
        intro x y h
        have hx : ∃ oa n cap, x = .slice oa n cap := by
          rcases open_ints Try.underlying26 Try.underlying3 c3 h with ⟨h, _⟩ | ⟨a, len, cap', zs, h, _⟩
          · simp at h; exact ⟨_, _, _, h⟩
          · simp at h; exact ⟨_, _, _, h⟩
        obtain ⟨oa, n2, cap, rfl⟩ := hx
        obtain ⟨zs, hz, hr, hc, -⟩ := rd_of_trod Try.underlying26 Try.underlying3 c3 (oa := oa) (n := n2) (cap := cap) ⟨_, h⟩
        subst hz
        exact ⟨oa, cap, zs, rfl, hc, hr⟩
      obtain ⟨so, sc, sof, rfl, a1, a2⟩ := sl h0
      obtain ⟨sf, sfc, sfi, rfl, b1, b2⟩ := sl h2
      exact ⟨so, sc, sof, k, sf, sfc, sfi, rfl, a1, a2, b1, b2⟩
end
end Go.LL
