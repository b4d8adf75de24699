/- A pair of numbers that came in. No condition: plain lemmas. -/
import Derived.Test.YtkgaliichchanaaLNo
import Derived.OpenShut
namespace Go.LL
open Go Go.Proofs Go.ChangeShapes Go.WideShapes Go.ChangeAt Go.RowKit Go.WideElems

section
variable {H : Type} {enc : TypeId × Value → H} {W : World} {base : Nat}
theorem okWide_array2 {P : Program} {r : Reach} {b0 : Nat} {t e : TypeId} {v : Value} {n : Nat} (ht : P.underlying t = some (.array n e)) (h : Value.okWide P W r b0 t v) : ∃ cs, v = .agg cs ∧ cs.size = P.cellsOf t := by
  simp only [Value.okWide, ht] at h
  obtain ⟨cs, h1, h2, _⟩ := h
  exact ⟨cs, h1, h2⟩
theorem open_two {r : Reach} {b0 : Nat} {v : Value} {d : DataW H} {ps : List MemPlace} {sp : Nat → Bool} {held : Bool} (hval : Value.okWide Try.prog W r b0 23 v) (hd : DataW.Trod enc Try.prog W base sp held 23 v d ps) :
    ∃ za zb : Int, v = .agg #[.int .i64 za, .int .i64 zb] := by
  obtain ⟨cs, rfl, _⟩ := okWide_array2 Try.underlying23 hval
  obtain ⟨fuel, hf⟩ := hd
  obtain ⟨xs, m, _, _, hl, hxl, hel⟩ := DataW.trod_array Try.underlying23 hf
  have c23 : Try.prog.cellsOf 23 = 2 := by kernel_rfl
  have c3 : Try.prog.cellsOf 3 = 1 := by kernel_rfl
  rw [c23] at hl
  rw [c3] at hel
  obtain ⟨l⟩ := cs
  simp only [Value.cells] at hl hel
  match l, hl with
  | [x0, x1], _ =>
    match xs, hxl with
    | [y0, y1], _ =>
      have h0 := hel 0 (by decide)
      have h1 := hel 1 (by decide)
      simp at h0 h1
      obtain ⟨k, e0, -⟩ := DataW.trod_int Try.underlying3 h0
      obtain ⟨c, e1, -⟩ := DataW.trod_int Try.underlying3 h1
      simp only [List.cons.injEq, and_true] at e0 e1
      subst e0; subst e1
      exact ⟨k, c, rfl⟩
end
end Go.LL
