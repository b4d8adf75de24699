/- A memory copied, line by line. No condition: plain lemmas. -/
import Derived.Test.YtkgaliichchanaaLN9
import Derived.Test.YtkgaliichchanaaLX
set_option linter.unusedSectionVars false
namespace Go.LL
open Go Go.Proofs Go.LM
theorem pget_of_mem {l : List (Int × PE × Nat)} (hd : mdis (pmV l)) {x : Int × PE × Nat} (hx : x ∈ l) : pget x.1 l = some x.2.1 := by
  induction l with
  | nil => cases hx
  | cons y r ih =>
    simp only [mdis, pmV, List.map_cons, List.nodup_cons] at hd
    rcases List.mem_cons.1 hx with rfl | hx
    · simp [pget]
    · have hne : x.1 ≠ y.1 := fun e => hd.1 (by
        rw [← e]
        exact List.mem_map.2 ⟨(x.1, x.2.1.v, x.2.2), List.mem_map.2 ⟨x, hx, rfl⟩, rfl⟩)
      rw [pget, if_neg hne]
      exact ih hd.2 hx
theorem pws_of_mem {l : List (Int × PE × Nat)} (hd : mdis (pmV l)) {x : Int × PE × Nat} (hx : x ∈ l) : pws x.1 l = x.2.1.ws := by
  unfold pws; rw [pget_of_mem hd hx]
theorem pget_none {k : Int} {l : List (Int × PE × Nat)} (h : ∀ x ∈ l, x.1 ≠ k) : pget k l = none := by
  induction l with
  | nil => rfl
  | cons y r ih =>
    rw [pget, if_neg (fun e => h y (.head _) e.symm)]
    exact ih fun x hx => h x (.tail _ hx)
/-- what stands in the copy, when these have come -/
structure CP (seen : Array Nat) (l l' : List (Int × PE × Nat)) (c' : Nat) : Prop where
  ok : ∀ x ∈ l, seen.contains x.2.2 = true → pws x.1 l' = pws x.1 l
  no : ∀ k, (∀ x ∈ l, x.1 = k → seen.contains x.2.2 = false) → pget k l' = none
  dis : mdis (pmV l')
  good : MGood (pmV l') c'
theorem CP.start (l : List (Int × PE × Nat)) : CP #[] l [] 0 := ⟨fun x _ h => by simp at h, fun _ _ => rfl, List.nodup_nil, MGood.nil⟩
theorem pm_inj {l : List (Int × PE × Nat)} {c : Nat} (hg : MGood (pmV l) c) (hd : mdis (pmV l)) {x y : Int × PE × Nat} (hx : x ∈ l) (hy : y ∈ l) (e : x.2.2 = y.2.2) : x.1 = y.1 :=
  congrArg (fun z : Int × Value × Nat => z.1) (stamp_inj hg.2 (x := (x.1, x.2.1.v, x.2.2)) (y := (y.1, y.2.1.v, y.2.2)) (List.mem_map.2 ⟨x, hx, rfl⟩) (List.mem_map.2 ⟨y, hy, rfl⟩) e)
theorem CP.fresh {seen : Array Nat} {l l' : List (Int × PE × Nat)} {c c' : Nat} (h : CP seen l l' c') (hg : MGood (pmV l) c) (hd : mdis (pmV l)) {x : Int × PE × Nat} (hx : x ∈ l) (hs : seen.contains x.2.2 = false) : pget x.1 l' = none :=
  h.no _ fun y hy e => by
    have h1 := pget_of_mem hd hx
    have h2 := pget_of_mem hd hy
    have hst : y.2.2 = x.2.2 := by
      have key : ∀ {l : List (Int × PE × Nat)}, mdis (pmV l) → x ∈ l → y ∈ l → y.2.2 = x.2.2 := by
        intro l hd hx hy
        induction l with
        | nil => cases hx
        | cons z r ih =>
          simp only [mdis, pmV, List.map_cons, List.nodup_cons] at hd
          have hno : ∀ q ∈ r, q.1 ≠ z.1 := fun q hq e => hd.1 (by
            rw [← e]
            exact List.mem_map.2 ⟨(q.1, q.2.1.v, q.2.2), List.mem_map.2 ⟨q, hq, rfl⟩, rfl⟩)
          rcases List.mem_cons.1 hx with a1 | a1 <;> rcases List.mem_cons.1 hy with a2 | a2
          · rw [a1, a2]
          · rw [a1] at e; exact absurd e (hno y a2)
          · rw [a2] at e; exact absurd e.symm (hno x a1)
          · exact ih hd.2 a1 a2
      exact key hd hx hy
    rw [hst]; exact hs
theorem CP.put {seen : Array Nat} {l l' : List (Int × PE × Nat)} {c c' : Nat} (h : CP seen l l' c') (hg : MGood (pmV l) c) (hd : mdis (pmV l)) {x : Int × PE × Nat} (hx : x ∈ l) (hs : seen.contains x.2.2 = false) {e : PE} (he : e.ws = x.2.1.ws) :
    CP (seen.push x.2.2) l (l' ++ [(x.1, e, c')]) (c' + 1) := by
  have hn := h.fresh hg hd hx hs
  have ep : pput x.1 e c' l' = l' ++ [(x.1, e, c')] := by unfold pput; rw [hn]; rfl
  have hv : (mval x.1 (pmV l')).isSome = false := by rw [mval_pmV, hn]; rfl
  refine ⟨fun y hy hc => ?_, fun k hk => ?_, ?_, ?_⟩
  · rw [← ep, pws_put]
    by_cases e1 : y.1 = x.1
    · rw [if_pos e1, he, e1, pws_of_mem hd hx]
    · rw [if_neg e1]
      simp only [contains_push, Bool.or_eq_true, beq_iff_eq] at hc
      rcases hc with hc | hc
      · exact h.ok y hy hc
      · exact absurd (pm_inj hg hd hy hx (by first | exact hc | exact hc.symm)) e1
  · have h1 : x.1 ≠ k := fun e1 => by
      have := hk x hx e1
      simp [contains_push] at this
    have h2 : pget k l' = none := h.no k fun y hy e1 => by
      have := hk y hy e1
      simp only [contains_push, Bool.or_eq_false_iff] at this
      exact this.1
    have key : ∀ l : List (Int × PE × Nat), pget k l = none → pget k (l ++ [(x.1, e, c')]) = none := by
      intro l
      induction l with
      | nil => intro _; simp only [List.nil_append, pget]; rw [if_neg (fun z => h1 z.symm)]
      | cons z r ih =>
        intro hz
        simp only [pget] at hz
        by_cases e2 : k = z.1
        · rw [if_pos e2] at hz; cases hz
        · rw [if_neg e2] at hz
          simp only [List.cons_append, pget, if_neg e2]
          exact ih hz
    exact key l' h2
  · rw [← ep, pmV_put]; exact mdis_put h.dis
  · rw [← ep, pmV_put]
    have := h.good.put x.1 e.v
    unfold mclk at this
    rw [hv] at this
    exact this
theorem CP.done {seen : Array Nat} {l l' : List (Int × PE × Nat)} {c' : Nat} (h : CP seen l l' c') (ha : ∀ e ∈ pmV l, seen.contains e.2.2 = true) (k : Int) : pws k l = pws k l' := by
  by_cases hk : ∃ x ∈ l, x.1 = k
  · obtain ⟨x, hx, rfl⟩ := hk
    exact (h.ok x hx (ha (x.1, x.2.1.v, x.2.2) (List.mem_map.2 ⟨x, hx, rfl⟩))).symm
  · have h1 : ∀ x ∈ l, x.1 ≠ k := fun x hx e => hk ⟨x, hx, e⟩
    unfold pws
    rw [pget_none h1, h.no k fun x hx e => absurd e (h1 x hx)]
/-- one more in the copy -/
theorem imap_put {l' : List (Int × PE × Nat)} {x : Int} {e : PE} {b c' : Nat} (hn : pget x l' = none) : imap kI b (mput x e.v c' (pmV l')) (mclk x c' (pmV l')) = imap kI b (pmV (l' ++ [(x, e, c')])) (c' + 1) := by
  have ep : pput x e c' l' = l' ++ [(x, e, c')] := by unfold pput; rw [hn]; rfl
  have hv : (mval x (pmV l')).isSome = false := by rw [mval_pmV, hn]; rfl
  rw [← ep, pmV_put]
  unfold mclk
  rw [hv]
  rfl
end Go.LL
