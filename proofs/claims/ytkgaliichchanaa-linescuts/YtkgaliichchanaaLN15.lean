/- What the cuts that differ are. No condition: plain lemmas. -/
import Derived.Test.YtkgaliichchanaaLN12
namespace Go.LL
open Go Go.Proofs

/-! ### what the cuts that differ are -/
theorem cutList_spec {m : MS} : ∀ (f : Nat) (c : List Int), cutOk m c → f = tot m (nlines m) - rk m c (nlines m) → (cutList m f c).length = f ∧ ∀ i (h : i < (cutList m f c).length), cutOk m (cutList m f c)[i] ∧ rk m (cutList m f c)[i] (nlines m) = rk m c (nlines m) + i := by
  intro f
  induction f with
  | zero => intro c hc hf; exact ⟨rfl, fun i h => nomatch h⟩
  | succ f ih =>
    intro c hc hf
    have hlt := hc.lt
    rw [cutList]
    cases hn : nextI m c c.length with
    | none =>
      have h1 := nextI_none (Nat.le_refl _) (cutIn_of hc) hn
      rw [hc.1] at h1
      have f0 : f = 0 := by omega
      subst f0
      refine ⟨rfl, fun i h => ?_⟩
      obtain rfl : i = 0 := by simpa using h
      exact ⟨hc, rfl⟩
    | some c2 =>
      obtain ⟨h2, h3⟩ := hc.next hn
      obtain ⟨h4, h5⟩ := ih c2 h2 (by omega)
      refine ⟨by simp [h4], fun i h => ?_⟩
      cases i with
      | zero => exact ⟨hc, rfl⟩
      | succ i =>
        have := h5 i (by simpa using h)
        simp only [List.getElem_cons_succ]
        exact ⟨this.1, by rw [this.2, h3]; omega⟩
def ckey (m : MS) (c : List Int) : Vec 20 := pad (imgUp m c (nlines m))
theorem fold_spec (m : MS) : ∀ (L : List (List Int)) (out : List (List Int)), (out.map (ckey m)).Nodup →
    ∃ S, S.Sublist L ∧ (L.foldl (cutStep m) (out.map (ckey m), out)).2 = out ++ S ∧ ((out ++ S).map (ckey m)).Nodup ∧ ∀ c ∈ L, ckey m c ∈ (out ++ S).map (ckey m) := by
  intro L
  induction L with
  | nil => intro out h; exact ⟨[], .slnil, by simp, by simpa using h, fun c hc => nomatch hc⟩
  | cons x r ih =>
    intro out h
    by_cases e : ckey m x ∈ out.map (ckey m)
    · obtain ⟨S, h1, h2, h3, h4⟩ := ih out h
      refine ⟨S, h1.cons _, ?_, h3, fun c hc => ?_⟩
      · rw [List.foldl_cons, show cutStep m (out.map (ckey m), out) x = (out.map (ckey m), out) from if_pos e]; exact h2
      · rcases List.mem_cons.1 hc with rfl | hc
        · rw [List.map_append]; exact List.mem_append.2 (.inl e)
        · exact h4 c hc
    · have hn : ((out ++ [x]).map (ckey m)).Nodup := by
        rw [List.map_append, List.nodup_append]
        refine ⟨h, by simp, fun a ha b hb => ?_⟩
        simp only [List.map_cons, List.map_nil, List.mem_cons, List.not_mem_nil, or_false] at hb
        subst hb
        exact fun e2 => e (e2 ▸ ha)
      obtain ⟨S, h1, h2, h3, h4⟩ := ih (out ++ [x]) hn
      have e3 : out ++ x :: S = out ++ [x] ++ S := by simp
      refine ⟨x :: S, h1.cons_cons _, ?_, by rw [e3]; exact h3, fun c hc => ?_⟩
      · rw [List.foldl_cons, show cutStep m (out.map (ckey m), out) x = ((out ++ [x]).map (ckey m), out ++ [x]) by
          rw [show cutStep m (out.map (ckey m), out) x = (out.map (ckey m) ++ [ckey m x], out ++ [x]) from if_neg e]; simp, h2, e3]
      · rcases List.mem_cons.1 hc with rfl | hc
        · rw [e3, List.map_append, List.map_append]; simp
        · rw [e3]; exact h4 c hc
theorem rk_inj {m : MS} {a b : List Int} : ∀ {k : Nat}, cutIn m a k → cutIn m b k → rk m a k = rk m b k → ∀ i, i < k → a.getD i 0 = b.getD i 0 := by
  intro k
  induction k with
  | zero => intro _ _ _ i hi; omega
  | succ k ih =>
    intro ha hb h i hi
    rw [rk, rk] at h
    have h1 := ha k (by omega); have h2 := hb k (by omega)
    have hd : rk m a k = rk m b k ∧ (a.getD k 0).toNat = (b.getD k 0).toNat := by
      have hx : (a.getD k 0).toNat < (m.pend (k : Int)).length + 1 := by omega
      have hy : (b.getD k 0).toNat < (m.pend (k : Int)).length + 1 := by omega
      have e1 := congrArg (· / ((m.pend (k : Int)).length + 1)) h
      have e2 := congrArg (· % ((m.pend (k : Int)).length + 1)) h
      rw [Nat.mul_comm, Nat.mul_add_div (by omega), Nat.mul_comm (rk m b k), Nat.mul_add_div (by omega), Nat.div_eq_of_lt hx, Nat.div_eq_of_lt hy] at e1
      rw [Nat.mul_comm, Nat.mul_add_mod, Nat.mul_comm (rk m b k), Nat.mul_add_mod, Nat.mod_eq_of_lt hx, Nat.mod_eq_of_lt hy] at e2
      exact ⟨e1, e2⟩
    by_cases e : i = k
    · subst e; omega
    · exact ih (fun j hj => ha j (by omega)) (fun j hj => hb j (by omega)) hd.1 i (by omega)
theorem cut_eq {m : MS} {a b : List Int} (ha : cutOk m a) (hb : cutOk m b) (h : rk m a (nlines m) = rk m b (nlines m)) : a = b := by
  apply List.ext_getElem (ha.1.trans hb.1.symm)
  intro i h1 h2
  have := rk_inj (ha.1 ▸ cutIn_of ha) (hb.1 ▸ cutIn_of hb) h i (ha.1 ▸ h1)
  rwa [getD_of_lt h1, getD_of_lt h2] at this
theorem pad_inj {a b : List Int} (hl : a.length = b.length) (h20 : a.length ≤ 20) (h : pad a = pad b) : a = b := by
  have h1 := congrArg Subtype.val h
  rw [← pad_cp h20, ← pad_cp (hl ▸ h20)] at h1
  exact (List.append_inj h1 hl).1
structure CutsSpec (m : MS) (C : List (List Int)) : Prop where
  ok : ∀ c ∈ C, cutOk m c
  few : C.length ≤ tot m (nlines m)
  rise : C.Pairwise fun a b => rk m a (nlines m) < rk m b (nlines m)
  dist : (C.map (ckey m)).Nodup
  all : ∀ c, cutOk m c → ∃ x ∈ C, ckey m x = ckey m c
theorem cuts_spec (m : MS) : CutsSpec m (cutsM m) := by
  have hz : rk m (cut0 m) (nlines m) = 0 := rk_zero m _ _
  obtain ⟨h1, h2⟩ := cutList_spec (m := m) (tot m (nlines m)) (cut0 m) (cutOk0 m) (by rw [hz]; rfl)
  obtain ⟨S, h3, h4, h5, h6⟩ := fold_spec m (cutList m (tot m (nlines m)) (cut0 m)) [] (by simp)
  have hC : cutsM m = S := by
    have : cutsM m = ((cutList m (tot m (nlines m)) (cut0 m)).foldl (cutStep m) (([] : List (List Int)).map (ckey m), [])).2 := rfl
    rw [this, h4]; rfl
  rw [hC]
  simp only [List.nil_append] at h5 h6
  have hrise : (cutList m (tot m (nlines m)) (cut0 m)).Pairwise fun a b => rk m a (nlines m) < rk m b (nlines m) := by
    rw [List.pairwise_iff_getElem]
    intro i j hi hj hij
    rw [(h2 i hi).2, (h2 j hj).2]
    omega
  refine ⟨fun c hc => ?_, by rw [← h1]; exact h3.length_le, hrise.sublist h3, h5, fun c hc => ?_⟩
  · obtain ⟨i, hi, rfl⟩ := List.getElem_of_mem (h3.subset hc)
    exact (h2 i hi).1
  · have hlt := hc.lt
    have hi : rk m c (nlines m) < (cutList m (tot m (nlines m)) (cut0 m)).length := by rw [h1]; exact hlt
    have e : (cutList m (tot m (nlines m)) (cut0 m))[rk m c (nlines m)] = c := cut_eq (h2 _ hi).1 hc (by rw [(h2 _ hi).2, hz]; omega)
    have hmem := List.getElem_mem hi
    rw [e] at hmem
    obtain ⟨x, hx, hx2⟩ := List.mem_map.1 (h6 c hmem)
    exact ⟨x, hx, hx2⟩

end Go.LL
