/- The engine's sixth part: copies, and arrays read as slices. No condition: plain lemmas. -/
import Derived.Test.YtkgaliichchanaaLLe
import Derived.Laws.CopyOwn
namespace Go.LL
open Go

section
variable {P : Program} {ops : Array Oper} {Q : Exit → Act → World → Prop} {a : Act} {w : World} {N : FN} {F : List (Nat × Value)}
  {w0 : World} {M : Nat → Prop} {Hs : List PH} {L L' : List HA} {K : Act → World → Prop}
  {d : Nat} {ty : TypeId} {pos : String} {af : Array Edge}

/-- a copy to the head of a slice that is owned, of cells that stand one by one -/
theorem cp {t t' e e' : TypeId} {x y : Operand} {oa ob : Option Addr} {n cap m c : Nat} {xs ys : List Value}
    (hF : Fr N F a) (hN : Nat.blt d N.n = true) (hS : St w0 M Hs L w)
    (ht : P.underlying t = some (.slice e)) (hi : (P.info? e).map (·.size) = some 1)
    (hx : opv F x = some (.slice oa n cap)) (hy : opv F y = some (.slice ob m c)) (hm : m ≤ n)
    (hr : Repl (sla e' 1 oa n cap xs) (sla e' 1 oa n cap (ys ++ xs.drop m)) L L')
    (hl : ys.length = m) (hrd : Rd (hp w) ob ys) (h1 : ∀ u ∈ ys, u.oneCell' = true)
    (k : ∀ w a, St w0 M Hs L' w → Fr N ((d, .int .i64 (m : Int)) :: F) a → K a w) :
    stp P ops Q ⟨some d, .call ⟨.builtin .copy, #[x, y], #[t, t']⟩, ty, pos, af, none⟩ a w K := by
  have hok : SlOk e' 1 (.slice oa n cap) n xs (hp w) := hS.ok _ hr.memOld
  have hmin : Nat.min m n = m := Nat.min_eq_left hm
  by_cases h0 : m = 0
  · subst h0
    obtain rfl : ys = [] := List.eq_nil_of_length_eq_zero hl
    have hrun := run_copy_none (P := P) w t t' ty e oa ob n cap 0 c ht hi hmin
    refine m1 (w' := w) hF hN (v := goInt 0) ?_ fun a hF => k w a ?_ hF
    · simp [execOp, resolve, invoke, builtin, hF.ev hx, hF.ev hy, hrun]
    · exact hS.upd hr (.refl _ _) (show SlOk _ _ _ _ _ _ by simpa using hok) (fun b hb => .inl hb)
  · have hne : ys ≠ [] := fun e => by rw [e] at hl; exact h0 hl.symm
    have hsome := hrd.some hne
    obtain ⟨hlx, hn | ⟨g, cap', cur, hv, hg, hnc, hcm, hcs, htake⟩⟩ := hok
    · omega
    · simp only [Value.slice.injEq] at hv
      obtain ⟨rfl, _, rfl⟩ := hv
      have hg' : w.heap[g]? = some (.cells cur e' (0, 0)) := hg
      have hrun := run_copy_row (P := P) w t t' ty e g 0 n cap (adr ob) m c cur e' ys ht hi hg' (by rw [hl, hmin])
        (fun j v hj => by
          have h2 := hrd.cell j v hj
          rw [cell_hp] at h2
          rw [show adr ob = ⟨(adr ob).block, (adr ob).off, none⟩ by cases ob with | none => rfl | some ad => simpa [adr] using Option.some.inj hsome, addLit]; exact h2) (by rw [hl, hcs]; omega) h1
      have hob : some (adr ob) = ob := by rw [hsome]; rfl
      rw [hob] at hrun
      refine m1 (w' := w.setRow g (cur.toList.take 0 ++ ys ++ cur.toList.drop (0 + ys.length)).toArray) hF hN (v := goInt ys.length) ?_ fun a hF => k _ a ?_ (by rw [← hl]; exact hF)
      · simp [execOp, resolve, invoke, builtin, hF.ev hx, hF.ev hy, hrun]
      · refine hS.upd hr ⟨rfl, rfl, rfl, by simp, fun x _ hx => setRow_other w g x _ (fun e => hx (by simp [slBlock, e, sla, sl])), fun a _ => fz_setRow w g _ a⟩ ?_ (fun b hb => .inl hb)
        refine ⟨by simp [hl, hlx]; omega, .inr ⟨g, cap, _, rfl, setRow_heap w g cur _ e' _ hg', hnc, hcm, by simp [hcs, hl]; omega, ?_⟩⟩
        rw [← htake]
        simp only [List.take_zero, List.nil_append, Nat.zero_add, Nat.mul_one]
        rw [hl, List.take_append, hl, List.take_of_length_le (by omega), List.drop_take]

/-- an array that is owned, read as a slice -/
theorem St.blkSl {b n : Nat} {e : TypeId} {xs : List Value} (hS : St w0 M Hs L w) (hr : Repl (blk b (.cells xs.toArray e (0, 0))) (sla e 1 (some ⟨b, 0, none⟩) n n xs) L L') (hl : xs.length = n) (hm : n ≤ maxLen) : St w0 M Hs L' w := by
  have hb : hp w b = some (.cells xs.toArray e (0, 0)) := hS.ok _ hr.memOld
  refine hS.upd hr (.refl _ _) ⟨by omega, .inr ⟨b, n, _, rfl, hb, Nat.le_refl _, hm, by simp [hl], by simp [← hl]⟩⟩ (fun x hx => .inl ?_)
  simp [sla, sl, slBlock] at hx
  exact hx.symm
/-- and back -/
theorem St.slBlk {b n : Nat} {e : TypeId} {xs : List Value} (hS : St w0 M Hs L w) (hr : Repl (sla e 1 (some ⟨b, 0, none⟩) n n xs) (blk b (.cells xs.toArray e (0, 0))) L L') : St w0 M Hs L' w := by
  have hok : SlOk e 1 (.slice (some ⟨b, 0, none⟩) n n) n xs (hp w) := hS.ok _ hr.memOld
  obtain ⟨hl, hn | ⟨g, cap', cur, hv, hg, hnc, hcm, hcs, htake⟩⟩ := hok
  · cases hn.1
  · simp only [Value.slice.injEq, Option.some.injEq, Addr.mk.injEq, true_and, and_true] at hv
    obtain ⟨rfl, rfl⟩ := hv
    refine hS.upd hr (.refl _ _) ?_ (fun x hx => .inl ?_)
    · show hp w b = _
      rw [hg, ← htake, List.take_of_length_le (by simp [hcs])]
    · simp only [blk] at hx
      subst hx
      rfl

/-- the assertions that are wanted, in the order that is wanted; the others are let go -/
inductive PickL : List HA → List HA → Prop
  | nil {L : List HA} : PickL [] L
  | cons {A : HA} {L L1 L' : List HA} (h : Pick A L L1) (t : PickL L' L1) : PickL (A :: L') L

theorem Pick.mem2 {A : HA} {L L1 : List HA} (h : Pick A L L1) : A ∈ L ∧ ∀ B ∈ L1, B ∈ L := by
  induction h with
  | head => exact ⟨.head _, fun B h => .tail _ h⟩
  | tail _ ih =>
    refine ⟨.tail _ ih.1, fun B h => ?_⟩
    rcases List.mem_cons.1 h with rfl | h
    · exact .head _
    · exact .tail _ (ih.2 B h)
theorem Apart.symm {A B : HA} (h : Apart A B) : Apart B A := fun b h1 h2 => h b h2 h1
theorem Pick.disj {A : HA} {L L1 : List HA} (h : Pick A L L1) (hd : L.Pairwise Apart) : (∀ B ∈ L1, Apart A B) ∧ L1.Pairwise Apart := by
  induction h with
  | head => exact ⟨(List.pairwise_cons.1 hd).1, (List.pairwise_cons.1 hd).2⟩
  | tail h ih =>
    obtain ⟨h1, h2⟩ := List.pairwise_cons.1 hd
    obtain ⟨h3, h4⟩ := ih h2
    refine ⟨fun B hB => ?_, List.pairwise_cons.2 ⟨fun B hB => h1 B (h.mem2.2 B hB), h4⟩⟩
    rcases List.mem_cons.1 hB with rfl | hB
    · exact (h1 _ h.mem2.1).symm
    · exact h3 B hB
theorem PickL.mem {L L' : List HA} (h : PickL L' L) : ∀ B ∈ L', B ∈ L := by
  induction h with
  | nil => intro B h; cases h
  | cons h _ ih =>
    intro B hB
    rcases List.mem_cons.1 hB with rfl | hB
    · exact h.mem2.1
    · exact h.mem2.2 B (ih B hB)
theorem PickL.disj {L L' : List HA} (h : PickL L' L) (hd : L.Pairwise Apart) : L'.Pairwise Apart := by
  induction h with
  | nil => exact .nil
  | cons h t ih =>
    obtain ⟨h1, h2⟩ := h.disj hd
    exact List.pairwise_cons.2 ⟨fun B hB => h1 B (t.mem B hB), ih h2⟩
theorem St.pickL (hS : St w0 M Hs L w) (h : PickL L' L) : St w0 M Hs L' w :=
  ⟨hS.keep, hS.hs, fun A hA => hS.ok A (h.mem A hA), fun A hA => hS.own A (h.mem A hA), h.disj hS.disj⟩
/-- what was one assertion, as its parts -/
theorem St.unsep {K : List HA} (hS : St w0 M Hs (sepA K :: L) w) : St w0 M Hs (K ++ L) w := by
  have h1 := sepA_ok.1 (hS.ok (sepA K) (.head _))
  obtain ⟨h2, h3⟩ := List.pairwise_cons.1 hS.disj
  refine ⟨hS.keep, hS.hs, fun A hA => ?_, fun A hA => ?_, List.pairwise_append.2 ⟨h1.2, h3, fun A hA B hB b hb => h2 B hB b ⟨A, hA, hb⟩⟩⟩
  · rcases List.mem_append.1 hA with h | h
    · exact h1.1 A h
    · exact hS.ok A (.tail _ h)
  · rcases List.mem_append.1 hA with h | h
    · exact fun b hb => hS.own (sepA K) (.head _) b ⟨A, h, hb⟩
    · exact hS.own A (.tail _ h)
theorem St.nilBig {α : Type} (hS : St w0 M Hs L w) (f : α → HA) : St w0 M Hs (bigA f [] :: L) w := hS.add (.refl _ _) (bigA_nil f _) (fun b ⟨x, hx, _⟩ => nomatch hx)
end
theorem ints_cp (l m : List Int) (k : Nat) : ints l ++ (ints m).drop k = ints (l ++ m.drop k) := by simp [ints, List.map_drop]
end Go.LL
