/- Blocks that are handed in to be written. No condition: plain lemmas. -/
import Derived.Test.YtkgaliichchanaaLM
namespace Go.LM
open Go Go.LL Go.MD
theorem results3 {fn : Func} {t u v : Tmp} (h : fn.results = #[.tmp t, .tmp u, .tmp v]) (tmps : Array Value) (P : Program) (w : World) :
    (results fn tmps).run P w = .ok (.tuple #[tmps.getD t undef, tmps.getD u undef, tmps.getD v undef]) w := by
  simp [results, h]
theorem results4 {fn : Func} {t u v x : Tmp} (h : fn.results = #[.tmp t, .tmp u, .tmp v, .tmp x]) (tmps : Array Value) (P : Program) (w : World) :
    (results fn tmps).run P w = .ok (.tuple #[tmps.getD t undef, tmps.getD u undef, tmps.getD v undef, tmps.getD x undef]) w := by
  simp [results, h]
section
variable {P : Program} {a : Act} {w : World}
theorem r3 {fn : Func} {t u s N : Nat} {F : List (Nat × Value)} {v x y : Value} {R : Value → World → Prop} (hF : Fr ⟨N, []⟩ F a) (hr : fn.results = #[.tmp t, .tmp u, .tmp s]) (ht : F.lookup t = some v) (hu : F.lookup u = some x) (hs : F.lookup s = some y) (h : R (.tuple #[v, x, y]) w) :
    bodyPost P fn (fun e w' => ∃ v, e = .returned v ∧ R v w') .ret a w := by
  refine bodyPost_ret (results3 hr _ _ _) hF.defers ⟨_, rfl, ?_⟩
  have h1 := hF.slots t v ht
  have h2 := hF.slots u x hu
  have h3 := hF.slots s y hs
  simpa [h1, h2, h3] using h
theorem r4 {fn : Func} {t u s q N : Nat} {F : List (Nat × Value)} {v x y z : Value} {R : Value → World → Prop} (hF : Fr ⟨N, []⟩ F a) (hr : fn.results = #[.tmp t, .tmp u, .tmp s, .tmp q]) (ht : F.lookup t = some v) (hu : F.lookup u = some x) (hs : F.lookup s = some y) (hq : F.lookup q = some z) (h : R (.tuple #[v, x, y, z]) w) :
    bodyPost P fn (fun e w' => ∃ v, e = .returned v ∧ R v w') .ret a w := by
  refine bodyPost_ret (results4 hr _ _ _) hF.defers ⟨_, rfl, ?_⟩
  have h1 := hF.slots t v ht
  have h2 := hF.slots u x hu
  have h3 := hF.slots s y hs
  have h4 := hF.slots q z hq
  simpa [h1, h2, h3, h4] using h
end
section
variable {P : Program} {M : Nat → Prop} {H H' : PH} {L L' K : List HA} {w w0 w' : World}
theorem startM (hH : H.le w) (hO : (sepA K).ok (hp w)) (hD : ∀ b, (sepA K).fp b → H b = none) : St w (sepA K).fp [H] K w :=
  .startL (fun x hx => by simp only [List.mem_cons, List.not_mem_nil, or_false] at hx; subst hx; exact hH) hO (fun b hb x hx => by simp only [List.mem_cons, List.not_mem_nil, or_false] at hx; subst hx; exact hD b hb)
theorem St.sep (K : List HA) (hS : St w0 M [H] (K ++ L) w) : St w0 M [H] (sepA K :: L) w := by
  obtain ⟨d1, d2, d3⟩ := List.pairwise_append.1 hS.disj
  refine ⟨hS.keep, hS.hs, fun A hA => ?_, fun A hA b hb => ?_, List.pairwise_cons.2 ⟨fun B hB b ⟨A, hA, hb⟩ => d3 A hA B hB b hb, d2⟩⟩
  · rcases List.mem_cons.1 hA with rfl | hA
    · exact sepA_ok.2 ⟨fun A hA => hS.ok A (List.mem_append_left _ hA), d1⟩
    · exact hS.ok A (List.mem_append_right _ hA)
  · rcases List.mem_cons.1 hA with rfl | hA
    · obtain ⟨B, hB, hb⟩ := hb
      exact hS.own B (List.mem_append_left _ hB) b hb
    · exact hS.own A (List.mem_append_right _ hA) b hb
theorem St.sepOk (hS : St w0 M [H] (sepA K :: L) w) : (sepA K).ok (hp w) := hS.ok _ (.head _)
theorem St.sepDis (hS : St w0 M [H] (sepA K :: L) w) : ∀ b, (sepA K).fp b → H b = none := fun b hb => (hS.own _ (.head _) b hb).2 _ (.head _)
theorem subOa0 (oa : Option Addr) (cap sz : Nat) : subOa oa cap (Int.toNat 0) sz = oa := by
  unfold subOa
  cases oa with
  | none => simp
  | some a => simp [Addr.add]
/-- an owned slice, cut at its end -/
theorem St.shrink {α : Type} [Enc α] (hS : St w0 M [H] L w) {e : TypeId} {sz c : Nat} {oa : Option Addr} {vs : List Value} {xs ys : List α} {hi : Int} (hv : Rows H vs xs) (hz : Enc.sz α = sz) (hm : sla e sz oa xs.length c vs ∈ L) (hg : subI xs 0 hi = some ys) :
    ∃ vs', Rows H vs' ys ∧ ∀ L', Repl (sla e sz oa xs.length c vs) (sla e sz oa ys.length c vs') L L' → St w0 M [H] L' w := by
  obtain ⟨_, h1, h2, rfl⟩ := subI_some hg
  have hr : Rows H (vs.take (hi.toNat * sz)) ((xs.take hi.toNat).drop (Int.toNat 0)) := by
    subst hz
    rw [Int.toNat_zero, List.drop_zero]
    exact hv.take _
  refine ⟨_, hr, fun L' hL => ?_⟩
  have hl : ((xs.take hi.toNat).drop (Int.toNat 0)).length = hi.toNat := by simp; omega
  rw [hl] at hL
  have ho : SlOk e sz (.slice oa xs.length c) xs.length vs (hp w) := hS.ok _ hm
  refine hS.upd hL (.refl _ _) ?_ (fun b hb => .inl ?_)
  · show SlOk e sz (.slice oa hi.toNat c) hi.toNat (vs.take (hi.toNat * sz)) (hp w)
    obtain ⟨q1, q2 | ⟨g, cap, cur, q2, q3, q4, q5, q6, q7⟩⟩ := ho
    · obtain ⟨q2, q3⟩ := q2
      have : hi.toNat = 0 := by omega
      rw [this]
      simp only [Value.slice.injEq] at q2
      obtain ⟨rfl, _, rfl⟩ := q2
      exact ⟨by simp, .inl ⟨rfl, rfl⟩⟩
    · simp only [Value.slice.injEq] at q2
      obtain ⟨rfl, _, rfl⟩ := q2
      have hle : hi.toNat * sz ≤ xs.length * sz := Nat.mul_le_mul_right _ (by omega)
      refine ⟨by rw [List.length_take, q1]; omega, .inr ⟨g, c, cur, rfl, q3, by omega, q5, q6, ?_⟩⟩
      rw [← q7, List.take_take, Nat.min_eq_left hle]
  · have hb' : slBlock (.slice oa hi.toNat c) = some b := hb
    show slBlock (.slice oa xs.length c) = some b
    cases oa <;> exact hb'
end
end Go.LM
namespace Go.LM
open Go Go.LL Go.MD
theorem strv_beq (a b : Str) : ((⟨a.toArray⟩ : ByteArray) == ⟨b.toArray⟩) = decide (a = b) := by
  have h0 : ((⟨a.toArray⟩ : ByteArray) == ⟨b.toArray⟩) = (a.toArray == b.toArray) := rfl
  rw [h0, Bool.eq_iff_iff, beq_iff_eq, decide_eq_true_iff]
  constructor
  · intro h
    have := congrArg Array.toList h
    simpa using this
  · intro h; rw [h]
theorem keyStr {P : Program} {kt : TypeId} (hu : ∀ w, (underlying kt).run P w = .ok .string w) : KeyOk P kt kS := by
  refine ⟨fun e w k => ?_, fun w k l => ?_, fun k => ?_⟩
  · rw [show (10000 : Nat) = 9999 + 1 from rfl]
    generalize 9999 = n
    simp [Instr.checkKey, hu]
  · have key : ∀ (l : List (Str × Value × Nat)) (i : Nat), Instr.findNow .string (kS k) (l.map (toE kS)) i = some (mfindFrom k l i) := by
      intro l
      induction l with
      | nil => intro i; rfl
      | cons x r ih =>
        intro i
        by_cases e : k = x.1
        · have h1 : ((⟨x.1.toArray⟩ : ByteArray) == ⟨x.1.toArray⟩) = true := by rw [strv_beq]; simp
          simp [Instr.findNow, Instr.sameNow, toE, mfindFrom, e, kS, h1]
        · have h1 : ((⟨k.toArray⟩ : ByteArray) == ⟨x.1.toArray⟩) = false := by rw [strv_beq]; simp [e]
          simp only [kS] at ih
          simp [Instr.findNow, Instr.sameNow, toE, mfindFrom, e, ih, kS, h1]
    simp [Instr.findKey, hu, key]
  · have h1 : ((⟨k.toArray⟩ : ByteArray) == ⟨k.toArray⟩) = true := by rw [strv_beq]; simp
    simp [Instr.sameBits, kS, h1]
end Go.LM
namespace Go.LM
open Go Go.LL Go.MD
/-- what is known grows; M: what was handed in to be written may become lasting -/
structure ExtM (w0 : World) (M : Nat → Prop) (H H' : PH) : Prop where
  sub : ∀ b o, H b = some o → H' b = some o
  new : ∀ b, H' b ≠ none → H b ≠ none ∨ w0.heap.size ≤ b ∨ M b
section
variable {P : Program} {M : Nat → Prop} {H H' H'' : PH} {L L' K : List HA} {w w0 w' : World} {A A' : HA}
theorem ExtM.refl (w0 : World) (M : Nat → Prop) (H : PH) : ExtM w0 M H H := ⟨fun _ _ h => h, fun _ h => .inl h⟩
theorem ExtM.trans (h : ExtM w0 M H H') (k : ExtM w0 M H' H'') : ExtM w0 M H H'' := ⟨fun b o hb => k.sub b o (h.sub b o hb), fun b hb => by
  rcases k.new b hb with h1 | h1
  · exact h.new b h1
  · exact .inr h1⟩
theorem Ext.toM (h : Ext w0 H H') : ExtM w0 M H H' := ⟨h.sub, fun b hb => (h.new b hb).imp id .inl⟩
theorem St.extcM (hS : St w0 M [H] L w) (h : Ext w H H') : ExtM w0 M H H' := ⟨h.sub, fun b hb => (h.new b hb).imp id fun h1 => .inl (Nat.le_trans hS.keep.size h1)⟩
theorem St.extcMM (hS : St w0 M [H] (A :: L) w) (h : ExtM w A.fp H H') : ExtM w0 M H H' := ⟨h.sub, fun b hb => by
  rcases h.new b hb with h1 | h1 | h1
  · exact .inl h1
  · exact .inr (.inl (Nat.le_trans hS.keep.size h1))
  · exact .inr (hS.own A (.head _) b h1).1⟩
/-- what is owned will not be written any more -/
theorem St.frzM (hS : St w0 M [H] L w) {A : HA} (hp' : Pick A L L') : ∃ H' : PH, A.ok H' ∧ ExtM w0 M H H' ∧ St w0 M [H'] L' w := by
  classical
  have hA := hp'.mem
  have hnone : ∀ b, A.fp b → H b = none := fun b hb => (hS.own A hA b hb).2 H (.head _)
  refine ⟨fun b => if A.fp b then w.heap[b]? else H b, ?_, ⟨fun b o hb => ?_, fun b hb => ?_⟩, ?_⟩
  · exact A.loc _ _ (fun b hb => by simp [hb, hp]) (hS.ok A hA)
  · have : ¬ A.fp b := fun h => by rw [hnone b h] at hb; cases hb
    simp [this, hb]
  · by_cases h : A.fp b
    · exact .inr (hS.own A hA b h).1
    · simp only [h, if_false] at hb
      exact .inl hb
  · have hd := (hp'.pairwise hS.disj)
    have h1 := hS.drop hp'
    refine ⟨h1.keep, fun h hh => ?_, h1.ok, fun B hB b hb => ⟨(h1.own B hB b hb).1, fun h hh => ?_⟩, h1.disj⟩
    · simp only [List.mem_cons, List.not_mem_nil, or_false] at hh; subst hh
      intro b o hb
      by_cases h : A.fp b
      · simpa [h] using hb
      · simp only [h, if_false] at hb
        exact hS.hs H (.head _) b o hb
    · simp only [List.mem_cons, List.not_mem_nil, or_false] at hh; subst hh
      have hn : ¬ A.fp b := fun h => hd.2 B hB b h hb
      simp only [hn, if_false]
      exact (h1.own B hB b hb).2 H (.head _)
theorem St.frzSM {α : Type} [Enc α] (hS : St w0 M [H] L w) {e : TypeId} {sz n cap : Nat} {oa : Option Addr} {vs : List Value} {xs : List α} (hp' : Pick (sla e sz oa n cap vs) L L') (hv : Rows H vs xs) :
    ∃ H' : PH, ExtM w0 M H H' ∧ SR H' oa xs ∧ n ≤ cap ∧ St w0 M [H'] L' w := by
  obtain ⟨H', h1, h2, h3⟩ := St.frzM hS hp'
  exact ⟨H', h2, ⟨vs, SlOk.rd h1, hv.mono h2.sub⟩, SlOk.capLe h1, h3⟩
theorem St.disL (hS : St w0 M [H] L w) : ∀ b, (sepA L).fp b → H b = none := fun b ⟨A, hA, hb⟩ => (hS.own A hA b hb).2 _ (.head _)
theorem St.mutH (hS : St w0 M [H] (A :: L) w) (hm : Mut w A A' w') (he : ExtM w A.fp H H') (hl : H'.le w') (hd : ∀ b, A'.fp b → H' b = none) : St w0 M [H'] (A' :: L) w' := by
  have h1 := hS.mut hm .head
  have hdj := (List.pairwise_cons.1 hS.disj).1
  refine ⟨h1.keep, fun h hh => by simp only [List.mem_cons, List.not_mem_nil, or_false] at hh; subst hh; exact hl, h1.ok, fun B hB b hb => ⟨(h1.own B hB b hb).1, fun h hh => ?_⟩, h1.disj⟩
  simp only [List.mem_cons, List.not_mem_nil, or_false] at hh; subst hh
  rcases List.mem_cons.1 hB with rfl | hB
  · exact hd b hb
  · cases hx : h b with
    | none => rfl
    | some o =>
      rcases he.new b (by rw [hx]; simp) with h2 | h2 | h2
      · exact absurd ((hS.own B (.tail _ hB) b hb).2 H (.head _)) h2
      · have := hS.fpLt (.tail _ hB) hb; omega
      · exact absurd hb (hdj B hB b h2)
end
end Go.LM
namespace Go.LM
open Go Go.LL Go.MD
theorem St.extc0 {H H' : PH} {L : List HA} {w w0 : World} {A : HA} (hS : St w0 Nil [H] (A :: L) w) (h : ExtM w A.fp H H') : Ext w0 H H' := ⟨h.sub, fun b hb => by
  rcases h.new b hb with h1 | h1 | h1
  · exact .inl h1
  · exact .inr (Nat.le_trans hS.keep.size h1)
  · exact .inr (((hS.own A (.head _) b h1).1).resolve_right id)⟩
end Go.LM
