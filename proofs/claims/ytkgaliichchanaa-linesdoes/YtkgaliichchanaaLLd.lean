/- The engine's fourth part: operations that make or write memory. No condition: plain lemmas. -/
import Derived.Test.YtkgaliichchanaaLLc
import Derived.Laws.AppendOwn
namespace Go.LL
open Go

section
variable {P : Program} {ops : Array Oper} {Q : Exit → Act → World → Prop} {a : Act} {w : World} {N : FN} {F : List (Nat × Value)}
  {w0 : World} {M : Nat → Prop} {Hs : List PH} {L L' : List HA} {K : Act → World → Prop}
  {d : Nat} {ty : TypeId} {pos : String} {af : Array Edge}

theorem fz_setRow (w : World) (g : Nat) (cs : Array Value) (a : Addr) : (w.setRow g cs).frozen? a = w.frozen? a := by
  unfold World.frozen? World.setRow
  simp only [Array.getElem?_modify]
  by_cases e : g = a.block
  · rw [if_pos e]
    cases h : w.heap[a.block]? with
    | none => rfl
    | some o => cases o <;> rfl
  · rw [if_neg e]

theorem hp_alloc_new (w : World) (o : Obj) : hp (w.alloc o) w.heap.size = some o := by
  show (w.heap.push o)[w.heap.size]? = some o
  simp

theorem St.alloc (hS : St w0 M Hs L w) (o : Obj) (ho : softO o) : St w0 M Hs (blk w.heap.size o :: L) (w.alloc o) :=
  hS.add (.alloc _ _ _ ho) (hp_alloc_new w o) (fun b hb => Nat.le_of_eq hb.symm)

theorem a_box {t : TypeId} {x : Operand} {v : Value} {cs : Array Value} (hF : Fr N F a) (hN : Nat.blt d N.n = true) (hS : St w0 M Hs L w) (hx : opv F x = some v) (hc : v.cells = cs)
    (k : ∀ b w a, St w0 M Hs (blk b (.cells cs t (0, 0)) :: L) w → Fr N ((d, .pointer (some ⟨b, 0, none⟩)) :: F) a → K a w) : stp P ops Q ⟨some d, .box t x, ty, pos, af, none⟩ a w K := by
  subst hc
  refine m1 (w' := w.alloc (.cells v.cells t)) hF hN (v := .pointer (some ⟨w.heap.size, 0, none⟩)) ?_ fun a hF => k _ _ _ (hS.alloc _ (by first | exact soft_cells _ _ | exact soft_map _ _ | exact hsoft)) hF
  simp [execOp, hF.ev hx, Instr.box, newVar, newRow, newObj, Sem.run]

theorem a_alloc {t : TypeId} {z : Value} {cs : Array Value} (hF : Fr N F a) (hN : Nat.blt d N.n = true) (hS : St w0 M Hs L w) (hz : ∀ w, (zeroValue t).run P w = .ok z w) (hc : z.cells = cs)
    (k : ∀ b w a, St w0 M Hs (blk b (.cells cs t (0, 0)) :: L) w → Fr N ((d, .pointer (some ⟨b, 0, none⟩)) :: F) a → K a w) : stp P ops Q ⟨some d, .alloc t, ty, pos, af, none⟩ a w K := by
  subst hc
  refine m1 (w' := w.alloc (.cells z.cells t)) hF hN (v := .pointer (some ⟨w.heap.size, 0, none⟩)) ?_ fun a hF => k _ _ _ (hS.alloc _ (by first | exact soft_cells _ _ | exact soft_map _ _ | exact hsoft)) hF
  simp [execOp, Instr.alloc, hz, newVar, newRow, newObj, Sem.run]

theorem a_map {t : TypeId} (hF : Fr N F a) (hN : Nat.blt d N.n = true) (hS : St w0 M Hs L w)
    (k : ∀ b w a, St w0 M Hs (blk b (.map #[] 0) :: L) w → Fr N ((d, .map (some b)) :: F) a → K a w) : stp P ops Q ⟨some d, .makeMap t none, ty, pos, af, none⟩ a w K := by
  refine m1 (w' := w.alloc (.map #[] 0)) hF hN (v := .map (some w.heap.size)) ?_ fun a hF => k _ _ _ (hS.alloc _ (by first | exact soft_cells _ _ | exact soft_map _ _ | exact hsoft)) hF
  simp [execOp, Instr.makeMap, newObj, Sem.run]

/-- whatever makes one new block, run by the kernel -/
theorem a_new {o : Oper} (mk : Nat → Value) (obj : Obj) (hF : Fr N F a) (hd : o.dst = some d) (hN : Nat.blt d N.n = true) (hg : o.guard = none) (hS : St w0 M Hs L w)
    (hsel : (match o.op with | .select _ _ => false | _ => true) = true) (ho : (o.op.operands.toList.all fun x => (opv F x).isSome) = true)
    (hsoft : softO obj) (hr : ∀ w : World, (execOp (rho F) o).run P w = .ok (.value (mk w.heap.size)) (w.alloc obj))
    (k : ∀ b w a, St w0 M Hs (blk b obj :: L) w → Fr N ((d, mk b) :: F) a → K a w) : stp P ops Q o a w K := by
  obtain ⟨dst, op, ty, pos, af, g⟩ := o
  simp only at hd hg hsel ho
  subst hd; subst hg
  refine m1 (w' := w.alloc obj) hF hN (v := mk w.heap.size) ?_ fun a hF => k _ _ _ (hS.alloc _ (by first | exact soft_cells _ _ | exact soft_map _ _ | exact hsoft)) hF
  rw [execOp_congr (ρ := a.eval) (ρ' := rho F) _ (fun cs b e => by simp only at e; rw [e] at hsel; cases hsel) (fun x hx => ?_)]
  · exact hr w
  · have h1 := List.all_eq_true.1 ho x (by simpa using hx)
    obtain ⟨v, hv⟩ := Option.isSome_iff_exists.1 h1
    rw [hF.ev hv, rho, hv]; rfl

/-- a slice literal: its cells are owned -/
theorem a_bsl {t e : TypeId} {n sz : Nat} {parts : Array (Nat × Operand)} (xs : List Value) (hF : Fr N F a) (hN : Nat.blt d N.n = true) (hS : St w0 M Hs L w)
    (ho : ((Op.buildSlice t n parts).operands.toList.all fun x => (opv F x).isSome) = true)
    (hl : xs.length = n * sz) (hm : Nat.ble n 1000000 = true)
    (hr : ∀ w : World, (execOp (rho F) ⟨some d, .buildSlice t n parts, ty, pos, af, none⟩).run P w = .ok (.value (.slice (some ⟨w.heap.size, 0, none⟩) n n)) (w.alloc (.cells xs.toArray e)))
    (k : ∀ b w a, St w0 M Hs (sla e sz (some ⟨b, 0, none⟩) n n xs :: L) w → Fr N ((d, .slice (some ⟨b, 0, none⟩) n n) :: F) a → K a w) : stp P ops Q ⟨some d, .buildSlice t n parts, ty, pos, af, none⟩ a w K := by
  refine m1 (w' := w.alloc (.cells xs.toArray e)) hF hN (v := .slice (some ⟨w.heap.size, 0, none⟩) n n) ?_ fun a hF => k _ _ _ ?_ hF
  · rw [execOp_congr (ρ := a.eval) (ρ' := rho F) _ (fun cs b e => by cases e) (fun x hx => ?_)]
    · exact hr w
    · have h1 := List.all_eq_true.1 ho x (by simpa using hx)
      obtain ⟨v, hv⟩ := Option.isSome_iff_exists.1 h1
      rw [hF.ev hv, rho, hv]; rfl
  · refine hS.add (.alloc _ _ _ (soft_cells _ _)) ?_ ?_
    · refine ⟨hl, .inr ⟨w.heap.size, n, xs.toArray, rfl, hp_alloc_new w _, Nat.le_refl _, ?_, by simpa using hl, ?_⟩⟩
      · have := Nat.le_of_ble_eq_true hm; unfold maxLen; omega
      · rw [List.take_of_length_le (by simp [hl])]
    · intro b hb
      simp [sl, slBlock] at hb
      omega

/-! ### stores -/
inductive SetAt : List Value → Nat → Value → List Value → Prop
  | zero {x v : Value} {l : List Value} : SetAt (x :: l) 0 v (v :: l)
  | succ {x v : Value} {l l' : List Value} {n : Nat} (h : SetAt l n v l') : SetAt (x :: l) (n + 1) v (x :: l')

theorem SetAt.eq {l l' : List Value} {n : Nat} {v : Value} (h : SetAt l n v l') : l' = l.set n v ∧ n < l.length := by
  induction h with
  | zero => simp
  | succ _ ih => simp [ih.1, ih.2]

theorem hp_setCell {w : World} {b o : Nat} {c : Array Value} {e : TypeId} {f : Nat × Nat} (v : Value) (hb : w.heap[b]? = some (.cells c e f)) : hp (w.setCell ⟨b, o, none⟩ v) b = some (.cells (c.setIfInBounds o v) e f) := by
  unfold hp World.setCell
  simp [Array.getElem?_modify, hb]

theorem Keep.setCell {w : World} {b o : Nat} (v : Value) : Keep (fun x => x = b) w (w.setCell ⟨b, o, none⟩ v) :=
  ⟨rfl, rfl, rfl, by simp, fun x _ hx => by
    unfold World.setCell
    simp only [Array.getElem?_modify]
    rw [if_neg (fun e => hx e.symm)], fun a _ => World.frozen?_setCell _ _ _ _⟩

theorem run_store1 {t : TypeId} {ad : Addr} {v u : Value} (hz : ∀ w, (sizeOf t).run P w = .ok 1 w) (hv : v.cells = #[v]) (h1 : v.oneCell' = true) (hc : w.cell? ad = some u) (hf : w.frozen? ad = false) :
    (Instr.storeAt t (.pointer (some ad)) v).run P w = .ok () (w.setCell ad v) := by
  have e0 : ad.add 0 = ad := rfl
  have hst : (store ad v).run P w = .ok () (w.setCell ad v) := by
    rw [run_store P w ad v .plain h1, hc]
    simp [hf]
  simp [Instr.storeAt, Instr.sureAddr, storeVar, hz, hv, storeCells, e0, hst]

/-- a store of one cell into a block that is owned -/
theorem s_blk {t e : TypeId} {x y : Operand} {b o : Nat} {v : Value} {c c' : List Value} (hF : Fr N F a) (hS : St w0 M Hs L w) (hz : ∀ w, (sizeOf t).run P w = .ok 1 w)
    (hx : opv F x = some (.pointer (some ⟨b, o, none⟩))) (hy : opv F y = some v) (hv : v.cells = #[v]) (h1 : v.oneCell' = true)
    (hr : Repl (blk b (.cells c.toArray e (0, 0))) (blk b (.cells c'.toArray e (0, 0))) L L') (hset : SetAt c o v c')
    (k : ∀ w, St w0 M Hs L' w → K a w) : stp P ops Q ⟨none, .store t x y, ty, pos, af, none⟩ a w K := by
  obtain ⟨rfl, hlt⟩ := hset.eq
  have hb : w.heap[b]? = some (.cells c.toArray e (0, 0)) := hS.ok _ hr.memOld
  have hc : w.cell? ⟨b, o, none⟩ = some c[o] := cell_of_cells hb (by simp [hlt])
  have hf : w.frozen? ⟨b, o, none⟩ = false := by simp [World.frozen?, hb]
  refine m0 (w' := w.setCell ⟨b, o, none⟩ v) ?_ (k _ ?_)
  · simp [execOp, hF.ev hx, hF.ev hy, run_store1 hz hv h1 hc hf]
  · refine hS.upd hr (.setCell v) ?_ (fun b' hb' => .inl hb')
    show hp _ b = _
    rw [hp_setCell v hb]
    simp

theorem st_sl {e : TypeId} {sz i n cap : Nat} {oa : Option Addr} {v : Value} {xs : List Value} (hS : St w0 M Hs L w)
    (hr : Repl (sla e sz oa n cap xs) (sla e sz oa n cap (xs.set i v)) L L') (hi : i < xs.length) :
    w.cell? ⟨(adr oa).block, (adr oa).off + i, none⟩ = some xs[i] ∧ w.frozen? ⟨(adr oa).block, (adr oa).off + i, none⟩ = false ∧ St w0 M Hs L' (w.setCell ⟨(adr oa).block, (adr oa).off + i, none⟩ v) := by
  have hok : SlOk e sz (.slice oa n cap) n xs (hp w) := hS.ok _ hr.memOld
  obtain ⟨hl, hn | ⟨g, cap', cur, hv, hg, hnc, hm, hs, ht⟩⟩ := hok
  · obtain ⟨_, h0⟩ := hn; subst h0; rw [Nat.zero_mul] at hl; omega
  · simp only [Value.slice.injEq] at hv
    obtain ⟨rfl, _, rfl⟩ := hv
    have hlen : xs.length ≤ cur.size := by rw [hl, hs]; exact Nat.mul_le_mul_right _ hnc
    have hci : cur[i]? = some xs[i] := by
      have : (cur.toList.take (n * sz))[i]? = some xs[i] := by rw [ht]; simp [hi]
      rw [List.getElem?_take] at this
      split at this
      · simpa using this
      · cases this
    have e0 : (adr (some ⟨g, 0, none⟩)).off + i = i := by simp [adr]
    have e1 : (adr (some ⟨g, 0, none⟩)).block = g := rfl
    rw [e0, e1]
    have hg' : w.heap[g]? = some (.cells cur e (0, 0)) := hg
    refine ⟨cell_of_cells hg' hci, by simp [World.frozen?, hg'], ?_⟩
    refine hS.upd hr ((Keep.setCell v).mono fun x hx => ?_) ?_ (fun b hb => .inl hb)
    · subst hx; rfl
    · refine ⟨by simp [hl], .inr ⟨g, cap, cur.setIfInBounds i v, rfl, hp_setCell v hg', hnc, hm, by simp [hs], ?_⟩⟩
      rw [Array.toList_setIfInBounds, ← ht, List.take_set]

/-- a store into a slice that is owned -/
theorem s_sl {t e : TypeId} {x y : Operand} {sz i n cap : Nat} {oa : Option Addr} {v : Value} {xs : List Value} (hF : Fr N F a) (hS : St w0 M Hs L w) (hz : ∀ w, (sizeOf t).run P w = .ok 1 w)
    (hx : opv F x = some (.pointer (some ⟨(adr oa).block, (adr oa).off + i, none⟩))) (hy : opv F y = some v) (hv : v.cells = #[v]) (h1 : v.oneCell' = true)
    (hr : Repl (sla e sz oa n cap xs) (sla e sz oa n cap (xs.set i v)) L L') (hi : i < xs.length)
    (k : ∀ w, St w0 M Hs L' w → K a w) : stp P ops Q ⟨none, .store t x y, ty, pos, af, none⟩ a w K := by
  obtain ⟨hc, hf, hS'⟩ := st_sl hS hr hi
  refine m0 (w' := w.setCell ⟨(adr oa).block, (adr oa).off + i, none⟩ v) ?_ (k _ hS')
  simp [execOp, hF.ev hx, hF.ev hy, run_store1 hz hv h1 hc hf]

/-- a store of a struct into a block of its own, whole -/
theorem s_blkA {t e : TypeId} {x y : Operand} {b n : Nat} {c c' : List Value} (hF : Fr N F a) (hS : St w0 M Hs L w) (hz : ∀ w, (sizeOf t).run P w = .ok n w)
    (hx : opv F x = some (.pointer (some ⟨b, 0, none⟩))) (hy : opv F y = some (.agg c'.toArray)) (hl : c.length = n) (hl' : c'.length = n) (h1 : ∀ v ∈ c', v.oneCell' = true)
    (hr : Repl (blk b (.cells c.toArray e (0, 0))) (blk b (.cells c'.toArray e (0, 0))) L L')
    (k : ∀ w, St w0 M Hs L' w → K a w) : stp P ops Q ⟨none, .store t x y, ty, pos, af, none⟩ a w K := by
  have hb : w.heap[b]? = some (.cells c.toArray e (0, 0)) := hS.ok _ hr.memOld
  have hst := run_storeCells_at P b 0 e c' 0 c.toArray w hb (by simp [hl, hl']) h1
  have e1 : (c.toArray.toList.take (0 + 0) ++ c' ++ c.toArray.toList.drop (0 + 0 + c'.length)) = c' := by
    simp [hl, hl']
  rw [e1] at hst
  refine m0 (w' := w.setRow b c'.toArray) ?_ (k _ ?_)
  · simp [execOp, hF.ev hx, hF.ev hy, Instr.storeAt, Instr.sureAddr, storeVar, hz, Value.cells, hl', hst]
  · refine hS.upd hr ⟨rfl, rfl, rfl, by simp, fun x _ hx => setRow_other w b x _ (fun e => hx e), fun a _ => fz_setRow w b _ a⟩ (setRow_heap w b _ _ e _ hb) (fun b' hb' => .inl hb')

/-! ### append -/
theorem run_ap {t ty e : TypeId} {i : TypeInfo} {z : Value} {sz : Nat} (ht : P.underlying t = some (.slice e)) (hi : P.info? e = some i) (hz : i.zero = some z)
    (hsize : i.size = sz) (hzs : z.cells.size = sz) (hsz : 0 < sz)
    {oa : Option Addr} {n cap : Nat} {xs : List Value} (hok : SlOk e sz (.slice oa n cap) n xs (hp w))
    {ob : Option Addr} {m c : Nat} {ys : List Value} (hl : ys.length = m * sz) (hob : ys ≠ [] → ob = some ⟨(adr ob).block, (adr ob).off, none⟩)
    (hys : ∀ (j : Nat) (u : Value), ys[j]? = some u → w.cell? ⟨(adr ob).block, (adr ob).off + j, none⟩ = some u) (h1 : ∀ u ∈ ys, u.oneCell' = true)
    (hmb : (n + m) * i.bytes ≤ 140737488355328) (h63 : n + m ≤ maxLen) :
    ∃ oa' cap' w', (Builtin.append_ #[t, t] ty #[.slice oa n cap, .slice ob m c]).run P w = .ok (.slice oa' (n + m) cap') w' ∧
      SlOk e sz (.slice oa' (n + m) cap') (n + m) (xs ++ ys) (hp w') ∧ Keep (fun b => slBlock (.slice oa n cap) = some b) w w' ∧
      (∀ b, slBlock (.slice oa' (n + m) cap') = some b → slBlock (.slice oa n cap) = some b ∨ w.heap.size ≤ b) := by
  subst hsize
  have hlen : (xs ++ ys).length = (n + m) * i.size := by rw [List.length_append, hok.1, hl, Nat.add_mul]
  have h63i : ¬ (9223372036854775807 < ((n : Int) + (m : Int))) := by unfold maxLen at h63; omega
  -- the new cells, read in w or behind a draw
  have hnew : ∀ w1 : World, (∀ ad, w1.cell? ad = w.cell? ad) → (Builtin.firstCells i.size m (.slice ob m c)).run P w1 = .ok ys.toArray w1 := by
    intro w1 hw1
    cases ob with
    | none =>
      have : ys = [] := by
        by_cases h : ys = []
        · exact h
        · cases hob h
      subst this
      simp [Builtin.firstCells]
    | some ad =>
      by_cases h : ys = []
      · subst h
        have hm0 : m * i.size = 0 := by simpa using hl.symm
        simp [Builtin.firstCells, hm0, loadCells, loadCellsFrom]
      · have had := hob h
        simp only [Option.some.injEq] at had
        refine run_firstCells_some (P := P) w1 i.size m ad m c ys hl (fun j v hj => ?_)
        rw [had, addLit, hw1]
        exact hys j v hj
  have grow : ∀ (old : Nat) (xs' : Array Value), xs' = xs.toArray → 
      SlOk e i.size (.slice (some ⟨w.heap.size, 0, none⟩) (n + m) (grownCap w (n + m) old e)) (n + m) (xs ++ ys) (hp (w.drew.alloc (.cells (xs' ++ ys.toArray ++ Builtin.zeroCells z.cells (grownCap w (n + m) old e - (n + m))) e))) := by
    intro old xs' hx'
    subst hx'
    have hge := grownCap_ge w (n + m) old e
    have hcm : grownCap w (n + m) old e ≤ maxLen := grownCap_le_maxLen w (n + m) old e h63
    refine ⟨hlen, .inr ⟨w.heap.size, _, _, rfl, hp_alloc_new w.drew _, hge, hcm, ?_, ?_⟩⟩
    · simp only [Array.size_append, List.size_toArray, size_zeroCells, hzs, hok.1, hl, ← Nat.add_mul]
      congr 1
      omega
    · simp only [Array.toList_append, List.append_assoc]
      rw [← List.append_assoc, ← hlen]
      exact List.take_left
  have kgrow : ∀ (c : Array Value) (t : TypeId), Keep (fun b => slBlock (.slice oa n cap) = some b) w (w.drew.alloc (.cells c t)) := fun c t => (Keep.drew _ w).trans (Keep.alloc Nil w.drew _ (soft_cells c t)) (fun _ _ h => h.elim)
  rcases hok.2 with ⟨hv, hn0⟩ | ⟨g, cap', cur, hv, hg, hnc, hcm, hcs, htake⟩
  · simp only [Value.slice.injEq] at hv
    obtain ⟨rfl, _, rfl⟩ := hv
    subst hn0
    have hx : xs = [] := List.eq_nil_of_length_eq_zero (by simpa using hok.1)
    subst hx
    by_cases hm0 : m = 0
    · subst hm0
      have hy : ys = [] := List.eq_nil_of_length_eq_zero (by simpa using hl)
      subst hy
      refine ⟨none, 0, w, ?_, ⟨by simp, .inl ⟨rfl, rfl⟩⟩, .refl _ _, fun b hb => by simp [slBlock] at hb⟩
      have h0 := hnew w (fun _ => rfl)
      simp [Builtin.append_, run_underlying ht, sizeOf, typeInfo, hi, Builtin.lenOf, h0]
    · have hgr := grow 0 #[] rfl
      have h48' : ¬ (281474976710656 < Builtin.nextslicecap m 0 * i.bytes) := by
        rw [nextslicecap_zero (by omega)]; simp only [Nat.zero_add] at hmb; omega
      have h0 := hnew w.drew (fun _ => rfl)
      have h63m : ¬ (9223372036854775807 < (m : Int)) := by omega
      simp only [Nat.zero_add] at hgr ⊢
      refine ⟨_, _, _, ?_, hgr, kgrow _ _, fun b hb => .inr (by simp [slBlock] at hb; omega)⟩
      simp [Builtin.append_, run_underlying ht, sizeOf, typeInfo, zeroValue, hi, hz, Builtin.lenOf, hm0, h63m, h48', Question.forced, run_firstCells_none, h0, newRow, grownCap]
  · simp only [Value.slice.injEq] at hv
    obtain ⟨rfl, _, rfl⟩ := hv
    by_cases hroom : n + m ≤ cap
    · have hfit : n * i.size + ys.length ≤ cur.size := by rw [hl, hcs, ← Nat.add_mul]; exact Nat.mul_le_mul_right _ hroom
      have hst := run_storeCells_at P g (n * i.size) e ys 0 cur w hg (by simpa using hfit) h1
      simp only [Nat.add_zero] at hst
      have h0 := hnew w (fun _ => rfl)
      refine ⟨some ⟨g, 0, none⟩, cap, w.setRow g (cur.toList.take (n * i.size) ++ ys ++ cur.toList.drop (n * i.size + ys.length)).toArray, ?_, ⟨hlen, .inr ⟨g, cap, _, rfl, setRow_heap w g cur _ e _ hg, hroom, hcm, ?_, ?_⟩⟩,
        ⟨rfl, rfl, rfl, by simp, fun x _ hx => setRow_other w g x _ (fun e => hx (by simp [slBlock, e])), fun a _ => fz_setRow w g _ a⟩, fun b hb => .inl hb⟩
      · simp [Builtin.append_, run_underlying ht, sizeOf, typeInfo, hi, Builtin.lenOf, hroom, h0, addLit, hst]
      · simp only [List.size_toArray, List.length_append, List.length_take, List.length_drop, Array.length_toList]
        omega
      · rw [htake, ← hlen]
        exact List.take_left
    · have hgr := grow cap xs.toArray rfl
      have h48' : ¬ (281474976710656 < Builtin.nextslicecap (n + m) cap * i.bytes) := by
        have := growslice_fits (need := n + m) (old := cap) (bytes := i.bytes) (by omega) hmb
        omega
      have h0 := hnew w.drew (fun _ => rfl)
      have hold : (Builtin.firstCells i.size n (.slice (some ⟨g, 0, none⟩) n cap)).run P w.drew = .ok xs.toArray w.drew := by
        refine run_firstCells_some (P := P) w.drew i.size n ⟨g, 0, none⟩ n cap xs hok.1 (fun j v hj => ?_)
        rw [addLit]
        have := (SlOk.rd hok).cell j v hj
        rw [cell_hp] at this
        exact this
      refine ⟨_, _, _, ?_, hgr, kgrow _ _, fun b hb => .inr (by simp [slBlock] at hb; omega)⟩
      simp [Builtin.append_, run_underlying ht, sizeOf, typeInfo, zeroValue, hi, hz, Builtin.lenOf, hroom, h63i, h48', Question.forced, hold, h0, newRow, grownCap]
      congr 2
      rw [← Array.append_assoc]
      congr 1
      simp

/-- append of a slice's cells to a slice that is owned -/
theorem ap {t e : TypeId} {i : TypeInfo} {z : Value} {sz : Nat} {x y : Operand} {oa ob : Option Addr} {n cap m c : Nat} {xs ys : List Value}
    (hF : Fr N F a) (hN : Nat.blt d N.n = true) (hS : St w0 M Hs L w)
    (ht : P.underlying t = some (.slice e)) (hi : P.info? e = some i) (hz : i.zero = some z) (hsize : i.size = sz) (hzs : z.cells.size = sz) (hsz : 0 < sz)
    (hx : opv F x = some (.slice oa n cap)) (hy : opv F y = some (.slice ob m c)) (hmem : sla e sz oa n cap xs ∈ L)
    (hl : ys.length = m * sz) (hrd : Rd (hp w) ob ys) (h1 : ∀ u ∈ ys, u.oneCell' = true) (hmb : (n + m) * i.bytes ≤ 140737488355328) (h63 : n + m ≤ maxLen)
    (k : ∀ oa' cap' w a, (∀ L', Repl (sla e sz oa n cap xs) (sla e sz oa' (n + m) cap' (xs ++ ys)) L L' → St w0 M Hs L' w) → Fr N ((d, .slice oa' (n + m) cap') :: F) a → K a w) :
    stp P ops Q ⟨some d, .call ⟨.builtin .append, #[x, y], #[t, t]⟩, ty, pos, af, none⟩ a w K := by
  obtain ⟨oa', cap', w', hr, hok, hk, hf⟩ := run_ap (P := P) (ty := ty) (w := w) ht hi hz hsize hzs hsz (hS.ok _ hmem) hl hrd.some (fun j u hj => by rw [← cell_hp]; exact hrd.cell j u hj) h1 hmb h63 (c := c)
  refine m1 (w' := w') hF hN (v := .slice oa' (n + m) cap') ?_ fun a hF => k oa' cap' w' a (fun L' hrep => hS.upd hrep hk hok hf) hF
  simp [execOp, resolve, invoke, builtin, hF.ev hx, hF.ev hy, hr]
end
end Go.LL
