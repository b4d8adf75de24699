/- Opening what came in, for the lifter's plain data. No condition: plain lemmas. -/
import Derived.Test.YtkgaliichchanaaLM
import Derived.Test.YtkgaliichchanaaLLt
import Derived.Test.YtkgaliichchanaaPL
import Derived.OpenShut
import Derived.Lib.LaidTab
import Derived.Stop.LaidErr
namespace Go.LM
open Go Go.LL Go.MD Go.ChangeShapes Go.WideShapes Go.ChangeAt Go.RowKit Go.WideElems

def Op (P : Program) (t : TypeId) (α : Type) [Enc α] (ok : α → Prop) : Prop :=
  ∀ {H : Type} {enc : TypeId × Value → H} {W : World} {base : Nat} {sp : Nat → Bool} {held : Bool} {n : Nat} {cs : List Value} {y : DataW H × List MemPlace},
    DataW.trod enc P W base sp held n t cs = some y → ∃ x : α, Enc.rep (hp W) cs x ∧ ok x

section
variable {P : Program} {t e : TypeId} {α : Type} [Enc α] {ok : α → Prop}
theorem inR_wf {z : Int} (h : (Lit.int .i64 z).wf = true) : InR z := by
  simp [Lit.wf, IntKind.min, IntKind.max, IntKind.signed, IntKind.bits] at h
  exact ⟨by omega, by omega⟩
theorem op_int (ht : P.underlying t = some (.int .i64)) : Op P t Int InR := fun h => by
  obtain ⟨z, rfl, -, hw⟩ := DataW.trod_int ht h
  exact ⟨z, rfl, inR_wf hw⟩
theorem op_bool (ht : P.underlying t = some .bool) : Op P t Bool (fun _ => True) := fun {H enc W base sp held n cs y} h => by
  cases n with
  | zero => simp [DataW.trod] at h
  | succ n =>
    unfold DataW.trod at h
    rw [ht] at h
    split at h <;> first | (exact ⟨_, rfl, trivial⟩) | simp_all
theorem op_str (ht : P.underlying t = some .string) : Op P t (List UInt8) (fun s => s.length ≤ maxLen) := fun h => by
  obtain ⟨s, rfl, -, hw⟩ := DataW.trod_string ht h
  refine ⟨s.data.toList, rfl, ?_⟩
  show s.data.toList.length ≤ maxLen
  rw [Array.length_toList]; exact hw
theorem Op.weaken {ok' : α → Prop} (h : Op P t α ok) (hw : ∀ x, ok x → ok' x) : Op P t α ok' := fun ht => by
  obtain ⟨x, h1, h2⟩ := h ht
  exact ⟨x, h1, hw x h2⟩
theorem listOf' {β : Type} {n : Nat} {p : Nat → β → Prop} (h : ∀ i, i < n → ∃ x, p i x) : ∃ l : List β, l.length = n ∧ ∀ i (h : i < l.length), p i l[i] := by
  induction n with
  | zero => exact ⟨[], rfl, fun i hi => by cases hi⟩
  | succ n ih =>
    obtain ⟨l, h1, h2⟩ := ih (fun i hi => h i (by omega))
    obtain ⟨o, ho⟩ := h n (by omega)
    refine ⟨l ++ [o], by simp [h1], fun i hi => ?_⟩
    by_cases e : i < l.length
    · rw [List.getElem_append_left e]; exact h2 i e
    · have e2 : i = n := by simp at hi; omega
      subst e2
      rw [List.getElem_append_right (by omega)]
      simp only [h1, Nat.sub_self, List.getElem_cons_zero]
      exact ho
theorem rows_of {h : PH} : ∀ {l : List (List Value × α)}, (∀ q ∈ l, Enc.rep h q.1 q.2) → Rows h (l.flatMap (·.1)) (l.map (·.2))
  | [], _ => .nil
  | q :: l, hq => .cons (hq q (.head _)) (rows_of fun r hr => hq r (.tail _ hr))
omit [Enc α] in
theorem flat_get' {sz : Nat} : ∀ {l : List (List Value × α)}, (∀ q ∈ l, q.1.length = sz) → ∀ {k j : Nat} (hk : k < l.length) (_ : j < sz), (l.flatMap (·.1))[k * sz + j]? = (l[k]).1[j]?
  | [], _, k, j, hk, _ => by simp at hk
  | x :: r, hf, k, j, hk, hj => by
    have hx := hf x (.head _)
    rw [List.flatMap_cons]
    cases k with
    | zero =>
      rw [Nat.zero_mul, Nat.zero_add, List.getElem?_append_left (by rw [hx]; exact hj)]
      rfl
    | succ k =>
      rw [List.getElem?_append_right (by rw [hx, Nat.succ_mul]; omega), hx, show (k + 1) * sz + j - sz = k * sz + j by rw [Nat.succ_mul]; omega]
      have := flat_get' (fun q hq => hf q (.tail _ hq)) (k := k) (j := j) (by simpa using hk) hj
      rw [this]
      rfl
theorem op_slice {s : Nat} (ht : P.underlying t = some (.slice e)) (hc : P.cellsOf e = s) (hs : Enc.sz α = s) (h0 : 0 < s) (h : Op P e α ok) : Op P t (List α) (fun xs => ∀ x ∈ xs, ok x) := fun {H enc W base sp held n cs y} hd => by
  rcases DataW.trod_slice ht hd with ⟨rfl, _⟩ | ⟨a, len, cap, elems, rest, m, _, rfl, _, _, hlc, hcap, hlen, hel, _⟩
  · exact ⟨[], ⟨none, 0, rfl, Nat.le_refl _, SR.nil _ _⟩, fun x hx => by cases hx⟩
  · rw [hc] at hel
    have each : ∀ i, i < len → ∃ q : List Value × α, (∀ j v, q.1[j]? = some v → W.cell? ((a.add (i * s)).add j) = some v) ∧ Enc.rep (hp W) q.1 q.2 ∧ ok q.2 ∧ q.1.length = s := by
      intro i hi
      have h1 := hel i hi
      rw [List.getElem?_eq_getElem (by omega)] at h1
      obtain ⟨cs, hcs, hy⟩ := Option.bind_eq_some_iff.1 h1
      obtain ⟨_, hcl, hcell⟩ := World.cells?_some hcs
      obtain ⟨x, hx, hok⟩ := h hy
      refine ⟨(cs, x), fun j v hj => ?_, hx, hok, hcl⟩
      have hjl : j < cs.length := (List.getElem?_eq_some_iff.1 hj).1
      rw [hcell j (by omega)]
      exact hj
    obtain ⟨l, hl, hp'⟩ := listOf' each
    have hlen' : ∀ q ∈ l, q.1.length = s := fun q hq => by
      obtain ⟨i, hi, rfl⟩ := List.getElem_of_mem hq
      exact (hp' i hi).2.2.2
    have hrep : ∀ q ∈ l, Enc.rep (hp W) q.1 q.2 := fun q hq => by
      obtain ⟨i, hi, rfl⟩ := List.getElem_of_mem hq
      exact (hp' i hi).2.1
    refine ⟨l.map (·.2), ⟨some a, cap, by rw [List.length_map, hl], by rw [List.length_map, hl]; exact hlc, l.flatMap (·.1), ?_, rows_of hrep⟩, fun x hx => ?_⟩
    · have spot : 0 < l.length → a = ⟨a.block, a.off, none⟩ := fun hpos => by
        have h1 := (hp' 0 hpos).2.2.2
        have h2 := (hp' 0 hpos).1 0 _ (List.getElem?_eq_getElem (by omega))
        rw [Nat.zero_mul] at h2
        refine cell_spot (w := W) (a := a) (v := l[0].1[0]'(by omega)) ?_
        rw [← h2]
        obtain ⟨b, o, sp⟩ := a
        cases sp with
        | none => rfl
        | some _ => rfl
      refine ⟨fun hne => ?_, fun j u hj => ?_⟩
      · have : 0 < l.length := by
          rcases Nat.eq_zero_or_pos l.length with h | h
          · rw [List.eq_nil_of_length_eq_zero h] at hne; simp at hne
          · exact h
        simp only [adr, Option.getD_some]
        rw [← spot this]
      · have hjl : j < (l.flatMap (·.1)).length := (List.getElem?_eq_some_iff.1 hj).1
        have hfl : (l.flatMap (·.1)).length = l.length * s := by
          have := (rows_of hrep).len
          rw [List.length_map, hs] at this
          exact this
        have hk : j / s < l.length := Nat.div_lt_of_lt_mul (by rw [Nat.mul_comm]; omega)
        have hk0 : 0 < l.length := Nat.lt_of_le_of_lt (Nat.zero_le _) hk
        have hm : j % s < s := Nat.mod_lt _ h0
        have hdm : j / s * s + j % s = j := by rw [Nat.mul_comm]; exact Nat.div_add_mod j s
        rw [← hdm, flat_get' hlen' hk hm] at hj
        have h3 := (hp' (j / s) hk).1 (j % s) u hj
        rw [spot hk0, addLit, addLit] at h3
        rw [cell_hp]
        simp only [adr, Option.getD_some]
        rw [show a.off + j = a.off + j / s * s + j % s by omega]
        exact h3
    · obtain ⟨q, hq, rfl⟩ := List.mem_map.1 hx
      obtain ⟨i, hi, rfl⟩ := List.getElem_of_mem hq
      exact (hp' i hi).2.2.1
theorem take_flat {s : Nat} : ∀ {n : Nat} {cs : List Value}, cs.length = n * s → cs = (List.range n).flatMap fun i => (cs.drop (i * s)).take s := by
  intro n
  induction n with
  | zero => intro cs h; rw [Nat.zero_mul] at h; rw [List.eq_nil_of_length_eq_zero h]; rfl
  | succ n ih =>
    intro cs h
    rw [Nat.succ_mul] at h
    rw [List.range_succ, List.flatMap_append]
    have h1 := ih (cs := cs.take (n * s)) (by rw [List.length_take]; omega)
    have h2 : ((List.range n).flatMap fun i => (cs.drop (i * s)).take s) = (List.range n).flatMap fun i => ((cs.take (n * s)).drop (i * s)).take s := by
      rw [List.flatMap_def, List.flatMap_def]
      congr 1
      refine List.map_congr_left fun i hi => ?_
      have hi' : i < n := List.mem_range.1 hi
      have hle : (i + 1) * s ≤ n * s := Nat.mul_le_mul_right _ hi'
      rw [Nat.succ_mul] at hle
      rw [List.drop_take, List.take_take, Nat.min_eq_left (by omega)]
    rw [h2, ← h1]
    simp only [List.flatMap_cons, List.flatMap_nil, List.append_nil]
    rw [List.take_of_length_le (l := cs.drop (n * s)) (by rw [List.length_drop]; omega), List.take_append_drop]
theorem op_array {s n : Nat} (ht : P.underlying t = some (.array n e)) (hct : P.cellsOf t = n * s) (hc : P.cellsOf e = s) (h : Op P e α ok) : Op P t (Arr n α) (fun a => ∀ x ∈ a.l, ok x) := fun {H enc W base sp held f cs y} hd => by
  obtain ⟨xs, m, _, _, hl, hxl, hel⟩ := DataW.trod_array ht hd
  rw [hct] at hl
  rw [hc] at hel
  have each : ∀ i, i < n → ∃ x : α, Enc.rep (hp W) ((cs.drop (i * s)).take s) x ∧ ok x := fun i hi => by
    have h1 := hel i hi
    rw [List.getElem?_eq_getElem (by omega)] at h1
    exact h h1
  obtain ⟨l, hll, hp'⟩ := listOf' each
  refine ⟨⟨l, hll⟩, ?_, fun x hx => ?_⟩
  · show Rows (hp W) cs l
    have := rows_of (h := hp W) (l := (List.range n).attach.map fun i => ((cs.drop (i.1 * s)).take s, l[i.1]'(by have := List.mem_range.1 i.2; omega))) (fun q hq => by
      obtain ⟨i, _, rfl⟩ := List.mem_map.1 hq
      exact (hp' _ _).1)
    have e1 : (((List.range n).attach.map fun i => ((cs.drop (i.1 * s)).take s, l[i.1]'(by have := List.mem_range.1 i.2; omega))).flatMap (·.1)) = cs := by
      conv => rhs; rw [take_flat hl]
      rw [List.flatMap_map]
      rw [List.flatMap_def, List.flatMap_def]
      congr 1
      simp
    have e2 : (((List.range n).attach.map fun i => ((cs.drop (i.1 * s)).take s, l[i.1]'(by have := List.mem_range.1 i.2; omega))).map (·.2)) = l := by
      apply List.ext_getElem
      · simp [hll]
      · intro i h1 h2
        simp
    rw [e1, e2] at this
    exact this
  · obtain ⟨i, hi, rfl⟩ := List.getElem_of_mem hx
    exact (hp' i hi).2
theorem dropF {cs : List Value} {o s n : Nat} (h : o + s = n) : cs.drop o = (cs.drop o).take s ++ cs.drop n := by
  subst h
  rw [← List.drop_drop, List.take_append_drop]
theorem lastF {cs : List Value} {o s : Nat} (h : cs.length = o + s) : (cs.drop o).take s = cs.drop o := List.take_of_length_le (by rw [List.length_drop]; omega)
end
section
variable {P : Program} {W : World} {t e : TypeId} {r : Reach} {b0 base : Nat} {v : Value} {H : Type} {enc : TypeId × Value → H} {d : DataW H} {ps : List MemPlace} {sp : Nat → Bool} {held : Bool} {α : Type} [Enc α] {ok : α → Prop}
theorem okWide_array {n : Nat} (ht : P.underlying t = some (.array n e)) (h : Value.okWide P W r base t v) : ∃ cs, v = .agg cs ∧ cs.size = P.cellsOf t := by
  simp only [Value.okWide, ht] at h
  obtain ⟨cs, h1, h2, _⟩ := h
  exact ⟨cs, h1, h2⟩
theorem top_array {n : Nat} (ht : P.underlying t = some (.array n e)) (hval : Value.okWide P W r b0 t v) (hd : DataW.Trod enc P W base sp held t v d ps) (h : Op P t α ok) : ∃ (cs : List Value) (x : α), v = .agg cs.toArray ∧ Enc.rep (hp W) cs x ∧ ok x := by
  obtain ⟨cs, rfl, _⟩ := okWide_array ht hval
  obtain ⟨fuel, hf⟩ := hd
  obtain ⟨x, h1, h2⟩ := h hf
  exact ⟨_, x, by simp [Value.cells], h1, h2⟩
theorem top_struct {fs : Array Field} (ht : P.underlying t = some (.struct fs)) (hval : Value.okWide P W r b0 t v) (hd : DataW.Trod enc P W base sp held t v d ps) (h : Op P t α ok) : ∃ (cs : List Value) (x : α), v = .agg cs.toArray ∧ Enc.rep (hp W) cs x ∧ ok x := by
  obtain ⟨cs, rfl, _⟩ := okWide_struct ht hval
  obtain ⟨fuel, hf⟩ := hd
  obtain ⟨x, h1, h2⟩ := h hf
  exact ⟨_, x, by simp [Value.cells], h1, h2⟩
theorem top_slice (ht : P.underlying t = some (.slice e)) (hval : Value.okWide P W r b0 t v) (hd : DataW.Trod enc P W base sp held t v d ps) {ok : List α → Prop} (h : Op P t (List α) ok) : ∃ (oa : Option Addr) (cap : Nat) (xs : List α), v = .slice oa xs.length cap ∧ xs.length ≤ cap ∧ SR (hp W) oa xs ∧ ok xs := by
  obtain ⟨oa, n, cap, rfl⟩ := okWide_slice ht hval
  obtain ⟨fuel, hf⟩ := hd
  obtain ⟨x, ⟨oa', cap', h1, h2, h3⟩, h4⟩ := h hf
  refine ⟨oa', cap', x, ?_, h2, h3, h4⟩
  simp [Value.cells] at h1
  obtain ⟨rfl, rfl, rfl⟩ := h1
  rfl
theorem top_int (ht : P.underlying t = some (.int .i64)) (hval : Value.okWide P W r b0 t v) (hd : DataW.Trod enc P W base sp held t v d ps) : ∃ z : Int, v = .int .i64 z ∧ InR z := by
  obtain ⟨z, rfl, _, _, hw⟩ := open_int ht hval hd
  exact ⟨z, rfl, inR_wf hw⟩
end
end Go.LM
