/- The engine's seventh part: maps whose keys are arrays of numbers. No condition: plain lemmas. -/
import Derived.Test.YtkgaliichchanaaLLf
import Derived.ChangeKeysEq
namespace Go.LL
open Go

abbrev Vec (n : Nat) := { l : List Int // l.length = n }
abbrev kA (n : Nat) : Vec n → Value := fun l => .agg (ints l.1).toArray

theorem run_intEq {P : Program} {e : TypeId} (hu : ∀ w, (underlying e).run P w = .ok (.int .i64) w) (d : Nat) (a b : Int) (w : World) : (Op.equalIn (d + 1) e (.int .i64 a) (.int .i64 b)).run P w = .ok (a == b) w := by
  simp [Op.equalIn, hu]

theorem run_items {P : Program} {e : TypeId} (hp : P.plainKey e = true) (hu : ∀ w, (underlying e).run P w = .ok (.int .i64) w) (d : Nat) {a b : List Int} (w : World) : ∀ (is : List Nat), (∀ i ∈ is, i < a.length ∧ i < b.length) →
    (Op.eqItems (d + 1) e 1 (ints a).toArray (ints b).toArray is).run P w = .ok (is.all fun i => a.getD i 0 == b.getD i 0) w := by
  intro is
  induction is with
  | nil => intro _; simp [Op.eqItems]
  | cons i r ih =>
    intro h
    obtain ⟨h1, h2⟩ := h i (by simp)
    have p1 := run_part_plain (P := P) w hp (xs := (ints a).toArray) (off := i * 1) (v := .int .i64 a[i]) (by simp [ints, h1])
    have p2 := run_part_plain (P := P) w hp (xs := (ints b).toArray) (off := i * 1) (v := .int .i64 b[i]) (by simp [ints, h2])
    have ih' := ih (fun i hi => h i (by simp [hi]))
    have e1 : a.getD i 0 = a[i] := by simp [List.getD, h1]
    have e2 : b.getD i 0 = b[i] := by simp [List.getD, h2]
    by_cases e3 : a[i] = b[i]
    · have : (a[i] == b[i]) = true := by simp [e3]
      simp only [Op.eqItems, Sem.run_bind, p1, p2, Result.andThen_ok, run_intEq hu, List.all_cons, e1, e2, this, Bool.not_true, Bool.false_eq_true, if_false, Bool.true_and, ih']
    · have : (a[i] == b[i]) = false := by simp [e3]
      simp only [Op.eqItems, Sem.run_bind, p1, p2, Result.andThen_ok, run_intEq hu, List.all_cons, e1, e2, this, Bool.not_false, if_true, Bool.false_and, Sem.run_pure]

theorem all_range_eq {n : Nat} {a b : List Int} (ha : a.length = n) (hb : b.length = n) : ((List.range n).all fun i => a.getD i 0 == b.getD i 0) = (a == b) := by
  by_cases e : a = b
  · subst e; simp
  · have : (a == b) = false := by simp [e]
    rw [this, ← Bool.not_eq_true]
    intro h
    apply e
    apply List.ext_getElem (by omega)
    intro i h1 h2
    have := List.all_eq_true.1 h i (by simp; omega)
    simpa [List.getD, h1, h2] using this

theorem keyArr {P : Program} {kt e : TypeId} {n : Nat} {i : TypeInfo} (hk : P.underlying kt = some (.array n e)) (hp : P.plainKey e = true) (he : P.underlying e = some (.int .i64)) (hi : P.info? e = some i) (hs : i.size = 1) : KeyOk P kt (kA n) := by
  have hu : ∀ w, (underlying e).run P w = .ok (.int .i64) w := fun w => run_underlying he w
  have hc : P.cellsOf e = 1 := by simp [Program.cellsOf, hi, hs]
  have heq : ∀ (k m : Vec n) (w : World), (Op.equal kt (kA n k) (kA n m)).run P w = .ok (k == m) w := by
    intro k m w
    have h1 := run_equalIn_array (P := P) w 9999 (ints k.1).toArray (ints m.1).toArray hk hi
    rw [hc] at h1
    have h2 := run_items hp hu 9998 (a := k.1) (b := m.1) w (List.range n) (fun i h => by have := List.mem_range.1 h; have := k.2; have := m.2; omega)
    rw [all_range_eq k.2 m.2] at h2
    have h3 : (k == m) = (k.1 == m.1) := rfl
    show (Op.equalIn (9999 + 1) kt _ _).run P w = _
    rw [h1, h3]; exact h2
  refine ⟨fun em w k => ?_, fun w k l => ?_, fun k => ?_⟩
  · rw [show (10000 : Nat) = 9999 + 1 from rfl, Instr.checkKey]
    simp only [kA, Sem.run_bind, run_underlying hk, Result.andThen_ok]
    simp only [Std.Legacy.Range.forIn_eq_forIn_range', Std.Legacy.Range.size, Nat.sub_zero, Nat.add_one_sub_one, Nat.div_one]
    have hall : ∀ j ∈ List.range' 0 n, j < k.1.length := fun j hj => by have := List.mem_range'.1 hj; have := k.2; omega
    generalize List.range' 0 n = is at hall
    induction is with
    | nil => simp
    | cons j is ih =>
      have hj := hall j (by simp)
      have p1 := run_part_plain (P := P) w hp (xs := (ints k.1).toArray) (off := j * P.cellsOf e) (v := .int .i64 k.1[j]) (by simp [ints, hc, hj])
      have p2 : (Instr.checkKey em (9998 + 1) e (.int .i64 k.1[j])).run P w = .ok () w := by
        generalize (9998 : Nat) = z
        simp [Instr.checkKey, hu]
      simp only [List.forIn_cons, Sem.run_bind, run_sizeOf w hi, Result.andThen_ok, p1, p2, Sem.run_pure]
      exact ih (fun y hy => hall y (by simp [hy]))
  · have h0 : Instr.findNow (.array n e) (kA n k) (l.map (toE (kA n))) 0 = none ∨ l = [] := by
      cases l with
      | nil => exact .inr rfl
      | cons x r => exact .inl rfl
    have key : ∀ (l : List (Vec n × Value × Nat)) (i : Nat), (Instr.findAsking kt (kA n k) (l.map (toE (kA n))) i).run P w = .ok (mfindFrom k l i) w := by
      intro l
      induction l with
      | nil => intro i; simp [Instr.findAsking, mfindFrom]
      | cons x r ih =>
        intro i
        by_cases e : k = x.1
        · simp [Instr.findAsking, toE, heq, mfindFrom, e]
        · have : (k == x.1) = false := by simpa using fun h => e (Subtype.ext h)
          have h1 := heq k x.1 w
          rw [this] at h1
          have h2 : (toE (kA n) x).key = kA n x.1 := rfl
          simp only [List.map_cons, Instr.findAsking, h2, Sem.run_bind, h1, Result.andThen_ok, mfindFrom, e, if_false, Bool.false_eq_true]
          exact ih (i + 1)
    rcases h0 with h0 | rfl
    · simp only [Instr.findKey, Sem.run_bind, run_underlying hk, Result.andThen_ok, h0]
      exact key l 0
    · simp [Instr.findKey, run_underlying hk, Instr.findNow, mfindFrom]
  · show Instr.sameBits 10000 (.agg _) (.agg _) = true
    simp only [Instr.sameBits, beq_self_eq_true, Bool.true_and, List.all_eq_true]
    rintro ⟨x, y⟩ hxy
    have hx : x = y := by
      obtain ⟨j, hj, e⟩ := List.getElem_of_mem hxy
      simp only [List.getElem_zip, Prod.mk.injEq] at e
      rw [← e.1, ← e.2]
    subst hx
    have hm := (List.of_mem_zip hxy).1
    simp only [ints, List.mem_map] at hm
    obtain ⟨z, _, rfl⟩ := hm
    simp [Instr.sameBits]

/-- one more, of a call's own, among many -/
theorem St.bigPush {α : Type} {f : α → HA} {l : List α} {x : α} {w0 w : World} {M : Nat → Prop} {Hs : List PH} {L L1 L2 : List HA} (hS : St w0 M Hs L w) (hp : Pick (f x) L L1) (hr : Repl (bigA f l) (bigA f (l ++ [x])) L1 L2) : St w0 M Hs L2 w := by
  have h1 := hS.drop hp
  have hap := (hp.disj hS.disj).1
  have hbig : (bigA f l).ok (_root_.Go.LL.hp w) := h1.ok _ hr.memOld
  have hx := hS.ok _ hp.mem
  have hsplit : ∀ b, (bigA f (l ++ [x])).fp b → (bigA f l).fp b ∨ (f x).fp b := fun b ⟨y, hy, hb⟩ => by
    rcases List.mem_append.1 hy with h | h
    · exact .inl ⟨y, h, hb⟩
    · simp only [List.mem_cons, List.not_mem_nil, or_false] at h; subst h; exact .inr hb
  refine ⟨h1.keep, h1.hs, ?_, ?_, ?_⟩
  · intro A hA
    rcases hr.others h1.disj A hA with rfl | ⟨h, _⟩
    · refine ⟨fun y hy => ?_, List.pairwise_append.2 ⟨hbig.2, List.pairwise_cons.2 ⟨fun _ h => (nomatch h), .nil⟩, fun y hy z hz => ?_⟩⟩
      · rcases List.mem_append.1 hy with h | h
        · exact hbig.1 y h
        · simp only [List.mem_cons, List.not_mem_nil, or_false] at h; subst h; exact hx
      · simp only [List.mem_cons, List.not_mem_nil, or_false] at hz; subst hz
        exact fun b hb hb2 => hap _ hr.memOld b hb2 ⟨y, hy, hb⟩
    · exact h1.ok A h
  · intro A hA b hb
    rcases hr.others h1.disj A hA with rfl | ⟨h, _⟩
    · rcases hsplit b hb with h | h
      · exact h1.own _ hr.memOld b h
      · exact hS.own _ hp.mem b h
    · exact h1.own A h b hb
  · have key : ∀ {L1 L2 : List HA}, Repl (bigA f l) (bigA f (l ++ [x])) L1 L2 → L1.Pairwise Apart → (∀ B ∈ L1, Apart (f x) B) → L2.Pairwise Apart ∧ ∀ B ∈ L2, B = bigA f (l ++ [x]) ∨ B ∈ L1 := by
      intro L1 L2 hr
      induction hr with
      | head =>
        intro hd ha
        obtain ⟨h2, h3⟩ := List.pairwise_cons.1 hd
        refine ⟨List.pairwise_cons.2 ⟨fun B hB b hb hb2 => ?_, h3⟩, fun B hB => ?_⟩
        · rcases hsplit b hb with h | h
          · exact h2 B hB b h hb2
          · exact ha B (.tail _ hB) b h hb2
        · rcases List.mem_cons.1 hB with h | h
          · exact .inl h
          · exact .inr (.tail _ h)
      | tail hr ih =>
        intro hd ha
        obtain ⟨h2, h3⟩ := List.pairwise_cons.1 hd
        obtain ⟨h4, h5⟩ := ih h3 (fun B hB => ha B (.tail _ hB))
        refine ⟨List.pairwise_cons.2 ⟨fun B hB => ?_, h4⟩, fun B hB => ?_⟩
        · rcases h5 B hB with rfl | h
          · intro b hb hb2
            rcases hsplit b hb2 with h | h
            · exact h2 _ hr.memOld b hb h
            · exact ha _ (.head _) b h hb
          · exact h2 B h
        · rcases List.mem_cons.1 hB with rfl | h
          · exact .inr (.head _)
          · rcases h5 B h with h | h
            · exact .inl h
            · exact .inr (.tail _ h)
    exact (key hr h1.disj hap).1

section
variable {P : Program} {a : Act} {w : World} {N : FN} {F : List (Nat × Value)} {d : Option Tmp} {ty : TypeId} {pos : String} {af : Array Edge} {g : Option (Nat × Bool)}
/-- the whole of an array, as a slice -/
theorem e_slArr (hF : Fr N F a) {x : Operand} {t e : TypeId} {sz n b : Nat} (hu : ∀ w, (underlying t).run P w = .ok (.array n e) w) (hz : ∀ w, (sizeOf e).run P w = .ok sz w)
    (hx : opv F x = some (.pointer (some ⟨b, 0, none⟩))) :
    (execOp a.eval ⟨d, .slice t x none none none, ty, pos, af, g⟩).run P w = .ok (.value (.slice (some ⟨b, 0, none⟩) n n)) w := by
  have h1 : (Instr.sliceAt t (.pointer (some ⟨b, 0, none⟩)) none none none).run P w = .ok (.slice (some ⟨b, 0, none⟩) n n) w := by
    have e0 : (⟨b, 0, none⟩ : Addr).add (0 * sz) = ⟨b, 0, none⟩ := by rw [Nat.zero_mul]; rfl
    simp only [Instr.sliceAt, Sem.run_bind, hu, Result.andThen_ok]
    simp [Instr.sureAddr, Instr.sliceBounds, hz, e0]
    intro _
    rfl
  simp [execOp, hF.ev hx, h1]
end
end Go.LL
