/- The engine's third part: what each operation yields. No condition: plain lemmas. -/
import Derived.Test.YtkgaliichchanaaLLb
namespace Go.LL
open Go

/-- the address of a slice's first cell (of nil: any) -/
def adr (oa : Option Addr) : Addr := oa.getD ⟨0, 0, none⟩

/-- what a slice's cells read, from its first one on -/
structure Rd (h : PH) (oa : Option Addr) (vs : List Value) : Prop where
  some : vs ≠ [] → oa = some ⟨(adr oa).block, (adr oa).off, none⟩
  cell : ∀ (j : Nat) (v : Value), vs[j]? = .some v → h.cell? ⟨(adr oa).block, (adr oa).off + j, none⟩ = .some v

/-- a slice of the call's own -/
abbrev sla (e : TypeId) (sz : Nat) (oa : Option Addr) (n cap : Nat) (xs : List Value) : HA := sl e sz (.slice oa n cap) n xs

theorem SlOk.rd {e : TypeId} {sz : Nat} {oa : Option Addr} {n cap : Nat} {xs : List Value} {h : PH} (ho : SlOk e sz (.slice oa n cap) n xs h) : Rd h oa xs := by
  obtain ⟨hl, hn | ⟨g, cap', cur, hv, hg, hnc, hm, hs, ht⟩⟩ := ho
  · obtain ⟨hv, h0⟩ := hn
    subst h0
    have : xs = [] := List.eq_nil_of_length_eq_zero (by simpa using hl)
    subst this
    exact ⟨fun h => absurd rfl h, fun j v hj => by simp at hj⟩
  · simp only [Value.slice.injEq] at hv
    obtain ⟨rfl, _, _⟩ := hv
    refine ⟨fun _ => rfl, fun j v hj => ?_⟩
    rw [← ht, List.getElem?_take] at hj
    split at hj
    · simp only [adr, Option.getD_some, Nat.zero_add]
      simp only [PH.cell?, hg]
      simpa using hj
    · cases hj

theorem Rd.mono {h h' : PH} {oa : Option Addr} {vs : List Value} (hr : Rd h oa vs) (hl : ∀ b o, h b = .some o → h' b = .some o) : Rd h' oa vs := by
  refine ⟨hr.some, fun j v hj => ?_⟩
  have := hr.cell j v hj
  unfold PH.cell? at this ⊢
  cases hb : h (adr oa).block with
  | none => rw [hb] at this; cases this
  | some o => rw [hl _ _ hb]; rw [hb] at this; exact this

theorem Rd.nil (h : PH) (oa : Option Addr) : Rd h oa [] := ⟨fun h => absurd rfl h, fun j v hj => by simp at hj⟩

section
variable {w : World} {Hs : List PH} {L : List HA}

theorem Lds.elH (hs : Lds Hs L w) {h : PH} (hh : h ∈ Hs) {oa : Option Addr} {vs : List Value} (hr : Rd h oa vs) {j : Nat} {v : Value} (hj : vs[j]? = some v) : w.cell? ⟨(adr oa).block, (adr oa).off + j, none⟩ = some v :=
  hs.cellH hh (hr.cell j v hj)

theorem Lds.rdO (hs : Lds Hs L w) {e : TypeId} {sz : Nat} {oa : Option Addr} {n cap : Nat} {xs : List Value} (hm : sla e sz oa n cap xs ∈ L) : Rd (hp w) oa xs := SlOk.rd (hs.ok _ hm)

theorem Lds.elO (hs : Lds Hs L w) {e : TypeId} {sz : Nat} {oa : Option Addr} {n cap : Nat} {xs : List Value} (hm : sla e sz oa n cap xs ∈ L) {j : Nat} {v : Value} (hj : xs[j]? = some v) : w.cell? ⟨(adr oa).block, (adr oa).off + j, none⟩ = some v := by
  rw [← cell_hp]
  exact (hs.rdO hm).cell j v hj
end

theorem addLit (b o n : Nat) : (⟨b, o, none⟩ : Addr).add n = ⟨b, o + n, none⟩ := by
  unfold Addr.add; split <;> simp_all

section
variable {P : Program} {N : FN} {F : List (Nat × Value)} {a : Act} {w : World} {d : Option Tmp} {ty : TypeId} {pos : String} {af : Array Edge} {g : Option (Nat × Bool)}

theorem e_move (hF : Fr N F a) {x : Operand} {v : Value} (hx : opv F x = some v) : (execOp a.eval ⟨d, .move x, ty, pos, af, g⟩).run P w = .ok (.value v) w := by
  simp [execOp, hF.ev hx]
theorem e_asg (hF : Fr N F a) {x : Operand} {v : Value} (hx : opv F x = some v) : (execOp a.eval ⟨d, .assign x, ty, pos, af, g⟩).run P w = .ok (.value v) w := by
  simp [execOp, hF.ev hx]
theorem e_pickT (hF : Fr N F a) {c x y : Operand} {v : Value} (hc : opv F c = some (.bool true)) (hx : opv F x = some v) : (execOp a.eval ⟨d, .pick c x y, ty, pos, af, g⟩).run P w = .ok (.value v) w := by
  simp [execOp, hF.ev hx, hF.ev hc, asBool]
theorem e_pickF (hF : Fr N F a) {c x y : Operand} {v : Value} (hc : opv F c = some (.bool false)) (hy : opv F y = some v) : (execOp a.eval ⟨d, .pick c x y, ty, pos, af, g⟩).run P w = .ok (.value v) w := by
  simp [execOp, hF.ev hy, hF.ev hc, asBool]

theorem e_add (hF : Fr N F a) {x y : Operand} {t u : TypeId} {k : IntKind} {m n : Int} (hx : opv F x = some (.int k m)) (hy : opv F y = some (.int k n)) :
    (execOp a.eval ⟨d, .binOp .add t x y u, ty, pos, af, g⟩).run P w = .ok (.value (.int k (k.wrap (m + n)))) w := by
  simp [execOp, hF.ev hx, hF.ev hy, eqGuard, binOp, Op.intArith]
theorem e_sub (hF : Fr N F a) {x y : Operand} {t u : TypeId} {k : IntKind} {m n : Int} (hx : opv F x = some (.int k m)) (hy : opv F y = some (.int k n)) :
    (execOp a.eval ⟨d, .binOp .sub t x y u, ty, pos, af, g⟩).run P w = .ok (.value (.int k (k.wrap (m - n)))) w := by
  simp [execOp, hF.ev hx, hF.ev hy, eqGuard, binOp, Op.intArith]
theorem e_mul (hF : Fr N F a) {x y : Operand} {t u : TypeId} {k : IntKind} {m n : Int} (hx : opv F x = some (.int k m)) (hy : opv F y = some (.int k n)) :
    (execOp a.eval ⟨d, .binOp .mul t x y u, ty, pos, af, g⟩).run P w = .ok (.value (.int k (k.wrap (m * n)))) w := by
  simp [execOp, hF.ev hx, hF.ev hy, eqGuard, binOp, Op.intArith]

theorem wrap_in (n : Int) (h1 : -9223372036854775808 ≤ n) (h2 : n ≤ 9223372036854775807) : IntKind.i64.wrap n = n := IntWalk.i64_in n (by omega)

/-- sums, differences and products that stay in int -/
theorem e_addI (hF : Fr N F a) {x y : Operand} {t u : TypeId} {m n r : Int} (hx : opv F x = some (.int .i64 m)) (hy : opv F y = some (.int .i64 n)) (hr : m + n = r) (h : -9223372036854775808 ≤ m + n ∧ m + n ≤ 9223372036854775807) :
    (execOp a.eval ⟨d, .binOp .add t x y u, ty, pos, af, g⟩).run P w = .ok (.value (.int .i64 r)) w := by
  rw [e_add hF hx hy, wrap_in _ h.1 h.2, hr]
theorem e_subI (hF : Fr N F a) {x y : Operand} {t u : TypeId} {m n r : Int} (hx : opv F x = some (.int .i64 m)) (hy : opv F y = some (.int .i64 n)) (hr : m - n = r) (h : -9223372036854775808 ≤ m - n ∧ m - n ≤ 9223372036854775807) :
    (execOp a.eval ⟨d, .binOp .sub t x y u, ty, pos, af, g⟩).run P w = .ok (.value (.int .i64 r)) w := by
  rw [e_sub hF hx hy, wrap_in _ h.1 h.2, hr]
theorem e_mulI (hF : Fr N F a) {x y : Operand} {t u : TypeId} {m n r : Int} (hx : opv F x = some (.int .i64 m)) (hy : opv F y = some (.int .i64 n)) (hr : m * n = r) (h : -9223372036854775808 ≤ m * n ∧ m * n ≤ 9223372036854775807) :
    (execOp a.eval ⟨d, .binOp .mul t x y u, ty, pos, af, g⟩).run P w = .ok (.value (.int .i64 r)) w := by
  rw [e_mul hF hx hy, wrap_in _ h.1 h.2, hr]
theorem e_quo (hF : Fr N F a) {x y : Operand} {t u : TypeId} {k : IntKind} {m n : Int} (hx : opv F x = some (.int k m)) (hy : opv F y = some (.int k n)) (hn : n ≠ 0) :
    (execOp a.eval ⟨d, .binOp .quo t x y u, ty, pos, af, g⟩).run P w = .ok (.value (.int k (k.wrap (m.tdiv n)))) w := by
  simp [execOp, hF.ev hx, hF.ev hy, eqGuard, binOp, Op.intDiv, hn]
theorem e_rem (hF : Fr N F a) {x y : Operand} {t u : TypeId} {k : IntKind} {m n : Int} (hx : opv F x = some (.int k m)) (hy : opv F y = some (.int k n)) (hn : n ≠ 0) :
    (execOp a.eval ⟨d, .binOp .rem t x y u, ty, pos, af, g⟩).run P w = .ok (.value (.int k (m.tmod n))) w := by
  simp [execOp, hF.ev hx, hF.ev hy, eqGuard, binOp, Op.intDiv, hn]
theorem e_and (hF : Fr N F a) {x y : Operand} {t u : TypeId} {k : IntKind} {m n : Int} (hx : opv F x = some (.int k m)) (hy : opv F y = some (.int k n)) :
    (execOp a.eval ⟨d, .binOp .and t x y u, ty, pos, af, g⟩).run P w = .ok (.value (.int k (k.wrap (BitVec.ofInt k.bits m &&& BitVec.ofInt k.bits n).toNat))) w := by
  simp [execOp, hF.ev hx, hF.ev hy, eqGuard, binOp, Op.intBits]
theorem e_shl (hF : Fr N F a) {x y : Operand} {t u : TypeId} {k yk : IntKind} {m n : Int} (hx : opv F x = some (.int k m)) (hy : opv F y = some (.int yk n)) (hn : 0 ≤ n) :
    (execOp a.eval ⟨d, .binOp .shl t x y u, ty, pos, af, g⟩).run P w = .ok (.value (.int k (k.wrap (m * 2 ^ (min n.toNat k.bits))))) w := by
  simp [execOp, hF.ev hx, hF.ev hy, eqGuard, binOp, Op.shift, show ¬ n < 0 by omega]
theorem e_shr (hF : Fr N F a) {x y : Operand} {t u : TypeId} {k yk : IntKind} {m n : Int} (hx : opv F x = some (.int k m)) (hy : opv F y = some (.int yk n)) (hn : 0 ≤ n) :
    (execOp a.eval ⟨d, .binOp .shr t x y u, ty, pos, af, g⟩).run P w = .ok (.value (.int k (m.fdiv (2 ^ (min n.toNat k.bits))))) w := by
  simp [execOp, hF.ev hx, hF.ev hy, eqGuard, binOp, Op.shift, show ¬ n < 0 by omega]

theorem e_lss (hF : Fr N F a) {x y : Operand} {t u : TypeId} {k : IntKind} {m n : Int} (hx : opv F x = some (.int k m)) (hy : opv F y = some (.int k n)) :
    (execOp a.eval ⟨d, .binOp .lss t x y u, ty, pos, af, g⟩).run P w = .ok (.value (.bool (decide (m < n)))) w := by
  simp [execOp, hF.ev hx, hF.ev hy, eqGuard, binOp, Op.intCmp]
theorem e_leq (hF : Fr N F a) {x y : Operand} {t u : TypeId} {k : IntKind} {m n : Int} (hx : opv F x = some (.int k m)) (hy : opv F y = some (.int k n)) :
    (execOp a.eval ⟨d, .binOp .leq t x y u, ty, pos, af, g⟩).run P w = .ok (.value (.bool (decide (m ≤ n)))) w := by
  simp [execOp, hF.ev hx, hF.ev hy, eqGuard, binOp, Op.intCmp]
theorem e_gtr (hF : Fr N F a) {x y : Operand} {t u : TypeId} {k : IntKind} {m n : Int} (hx : opv F x = some (.int k m)) (hy : opv F y = some (.int k n)) :
    (execOp a.eval ⟨d, .binOp .gtr t x y u, ty, pos, af, g⟩).run P w = .ok (.value (.bool (decide (n < m)))) w := by
  simp [execOp, hF.ev hx, hF.ev hy, eqGuard, binOp, Op.intCmp]
theorem e_geq (hF : Fr N F a) {x y : Operand} {t u : TypeId} {k : IntKind} {m n : Int} (hx : opv F x = some (.int k m)) (hy : opv F y = some (.int k n)) :
    (execOp a.eval ⟨d, .binOp .geq t x y u, ty, pos, af, g⟩).run P w = .ok (.value (.bool (decide (n ≤ m)))) w := by
  simp [execOp, hF.ev hx, hF.ev hy, eqGuard, binOp, Op.intCmp]
theorem e_eql (hF : Fr N F a) {x y : Operand} {t u : TypeId} {k : IntKind} {m n : Int} (hx : opv F x = some (.int k m)) (hy : opv F y = some (.int k n)) :
    (execOp a.eval ⟨d, .binOp .eql t x y u, ty, pos, af, g⟩).run P w = .ok (.value (.bool (decide (m = n)))) w := by
  have : (m == n) = decide (m = n) := by by_cases h : m = n <;> simp [h]
  simp [execOp, hF.ev hx, hF.ev hy, eqGuard, binOp, Op.intCmp, this]
theorem e_neq (hF : Fr N F a) {x y : Operand} {t u : TypeId} {k : IntKind} {m n : Int} (hx : opv F x = some (.int k m)) (hy : opv F y = some (.int k n)) :
    (execOp a.eval ⟨d, .binOp .neq t x y u, ty, pos, af, g⟩).run P w = .ok (.value (.bool (decide (m ≠ n)))) w := by
  have : (m != n) = decide (m ≠ n) := by by_cases h : m = n <;> simp [h]
  simp [execOp, hF.ev hx, hF.ev hy, eqGuard, binOp, Op.intCmp, this]

/-- equality, one level -/
theorem equal_bool {t : TypeId} {m n : Bool} (hu : ∀ w, (underlying t).run P w = .ok .bool w) : (Op.equal t (.bool m) (.bool n)).run P w = .ok (m == n) w := by
  unfold Op.equal
  rw [show Op.maxDepth = 9999 + 1 from rfl]
  generalize 9999 = k
  simp [Op.equalIn, hu]
theorem equal_ptr {t e : TypeId} {oa : Option Addr} (hu : ∀ w, (underlying t).run P w = .ok (.pointer e) w) : (Op.equal t (.pointer oa) (.pointer none)).run P w = .ok oa.isNone w := by
  unfold Op.equal
  rw [show Op.maxDepth = 9999 + 1 from rfl]
  generalize 9999 = k
  cases oa <;> simp [Op.equalIn, hu]
theorem equal_sl {t e : TypeId} {oa : Option Addr} {n c : Nat} (hu : ∀ w, (underlying t).run P w = .ok (.slice e) w) : (Op.equal t (.slice oa n c) (.slice none 0 0)).run P w = .ok oa.isNone w := by
  unfold Op.equal
  rw [show Op.maxDepth = 9999 + 1 from rfl]
  generalize 9999 = k
  cases oa <;> simp [Op.equalIn, hu]

/-- bools -/
theorem e_eqlB (hF : Fr N F a) {x y : Operand} {t u : TypeId} {m n : Bool} (hu : ∀ w, (underlying t).run P w = .ok .bool w) (hx : opv F x = some (.bool m)) (hy : opv F y = some (.bool n)) :
    (execOp a.eval ⟨d, .binOp .eql t x y u, ty, pos, af, g⟩).run P w = .ok (.value (.bool (m == n))) w := by
  simp [execOp, hF.ev hx, hF.ev hy, eqGuard, binOp, equal_bool hu]
theorem e_neqB (hF : Fr N F a) {x y : Operand} {t u : TypeId} {m n : Bool} (hu : ∀ w, (underlying t).run P w = .ok .bool w) (hx : opv F x = some (.bool m)) (hy : opv F y = some (.bool n)) :
    (execOp a.eval ⟨d, .binOp .neq t x y u, ty, pos, af, g⟩).run P w = .ok (.value (.bool (m != n))) w := by
  simp [execOp, hF.ev hx, hF.ev hy, eqGuard, binOp, equal_bool hu, bne]
theorem e_not (hF : Fr N F a) {x : Operand} {t : TypeId} {m : Bool} (hx : opv F x = some (.bool m)) :
    (execOp a.eval ⟨d, .unOp .not t x, ty, pos, af, g⟩).run P w = .ok (.value (.bool (!m))) w := by
  simp [execOp, hF.ev hx, Op.unary]
theorem e_neg (hF : Fr N F a) {x : Operand} {t : TypeId} {k : IntKind} {m : Int} (hx : opv F x = some (.int k m)) :
    (execOp a.eval ⟨d, .unOp .neg t x, ty, pos, af, g⟩).run P w = .ok (.value (.int k (k.wrap (0 - m)))) w := by
  simp [execOp, hF.ev hx, Op.unary, Op.intArith]

/-- strings -/
theorem e_eqlS (hF : Fr N F a) {x y : Operand} {t u : TypeId} {m n : ByteArray} (hx : opv F x = some (.string m)) (hy : opv F y = some (.string n)) :
    (execOp a.eval ⟨d, .binOp .eql t x y u, ty, pos, af, g⟩).run P w = .ok (.value (.bool (m.toList == n.toList))) w := by
  simp [execOp, hF.ev hx, hF.ev hy, eqGuard, binOp, Op.stringOp]
theorem e_neqS (hF : Fr N F a) {x y : Operand} {t u : TypeId} {m n : ByteArray} (hx : opv F x = some (.string m)) (hy : opv F y = some (.string n)) :
    (execOp a.eval ⟨d, .binOp .neq t x y u, ty, pos, af, g⟩).run P w = .ok (.value (.bool (!(m.toList == n.toList)))) w := by
  simp [execOp, hF.ev hx, hF.ev hy, eqGuard, binOp, Op.stringOp]

/-- pointers against nil -/
theorem e_eqlP (hF : Fr N F a) {x y : Operand} {t u e : TypeId} {oa : Option Addr} (hu : ∀ w, (underlying t).run P w = .ok (.pointer e) w) (hx : opv F x = some (.pointer oa)) (hy : opv F y = some (.pointer none)) :
    (execOp a.eval ⟨d, .binOp .eql t x y u, ty, pos, af, g⟩).run P w = .ok (.value (.bool oa.isNone)) w := by
  simp [execOp, hF.ev hx, hF.ev hy, eqGuard, binOp, equal_ptr hu]
theorem e_neqP (hF : Fr N F a) {x y : Operand} {t u e : TypeId} {oa : Option Addr} (hu : ∀ w, (underlying t).run P w = .ok (.pointer e) w) (hx : opv F x = some (.pointer oa)) (hy : opv F y = some (.pointer none)) :
    (execOp a.eval ⟨d, .binOp .neq t x y u, ty, pos, af, g⟩).run P w = .ok (.value (.bool oa.isSome)) w := by
  cases oa <;> simp [execOp, hF.ev hx, hF.ev hy, eqGuard, binOp, equal_ptr hu]
/-- slices against nil -/
theorem e_eqlN (hF : Fr N F a) {x y : Operand} {t u e : TypeId} {oa : Option Addr} {n c : Nat} (hu : ∀ w, (underlying t).run P w = .ok (.slice e) w) (hx : opv F x = some (.slice oa n c)) (hy : opv F y = some (.slice none 0 0)) :
    (execOp a.eval ⟨d, .binOp .eql t x y u, ty, pos, af, g⟩).run P w = .ok (.value (.bool oa.isNone)) w := by
  simp [execOp, hF.ev hx, hF.ev hy, eqGuard, binOp, equal_sl hu]

/-- builtins -/
theorem e_lenS (hF : Fr N F a) {x : Operand} {t e : TypeId} {oa : Option Addr} {n c : Nat} (hu : ∀ w, (underlying t).run P w = .ok (.slice e) w) (hx : opv F x = some (.slice oa n c)) :
    (execOp a.eval ⟨d, .call ⟨.builtin .len, #[x], #[t]⟩, ty, pos, af, g⟩).run P w = .ok (.value (.int .i64 n)) w := by
  simp [execOp, resolve, invoke, builtin, hF.ev hx, Builtin.len_, hu, goInt]
theorem e_lenT (hF : Fr N F a) {x : Operand} {t : TypeId} {s : ByteArray} (hu : ∀ w, (underlying t).run P w = .ok .string w) (hx : opv F x = some (.string s)) :
    (execOp a.eval ⟨d, .call ⟨.builtin .len, #[x], #[t]⟩, ty, pos, af, g⟩).run P w = .ok (.value (.int .i64 s.size)) w := by
  simp [execOp, resolve, invoke, builtin, hF.ev hx, Builtin.len_, hu, goInt]
theorem e_min (hF : Fr N F a) {x y : Operand} {ts : Array TypeId} {k : IntKind} {m n : Int} (hx : opv F x = some (.int k m)) (hy : opv F y = some (.int k n)) :
    (execOp a.eval ⟨d, .call ⟨.builtin .min, #[x, y], ts⟩, ty, pos, af, g⟩).run P w = .ok (.value (.int k (min m n))) w := by
  have : (if n < m then n else m) = min m n := by simp only [Int.min_def]; split <;> split <;> omega
  simp [execOp, resolve, invoke, builtin, hF.ev hx, hF.ev hy, Builtin.min_, Builtin.min2, this]
theorem e_max (hF : Fr N F a) {x y : Operand} {ts : Array TypeId} {k : IntKind} {m n : Int} (hx : opv F x = some (.int k m)) (hy : opv F y = some (.int k n)) :
    (execOp a.eval ⟨d, .call ⟨.builtin .max, #[x, y], ts⟩, ty, pos, af, g⟩).run P w = .ok (.value (.int k (max m n))) w := by
  have : (if m < n then n else m) = max m n := by simp only [Int.max_def]; split <;> split <;> omega
  simp [execOp, resolve, invoke, builtin, hF.ev hx, hF.ev hy, Builtin.max_, Builtin.max2, this]

theorem e_nilp (hF : Fr N F a) {x : Operand} {ad : Addr} (hx : opv F x = some (.pointer (some ad))) : (execOp a.eval ⟨d, .nilCheck x, ty, pos, af, g⟩).run P w = .ok (.value (.pointer (some ad))) w := by
  simp [execOp, hF.ev hx]
theorem e_nilf (hF : Fr N F a) {x : Operand} {f : FuncId} {c1 c2 : Array Value} (hx : opv F x = some (.func (.func f) c1 c2)) : (execOp a.eval ⟨d, .nilCheck x, ty, pos, af, g⟩).run P w = .ok (.value (.func (.func f) c1 c2)) w := by
  simp [execOp, hF.ev hx]

theorem e_ext (hF : Fr N F a) {x : Operand} {i : Nat} {vs : List Value} {v : Value} (hx : opv F x = some (.tuple vs.toArray)) (hv : nth vs i = some v) : (execOp a.eval ⟨d, .extract x i, ty, pos, af, g⟩).run P w = .ok (.value v) w := by
  rw [nth_eq] at hv
  simp [execOp, hF.ev hx, Instr.extract, hv]

/-- addresses -/
theorem e_fa (hF : Fr N F a) {x : Operand} {t : TypeId} {f b o k : Nat} (hfa : ∀ (ad : Addr) (w : World), (Instr.fieldAt t (.pointer (some ad)) f).run P w = .ok (.pointer (some (ad.add k))) w)
    (hx : opv F x = some (.pointer (some ⟨b, o, none⟩))) : (execOp a.eval ⟨d, .fieldAddr t x f, ty, pos, af, g⟩).run P w = .ok (.value (.pointer (some ⟨b, o + k, none⟩))) w := by
  simp [execOp, hF.ev hx, hfa, addLit]

theorem e_ia (hF : Fr N F a) {x y : Operand} {t e : TypeId} {k : IntKind} {j : Int} {sz n c i : Nat} {oa : Option Addr}
    (hu : ∀ w, (underlying t).run P w = .ok (.slice e) w) (hz : ∀ w, (sizeOf e).run P w = .ok sz w)
    (hx : opv F x = some (.slice oa n c)) (hy : opv F y = some (.int k j)) (hj : j = (i : Int)) (hi : i < n) (hoa : oa = some ⟨(adr oa).block, (adr oa).off, none⟩) :
    (execOp a.eval ⟨d, .indexAddr t x y, ty, pos, af, g⟩).run P w = .ok (.value (.pointer (some ⟨(adr oa).block, (adr oa).off + i * sz, none⟩))) w := by
  subst hj
  cases oa with
  | none => cases hoa
  | some ad =>
    simp only [Option.some.injEq] at hoa
    have h1 : (i : Int) < (n : Int) := by omega
    have h2 : ad.add (i * sz) = ⟨(adr (some ad)).block, (adr (some ad)).off + i * sz, none⟩ := by
      conv => lhs; rw [hoa]
      exact addLit _ _ _
    simp [execOp, hF.ev hx, hF.ev hy, Instr.indexAt, asIntOf, hu, hz, hi, h2]

/-- loads -/
theorem e_ld (hF : Fr N F a) {x : Operand} {t : TypeId} {ad : Addr} {v : Value} (hg : ∀ w, (isAgg t).run P w = .ok false w) (hx : opv F x = some (.pointer (some ad))) (hc : w.cell? ad = some v) :
    (execOp a.eval ⟨d, .load t x, ty, pos, af, g⟩).run P w = .ok (.value v) w := by
  simp [execOp, hF.ev hx, Instr.loadAt, Instr.sureAddr, loadVar, hg, load, Sem.run, hc]

theorem e_ldA (hF : Fr N F a) {x : Operand} {t : TypeId} {b o n : Nat} {vs : List Value} (hg : ∀ w, (isAgg t).run P w = .ok true w) (hz : ∀ w, (sizeOf t).run P w = .ok n w) (hx : opv F x = some (.pointer (some ⟨b, o, none⟩))) (hn : vs.length = n)
    (hc : ∀ (j : Nat) (v : Value), vs[j]? = some v → w.cell? ⟨b, o + j, none⟩ = some v) :
    (execOp a.eval ⟨d, .load t x, ty, pos, af, g⟩).run P w = .ok (.value (.agg vs.toArray)) w := by
  have h := run_loadCells_list (P := P) w ⟨b, o, none⟩ vs (fun j v hv => by rw [addLit]; exact hc j v hv)
  rw [hn] at h
  simp [execOp, hF.ev hx, Instr.loadAt, Instr.sureAddr, loadVar, hg, hz, h]

/-- slices of slices -/
theorem e_sl (hF : Fr N F a) {x : Operand} {lo hi : Option Operand} {t e : TypeId} {sz n c l h : Nat} {oa : Option Addr} {vl vh : Int}
    (hu : ∀ w, (underlying t).run P w = .ok (.slice e) w) (hz : ∀ w, (sizeOf e).run P w = .ok sz w)
    (hx : opv F x = some (.slice oa n c))
    (hlo : match lo with | some o => opv F o = some (.int .i64 vl) ∧ vl = (l : Int) | none => l = 0)
    (hhi : match hi with | some o => opv F o = some (.int .i64 vh) ∧ vh = (h : Int) | none => h = n)
    (hlh : l ≤ h) (hhc : h ≤ c) :
    (execOp a.eval ⟨d, .slice t x lo hi none, ty, pos, af, g⟩).run P w = .ok (.value (.slice (if c = l then oa else oa.map (·.add (l * sz))) (h - l) (c - l))) w := by
  have hsl : ∀ (vx : Value), vx = .slice oa n c → (Instr.sliceAt t vx (lo.map a.eval) (hi.map a.eval) none).run P w = .ok (.slice (if c = l then oa else oa.map (·.add (l * sz))) (h - l) (c - l)) w := by
    rintro vx rfl
    cases lo with
    | none =>
      subst hlo
      cases hi with
      | none => subst hhi; simp [Instr.sliceAt, hu, Instr.slice, Instr.sliceBounds, hz]
      | some o =>
        obtain ⟨ho, rfl⟩ := hhi
        simp [Instr.sliceAt, hu, Instr.slice, Instr.sliceBounds, hz, hF.ev ho, Instr.sliceBound, asIntOf, hhc]
    | some o' =>
      obtain ⟨ho', rfl⟩ := hlo
      cases hi with
      | none =>
        subst hhi
        simp [Instr.sliceAt, hu, Instr.slice, Instr.sliceBounds, hz, hF.ev ho', Instr.sliceBound, asIntOf, hlh]
      | some o =>
        obtain ⟨ho, rfl⟩ := hhi
        simp [Instr.sliceAt, hu, Instr.slice, Instr.sliceBounds, hz, hF.ev ho, hF.ev ho', Instr.sliceBound, asIntOf, hhc, hlh]
  have := hsl _ rfl
  simp only [Option.map] at this
  simp [execOp, hF.ev hx, this, Option.map]

/-- the first ones of a slice -/
theorem e_slHi (hF : Fr N F a) {x hi : Operand} {t e : TypeId} {sz n c h : Nat} {oa : Option Addr} {vh : Int}
    (hu : ∀ w, (underlying t).run P w = .ok (.slice e) w) (hz : ∀ w, (sizeOf e).run P w = .ok sz w)
    (hx : opv F x = some (.slice oa n c)) (hy : opv F hi = some (.int .i64 vh)) (hv : vh = (h : Int)) (hhc : h ≤ c) :
    (execOp a.eval ⟨d, .slice t x none (some hi) none, ty, pos, af, g⟩).run P w = .ok (.value (.slice oa h c)) w := by
  have := e_sl (P := P) (w := w) (d := d) (ty := ty) (pos := pos) (af := af) (g := g) hF (lo := none) (hi := some hi) (l := 0) (h := h) (vl := 0) (vh := vh) hu hz hx rfl ⟨hy, hv⟩ (Nat.zero_le _) hhc
  rw [this]
  have e0 : (if c = 0 then oa else oa.map (fun x => x.add (0 * sz))) = oa := by
    split
    · rfl
    · cases oa <;> simp [Addr.add]
  rw [e0]; rfl

/-- .. the last ones -/
theorem e_slLo (hF : Fr N F a) {x lo : Operand} {t e : TypeId} {sz n c l : Nat} {oa : Option Addr} {vl : Int}
    (hu : ∀ w, (underlying t).run P w = .ok (.slice e) w) (hz : ∀ w, (sizeOf e).run P w = .ok sz w)
    (hx : opv F x = some (.slice oa n c)) (hy : opv F lo = some (.int .i64 vl)) (hv : vl = (l : Int)) (hln : l ≤ n) (hnc : n ≤ c) :
    (execOp a.eval ⟨d, .slice t x (some lo) none none, ty, pos, af, g⟩).run P w = .ok (.value (.slice (if c = l then oa else oa.map (·.add (l * sz))) (n - l) (c - l))) w :=
  e_sl hF (lo := some lo) (hi := none) (l := l) (h := n) (vl := vl) (vh := 0) hu hz hx ⟨hy, hv⟩ rfl hln hnc

/-- anything that only computes: run by the kernel over the operands' values -/
def rho (F : List (Nat × Value)) (x : Operand) : Value := (opv F x).getD undef

theorem e_k (hF : Fr N F a) {o : Oper} {v : Value} (hsel : (match o.op with | .select _ _ => false | _ => true) = true) (ho : (o.op.operands.toList.all fun x => (opv F x).isSome) = true) (hr : (execOp (rho F) o).run P w = .ok (.value v) w) :
    (execOp a.eval o).run P w = .ok (.value v) w := by
  rw [execOp_congr (ρ := a.eval) (ρ' := rho F) o (fun cs b e => by rw [e] at hsel; cases hsel) (fun x hx => ?_)]
  · exact hr
  · have h1 := List.all_eq_true.1 ho x (by simpa using hx)
    obtain ⟨v, hv⟩ := Option.isSome_iff_exists.1 h1
    rw [hF.ev hv, rho, hv]; rfl
end
end Go.LL
