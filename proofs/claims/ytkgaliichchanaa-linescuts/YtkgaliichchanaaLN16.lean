/- What the cuts that are told are. No condition: plain lemmas. -/
import Derived.Test.YtkgaliichchanaaLN15
import Derived.Test.YtkgaliichchanaaLLh
namespace Go.LL
open Go Go.Proofs

theorem ints_getD {l : List Int} {k : Nat} (h : k < l.length) : (ints l)[k * 1]? = some (.int .i64 (l.getD k 0)) := by rw [ints_get h, getD_of_lt h]
theorem und23 (w : World) : (underlying 23).run Try.prog w = .ok (.array 2 3) w := by kernel_rfl
/-- the cuts that are told, as they lie in memory -/
structure RowsOk (m : MS) (rows : List Row) : Prop where
  ok : ∀ i (h : i < rows.length), cutOk m rows[i].xs
  len : ∀ i (h : i < rows.length), rows[i].xs.length = 2
  lt : ∀ k i (hk : k < rows.length) (hi : i < rows.length), k < i → rows[k].xs.getD 0 0 ≤ rows[i].xs.getD 0 0 ∧ (rows[k].xs.getD 0 0 = rows[i].xs.getD 0 0 → rows[k].xs.getD 1 0 < rows[i].xs.getD 1 0)
  dist : ∀ k i (hk : k < rows.length) (hi : i < rows.length), k < i → imgUp m rows[i].xs (nlines m) ≠ imgUp m rows[k].xs (nlines m)
  few : rows.length ≤ 200
  all : ∀ c, cutOk m c → ∃ i, ∃ h : i < rows.length, imgUp m rows[i].xs (nlines m) = imgUp m c (nlines m)
theorem Good.rk2 {m : MS} (c : List Int) : rk m c 2 = (c.getD 0 0).toNat * ((m.pend 1).length + 1) + (c.getD 1 0).toNat := by
  show ((0 * ((m.pend 0).length + 1) + (c.getD 0 0).toNat) * ((m.pend 1).length + 1) + (c.getD 1 0).toNat) = _
  rw [Nat.zero_mul, Nat.zero_add]
theorem rows_ok {m : MS} (hG : Good m) (hpl : ∀ k, (m.pend k).length ≤ 12) {rows : List Row} (h : rows.map (·.xs) = cutsM m) : RowsOk m rows := by
  have hs := cuts_spec m
  rw [← h] at hs
  have hok : ∀ i (h : i < rows.length), cutOk m rows[i].xs := fun i hi => hs.ok _ (List.mem_map_of_mem (List.getElem_mem hi))
  have hl2 : ∀ i (h : i < rows.length), rows[i].xs.length = 2 := fun i hi => by rw [(hok i hi).1, hG.nl]
  have himg : ∀ c, (imgUp m c (nlines m)).length = 4 := fun c => by rw [imgUp_len, hG.k4]
  have hkey : ∀ a b, ckey m a = ckey m b ↔ imgUp m a (nlines m) = imgUp m b (nlines m) := fun a b =>
    ⟨fun e => pad_inj (by rw [himg, himg]) (by rw [himg]; decide) e, fun e => by unfold ckey; rw [e]⟩
  refine ⟨hok, hl2, fun k i hk hi hki => ?_, fun k i hk hi hki e => ?_, ?_, fun c hc => ?_⟩
  · have hr := List.pairwise_iff_getElem.1 hs.rise k i (by simpa using hk) (by simpa using hi) hki
    simp only [List.getElem_map, hG.nl, Good.rk2] at hr
    have a0 := (hok k hk).2 0 (by rw [hl2]; decide); have a1 := (hok k hk).2 1 (by rw [hl2]; decide)
    have b0 := (hok i hi).2 0 (by rw [hl2]; decide); have b1 := (hok i hi).2 1 (by rw [hl2]; decide)
    rw [← getD_of_lt (show 0 < rows[k].xs.length by rw [hl2]; decide)] at a0
    rw [← getD_of_lt (show 1 < rows[k].xs.length by rw [hl2]; decide)] at a1
    rw [← getD_of_lt (show 0 < rows[i].xs.length by rw [hl2]; decide)] at b0
    rw [← getD_of_lt (show 1 < rows[i].xs.length by rw [hl2]; decide)] at b1
    generalize rows[k].xs.getD 0 0 = x0 at *
    generalize rows[k].xs.getD 1 0 = x1 at *
    generalize rows[i].xs.getD 0 0 = y0 at *
    generalize rows[i].xs.getD 1 0 = y1 at *
    have hP : x1 ≤ ((m.pend 1).length : Int) := a1.2
    have hQ : y1 ≤ ((m.pend 1).length : Int) := b1.2
    refine ⟨?_, fun e => ?_⟩
    · by_cases hlt : y0 < x0
      · exfalso
        have h1 : y0.toNat + 1 ≤ x0.toNat := by omega
        have h2 := Nat.mul_le_mul_right ((m.pend 1).length + 1) h1
        rw [Nat.add_mul, Nat.one_mul] at h2
        omega
      · omega
    · subst e
      omega
  · have hn := hs.dist
    have h1 := List.pairwise_iff_getElem.1 hn k i (by simpa using hk) (by simpa using hi) hki
    apply h1
    simp only [List.getElem_map]
    exact (hkey _ _).2 e.symm
  · have h1 := hs.few
    rw [List.length_map, hG.nl] at h1
    have h0 := hpl 0; have h2 := hpl 1
    have h3 : tot m 2 = (1 * ((m.pend 0).length + 1)) * ((m.pend 1).length + 1) := rfl
    rw [Nat.one_mul] at h3
    have h4 : ((m.pend 0).length + 1) * ((m.pend 1).length + 1) ≤ 13 * 13 := Nat.mul_le_mul (by omega) (by omega)
    omega
  · obtain ⟨x, hx, hx2⟩ := hs.all c hc
    obtain ⟨r, hr, rfl⟩ := List.mem_map.1 hx
    obtain ⟨i, hi, rfl⟩ := List.getElem_of_mem hr
    exact ⟨i, hi, (hkey _ _).1 hx2⟩
theorem Good.tot {m : MS} (hG : Good m) (hpl : ∀ k, (m.pend k).length ≤ 12) : tot m (nlines m) ≤ 1000000 := by
  rw [hG.nl]
  have h0 := hpl 0; have h2 := hpl 1
  have h3 : Go.LL.tot m 2 = (1 * ((m.pend 0).length + 1)) * ((m.pend 1).length + 1) := rfl
  rw [Nat.one_mul] at h3
  have h4 : ((m.pend 0).length + 1) * ((m.pend 1).length + 1) ≤ 13 * 13 := Nat.mul_le_mul (by omega) (by omega)
  omega
def cutHit (m : MS) (rows : List Row) (X : List Int) (i : Nat) : Prop := ∃ j, ∃ h : j < rows.length, j < i ∧ imgUp m rows[j].xs (nlines m) = X
theorem cutHit_T {m : MS} {rows : List Row} {X : List Int} {i : Nat} {b : Bool} (h : b = true ↔ cutHit m rows X i) (hb : b = true) : true = true ↔ cutHit m rows X (i + 1) :=
  ⟨fun _ => by obtain ⟨j, hj, h1, h2⟩ := h.1 hb; exact ⟨j, hj, by omega, h2⟩, fun _ => rfl⟩
theorem cutHit_F {m : MS} {rows : List Row} {X : List Int} {i : Nat} {b : Bool} (h : b = true ↔ cutHit m rows X i) (hb : b = false) (hi : i < rows.length) : decide (imgUp m rows[i].xs (nlines m) = X) = true ↔ cutHit m rows X (i + 1) := by
  rw [decide_eq_true_eq]
  refine ⟨fun e => ⟨i, hi, by omega, e⟩, fun ⟨j, hj, h1, h2⟩ => ?_⟩
  by_cases e : j = i
  · subst e; exact h2
  · have := h.2 ⟨j, hj, by omega, h2⟩
    rw [hb] at this; cases this
theorem intsF (w0 : World) (oa ob : Option Addr) (na nb ca cb : Nat) (xs ys : List Int) (ra : Rd (hp w0) oa (ints xs)) (rb : Rd (hp w0) ob (ints ys)) (hx : xs.length ≤ 1000000) (ha : na = xs.length) (hb : nb = ys.length) (he : xs ≠ ys) :
    Tot Try.prog 12 #[.slice oa na ca, .slice ob nb cb] w0 (fun v w' => v = .bool false ∧ Keep Nil w0 w') := by
  have h := intsN w0 oa ob na nb ca cb xs ys ra rb hx ha hb
  rw [decide_eq_false he] at h
  exact h
theorem Lds.rdRows {w : World} {Hs : List PH} {L : List HA} {rows : List Row} (hS : Lds Hs L w) (h : bigA rowA rows ∈ L) : ∀ r ∈ rows, Rd (hp w) r.oa (ints r.xs) := fun r hr => by
  have h1 : (bigA rowA rows).ok (hp w) := hS.ok _ h
  have h2 : SlOk 3 1 (.slice r.oa r.xs.length r.cap) r.xs.length (ints r.xs) (hp w) := h1.1 r hr
  exact SlOk.rd h2

end Go.LL
