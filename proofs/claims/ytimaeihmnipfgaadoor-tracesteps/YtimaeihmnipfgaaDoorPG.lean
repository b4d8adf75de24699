/- Show and the fixed tests of the layer of events. No condition: plain lemmas. -/
import Derived.Test.YtimaeihmnipfgaaDoorPF
namespace Go.MD.ET
open Go Go.MD

def part (b : Bool) (x : Int) : Str := if b then 32 :: Lib.itoa x else []
theorem part_len {b : Bool} {x : Int} (h : InR x) : (part b x).length ≤ 22 := by
  unfold part
  split
  · have := itoa_len h; simp; omega
  · simp
def showS (v : api_Event) : Str := if v.Kind < 1 ∨ 16 < v.Kind then [] else Lib.itoa v.T ++ ((32 :: nameOf v.Kind) ++ (part (bears v.Kind 0) v.A ++ (part (bears v.Kind 1) v.N ++ part (bears v.Kind 2) v.M)))
theorem name_len (k : Int) : (nameOf k).length ≤ 6 := by
  by_cases h : 1 ≤ k ∧ k ≤ 16
  · have hf : ∀ k : Fin 17, (nameOf (k.val : Int)).length ≤ 6 := by decide +kernel
    have := hf ⟨k.toNat, by omega⟩
    rwa [show ((⟨k.toNat, by omega⟩ : Fin 17).val : Int) = k by simp; omega] at this
  · have : nameOf k = [] := by
      unfold nameOf
      rw [if_neg (by omega), if_neg (by omega), if_neg (by omega), if_neg (by omega), if_neg (by omega), if_neg (by omega), if_neg (by omega), if_neg (by omega), if_neg (by omega), if_neg (by omega), if_neg (by omega), if_neg (by omega), if_neg (by omega), if_neg (by omega), if_neg (by omega), if_neg (by omega)]
    rw [this]; decide
theorem l3_step {N : Nat} {kf : Str → Option Str} {v : api_Event} {d : event_kind} {n : Nat} {s : Str} {j : Nat} {b : Bool} {x : Int}
    (hj : j < 3) (hg : getI ([(S_is_n.mk d.a v.A), (S_is_n.mk d.n v.N), (S_is_n.mk d.m v.M)] : List S_is_n) (j : Int) = some (S_is_n.mk b x)) (hx : InR x) (hs : s.length ≤ 500) :
    event_Show_l3 N kf v d (n + 1) s (j : Int) = event_Show_l3 N kf v d n (s ++ part b x) ((j + 1 : Nat) : Int) := by
  rw [event_Show_l3, if_pos (by simp; omega), hg]
  simp only [Option.bind_some]
  have := itoa_len hx
  cases b with
  | true =>
    rw [if_pos rfl, words_Text, itoaM_ok hx.1 hx.2]
    simp only [Option.bind_some]
    rw [catG_ok (by simp; omega)]
    simp only [Option.bind_some]
    rw [catG_ok (by simp; omega)]
    simp only [Option.bind_some, event_Show_j4]
    rw [wsucc (n := 3) hj (by decide)]
    rfl
  | false =>
    rw [if_neg (by decide), event_Show_j4, wsucc (n := 3) hj (by decide), part, if_neg (by decide), List.append_nil]
theorem event_Show_eq {N : Nat} (hN : 30 ≤ N) {v : api_Event} (h : okE v) : event_Show N v = some (showS v) := by
  unfold event_Show event_known showS
  simp only [Option.bind_some]
  by_cases hk : v.Kind < 1 ∨ 16 < v.Kind
  · rw [if_neg (by simp; omega), if_pos hk]
  · rw [if_pos (by simp; omega), kinds_eq N (by omega) (by omega), if_neg hk]
    have ht := itoa_len h.t
    have hn := name_len v.Kind
    have hA := part_len (b := bears v.Kind 0) h.a
    have hB := part_len (b := bears v.Kind 1) h.n
    unfold event_Show_j1 words_Text
    rw [itoaM_ok h.t.1 h.t.2]
    simp only [Option.bind_some]
    rw [catG_ok (by simp; omega)]
    simp only [Option.bind_some]
    rw [catG_ok (by simp; omega)]
    simp only [Option.bind_some]
    obtain ⟨n, hn'⟩ : ∃ m, N = m + 4 := ⟨N - 4, by omega⟩
    have e0 : (0 : Int) = ((0 : Nat) : Int) := rfl
    conv => lhs; arg 5; rw [hn']
    rw [e0, l3_step (j := 0) (b := bears v.Kind 0) (x := v.A) (by decide) rfl h.a (by simp; omega)]
    rw [l3_step (j := 1) (b := bears v.Kind 1) (x := v.N) (by decide) rfl h.n (by simp; omega)]
    rw [l3_step (j := 2) (b := bears v.Kind 2) (x := v.M) (by decide) rfl h.m (by simp; omega)]
    rw [event_Show_l3, if_neg (by simp), event_Show_j2]
    simp
theorem r3_step {N : Nat} (hN : 30 ≤ N) {kf : Str → Option Str} {v : api_Event} {n : Nat} {s : Str} {j : Nat} {x : Int}
    (h1 : 1 ≤ v.Kind) (h2 : v.Kind ≤ 16) (hj : j < 3) (hg : getI ([v.A, v.N, v.M] : List Int) (j : Int) = some x) (hx : InR x) (hs : s.length ≤ 500) :
    leadlineref15_Show_l3 N kf v (n + 1) s (j : Int) = leadlineref15_Show_l3 N kf v n (s ++ part (bears v.Kind j) x) ((j + 1 : Nat) : Int) := by
  rw [leadlineref15_Show_l3, if_pos (by omega), has_eq hN h1 h2 hj, hg]
  simp only [Option.bind_some]
  have := itoa_len hx
  cases bears v.Kind j with
  | true =>
    rw [if_pos rfl, Text_eq hN hx]
    simp only [Option.bind_some]
    rw [catG_ok (by simp; omega)]
    simp only [Option.bind_some]
    rw [catG_ok (by simp; omega)]
    simp only [Option.bind_some, leadlineref15_Show_j4]
    rw [wsucc (n := 3) hj (by decide)]
    rfl
  | false =>
    rw [if_neg (by decide), leadlineref15_Show_j4, wsucc (n := 3) hj (by decide), part, if_neg (by decide), List.append_nil]
theorem names_at : ∀ k : Fin 17, getI ([[], [108, 111, 97, 100], [111, 119, 110], [115, 116, 111, 114, 101], [102, 108, 117, 115, 104], [111, 112, 116], [115, 102, 101, 110, 99, 101], [109, 102, 101, 110, 99, 101], [99, 97, 115], [102, 97, 105, 108], [116, 97, 107, 101], [103, 105, 118, 101], [99, 111, 109, 101], [111, 117, 116], [102, 101, 110, 99, 101], [99, 114, 97, 115, 104], [102, 97, 117, 108, 116]] : List Str) (k.val : Int) = some (nameOf k.val) := by decide +kernel
theorem names_eq {k : Int} (h1 : 1 ≤ k) (h2 : k ≤ 16) : getI ([[], [108, 111, 97, 100], [111, 119, 110], [115, 116, 111, 114, 101], [102, 108, 117, 115, 104], [111, 112, 116], [115, 102, 101, 110, 99, 101], [109, 102, 101, 110, 99, 101], [99, 97, 115], [102, 97, 105, 108], [116, 97, 107, 101], [103, 105, 118, 101], [99, 111, 109, 101], [111, 117, 116], [102, 101, 110, 99, 101], [99, 114, 97, 115, 104], [102, 97, 117, 108, 116]] : List Str) k = some (nameOf k) := by
  have h := names_at ⟨k.toNat, by omega⟩
  rwa [show ((⟨k.toNat, by omega⟩ : Fin 17).val : Int) = k by simp; omega] at h
theorem ref_Show_eq {N : Nat} (hN : 30 ≤ N) {v : api_Event} (h : okE v) : leadlineref15_Show N v = some (showS v) := by
  unfold leadlineref15_Show showS
  by_cases hk : v.Kind < 1 ∨ 16 < v.Kind
  · rw [if_pos (by simp; omega), if_pos hk]
  · rw [if_neg (by simp; omega), if_neg hk]
    have ht := itoa_len h.t
    have hn := name_len v.Kind
    have hA := part_len (b := bears v.Kind 0) h.a
    have hB := part_len (b := bears v.Kind 1) h.n
    rw [Text_eq hN h.t]
    simp only [Option.bind_some]
    rw [catG_ok (by simp; omega)]
    simp only [Option.bind_some]
    rw [names_eq (by omega) (by omega)]
    simp only [Option.bind_some]
    rw [catG_ok (by simp; omega)]
    simp only [Option.bind_some]
    unfold leadlineref15_Show_j1
    obtain ⟨n, hn'⟩ : ∃ m, N = m + 4 := ⟨N - 4, by omega⟩
    have e0 : (0 : Int) = ((0 : Nat) : Int) := rfl
    conv => lhs; arg 4; rw [hn']
    rw [e0, r3_step hN (j := 0) (x := v.A) (by omega) (by omega) (by decide) rfl h.a (by simp; omega)]
    rw [r3_step hN (j := 1) (x := v.N) (by omega) (by omega) (by decide) rfl h.n (by simp; omega)]
    rw [r3_step hN (j := 2) (x := v.M) (by omega) (by omega) (by decide) rfl h.m (by simp; omega)]
    rw [leadlineref15_Show_l3, if_neg (by simp), leadlineref15_Show_j2]
    simp

theorem itoa_dig {n : Int} (h1 : 0 ≤ n) (h2 : n < 10) : Lib.itoa n = [UInt8.ofNat (48 + n.toNat)] := by
  unfold Lib.itoa
  rw [if_neg (by omega), Lib.decDigits_one (by omega)]
theorem fixed_eq {N : Nat} (hN : 30 ≤ N) : leadlinelaw15_fixed N = some true := by
  unfold leadlinelaw15_fixed
  have ok : ∀ k t a n m : Int, (0 ≤ k ∧ k < 100) → (0 ≤ t ∧ t < 100) → (0 ≤ a ∧ a < 100) → (0 ≤ n ∧ n < 100) → (0 ≤ m ∧ m < 100) → okE ⟨k, t, a, n, m⟩ :=
    fun _ _ _ _ _ h1 h2 h3 h4 h5 => ⟨⟨by simp; omega, by simp; omega⟩, ⟨by simp; omega, by simp; omega⟩, ⟨by simp; omega, by simp; omega⟩, ⟨by simp; omega, by simp; omega⟩, ⟨by simp; omega, by simp; omega⟩⟩
  have s1 : showS ⟨1, 0, 0, 5, 0⟩ = [48, 32, 108, 111, 97, 100, 32, 48, 32, 53] := by
    simp [showS, part, bears, nameOf, itoa_dig]
  have s2 : showS ⟨16, 1, 2, 0, 0⟩ = [49, 32, 102, 97, 117, 108, 116, 32, 50] := by
    simp [showS, part, bears, nameOf, itoa_dig]
  have s3 : showS ⟨0, 0, 0, 0, 0⟩ = [] := rfl
  rw [event_Show_eq hN (ok 1 0 0 5 0 (by decide) (by decide) (by decide) (by decide) (by decide)), event_Show_eq hN (ok 16 1 2 0 0 (by decide) (by decide) (by decide) (by decide) (by decide)), event_Show_eq hN (ok 0 0 0 0 0 (by decide) (by decide) (by decide) (by decide) (by decide)), s1, s2, s3]
  simp only [Depend_eq (by omega : 3 ≤ N), event_Right_eq, Clash_eq, event_Uses_eq, Option.bind_some]
  rw [Same_eq (by have := usesS_len ⟨12, 1, 0, 0, 0⟩ [0, 0, 1] 2; omega) (by have := usesS_len ⟨12, 1, 0, 0, 0⟩ [0, 0, 1] 2; omega)]
  simp only [Option.bind_some]
  decide +kernel
end Go.MD.ET
