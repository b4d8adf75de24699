/- The program's form of a row is its form. No condition: plain lemmas. -/
import Derived.Test.YtimaeihmnipfgaaDoorPV
namespace Go.MD
section
variable {α β : Type} {D : α → α → Bool} {T : α → Int} {f : β → α}
theorem Sel.map {k : List β} {b : β} {r : List β} (h : Sel (fun i j => D (f i) (f j)) k b r) : Sel D (k.map f) (f b) (r.map f) := by
  induction h with
  | head => exact .head
  | tail hd _ ih => exact .tail hd ih
theorem Sel.ofMap : ∀ {k : List β} {y : α} {s : List α}, Sel D (k.map f) y s → ∃ b r, Sel (fun i j => D (f i) (f j)) k b r ∧ y = f b
  | [], _, _, h => by cases h
  | i :: k, _, _, h => by
    cases h with
    | head => exact ⟨i, k, .head, rfl⟩
    | tail hd h =>
      obtain ⟨b, r, h1, rfl⟩ := Sel.ofMap h
      exact ⟨b, i :: r, .tail hd h1, rfl⟩
theorem Fm.map {k g : List β} (h : Fm (fun i j => D (f i) (f j)) (fun i => T (f i)) k g) : Fm D T (k.map f) (g.map f) := by
  induction h with
  | nil => exact .nil
  | step hb _ ih =>
    refine .step ⟨hb.1.map, fun y s hy => ?_⟩ ih
    obtain ⟨b, r, h1, rfl⟩ := Sel.ofMap hy
    exact hb.2 b r h1
theorem sel_sorted {D : Nat → Nat → Bool} : ∀ {ks : List Nat} {b : Nat}, ks.Pairwise (· < ·) → b ∈ ks → (∀ i ∈ ks, i < b → D i b = false) → Sel D ks b (ks.erase b)
  | [], _, _, hb, _ => by cases hb
  | x :: ks, b, hp, hb, hf => by
    obtain ⟨h1, h2⟩ := List.pairwise_cons.1 hp
    by_cases e : x = b
    · subst e
      rw [List.erase_cons_head]
      exact .head
    · have hb' : b ∈ ks := by
        rcases List.mem_cons.1 hb with rfl | h
        · exact absurd rfl e
        · exact h
      rw [List.erase_cons_tail (by simpa using e)]
      exact .tail (hf x (.head _) (h1 b hb')) (sel_sorted h2 hb' fun i hi => hf i (.tail _ hi))
theorem sorted_sel {D : Nat → Nat → Bool} {ks r : List Nat} {b : Nat} (h : Sel D ks b r) (hp : ks.Pairwise (· < ·)) : b ∈ ks ∧ ∀ i ∈ ks, i < b → D i b = false := by
  induction h with
  | head =>
    obtain ⟨h1, _⟩ := List.pairwise_cons.1 hp
    refine ⟨.head _, fun i hi hlt => ?_⟩
    rcases List.mem_cons.1 hi with rfl | hi
    · omega
    · have := h1 i hi; omega
  | tail hd _ ih =>
    obtain ⟨h1, h2⟩ := List.pairwise_cons.1 hp
    obtain ⟨h3, h4⟩ := ih h2
    refine ⟨.tail _ h3, fun i hi hlt => ?_⟩
    rcases List.mem_cons.1 hi with rfl | hi
    · exact hd
    · exact h4 i hi hlt
end
/-- the places that are left, as the map has them -/
def pmap (ks : List Nat) : List (Int × Bool) := ks.map fun (k : Nat) => (((k : Nat) : Int), true)
theorem plook_pmap {k : Nat} : ∀ ks : List Nat, plook (k : Int) (pmap ks) = if k ∈ ks then some true else none
  | [] => rfl
  | x :: ks => by
    have := plook_pmap (k := k) ks
    show (if (k : Int) = (x : Int) then some true else plook (k : Int) (pmap ks)) = _
    by_cases e : k = x
    · subst e; simp
    · rw [if_neg (by omega), this]; simp [e]
theorem pdel_pmap {k : Nat} : ∀ ks : List Nat, pdel (k : Int) (pmap ks) = pmap (ks.erase k)
  | [] => rfl
  | x :: ks => by
    show (if (k : Int) = (x : Int) then pmap ks else ((x : Int), true) :: pdel (k : Int) (pmap ks)) = _
    by_cases e : x = k
    · subst e; simp
    · rw [if_neg (by omega), pdel_pmap ks, List.erase_cons_tail (by simpa using e)]; rfl
theorem pput_pmap {k : Nat} {ks : List Nat} (h : k ∉ ks) : pput (k : Int) true (pmap ks) = pmap (ks ++ [k]) := by
  unfold pput
  rw [plook_pmap, if_neg h]
  simp [pmap]
end Go.MD
