/- Two memories that are written in different orders. No condition: plain lemmas. -/
import Derived.Test.YtkgaliichchanaaLN12
namespace Go.LL
open Go Go.Proofs

/-! ### two memories -/
def opW (o : OpV) : Int × Int := (((lo 3 o.cell : Nat) : Int), ((lo 7 o.n : Nat) : Int))
def wA (ops : List OpV) (j : Nat) : List (Int × Int) := (ops.take j).map opW
def inL (k : Int) (x : Int × Int) : Bool := decide (x.1 / 2 = k)
def wM (ws : List (Int × Int)) : MS := { of := [0, 0, 1, 1], firsts := [0, 0, 0, 0], kept := [0, 0, 0, 0], l := applyW ws [0, 0, 0, 0], pend := fun k => ws.filter (inL k) }
theorem wA_succ {ops : List OpV} {j : Nat} (h : j < ops.length) : wA ops (j + 1) = wA ops j ++ [opW ops[j]] := by
  unfold wA; rw [List.take_succ_eq_append_getElem h, List.map_append]; rfl
theorem wA_cells (ops : List OpV) (j : Nat) : ∀ x ∈ wA ops j, 0 ≤ x.1 ∧ x.1 ≤ 3 := fun x hx => by
  obtain ⟨o, _, rfl⟩ := List.mem_map.1 hx
  have := lo_le (n := 3) (by decide) o.cell
  simp only [opW]; omega
theorem wM_new : newM [0, 0, 1, 1] 4 [0, 0, 0, 0] = wM [] := rfl
theorem wM_write {ws : List (Int × Int)} {o : OpV} : writeM (wM ws) ((lo 3 o.cell : Nat) : Int) ((lo 7 o.n : Nat) : Int) = wM (ws ++ [opW o]) := by
  have hc := lo_le (n := 3) (by decide) o.cell
  have hl : (wM ws).l.length = 4 := by simp [wM, applyW_len]
  rw [writeM, if_pos (by rw [hl]; omega)]
  have hd : ([0, 0, 1, 1] : List Int).getD (lo 3 o.cell) 0 = ((lo 3 o.cell : Nat) : Int) / 2 := by
    generalize lo 3 o.cell = c at hc
    match c, hc with
    | 0, _ => rfl
    | 1, _ => rfl
    | 2, _ => rfl
    | 3, _ => rfl
  have hlt : ((lo 3 o.cell : Nat) : Int) < (([0, 0, 1, 1] : List Int).length : Int) := by show _ < ((4 : Nat) : Int); omega
  unfold wM
  congr 1
  · rw [applyW_snoc]; rfl
  · funext k
    simp only [Int.toNat_natCast, hd, hlt, true_and, List.filter_append]
    by_cases e : k = ((lo 3 o.cell : Nat) : Int) / 2
    · rw [if_pos e]
      have : inL k (opW o) = true := by simp [inL, opW, e]
      simp [this]
      rfl
    · rw [if_neg e]
      have : inL k (opW o) = false := by
        show decide _ = false
        exact decide_eq_false fun h => e h.symm
      simp [this]
theorem applyW_part {ws : List (Int × Int)} (h : ∀ x ∈ ws, 0 ≤ x.1 ∧ x.1 ≤ 3) : ∀ l : List Int, applyW ws l = applyW (ws.filter (inL 1)) (applyW (ws.filter (inL 0)) l) := by
  induction ws with
  | nil => intro l; rfl
  | cons x r ih =>
    intro l
    have hx := h x (.head _)
    have ih' := ih (fun y hy => h y (.tail _ hy))
    by_cases e : x.1 / 2 = 0
    · have h0 : inL 0 x = true := by simp [inL, e]
      have h1 : inL 1 x = false := by simp [inL, e]
      rw [List.filter_cons_of_pos (p := inL 0) h0, List.filter_cons_of_neg (p := inL 1) (by simp [h1])]
      exact ih' (l.set x.1.toNat x.2)
    · have h0 : inL 0 x = false := by simp [inL, e]
      have h1 : inL 1 x = true := by simp only [inL, decide_eq_true_eq]; omega
      rw [List.filter_cons_of_neg (p := inL 0) (by simp [h0]), List.filter_cons_of_pos (p := inL 1) h1]
      show applyW r (l.set x.1.toNat x.2) = applyW (r.filter (inL 1)) ((applyW (r.filter (inL 0)) l).set x.1.toNat x.2)
      rw [ih', applyW_comm (fun y hy => ?_)]
      have h2 := (List.mem_filter.1 hy).2
      simp only [inL, decide_eq_true_eq] at h2
      have := h y (.tail _ (List.mem_filter.1 hy).1)
      omega
/-- what the other one has written, a line at a time -/
def bW (ops : List OpV) (n : Nat) : Nat → Nat → List (Int × Int)
  | 0, i => (wA ops i).filter (inL 0)
  | 1, i => (wA ops n).filter (inL 0) ++ (wA ops i).filter (inL 1)
  | _ + 2, _ => (wA ops n).filter (inL 0) ++ (wA ops n).filter (inL 1)
theorem bW_line {ops : List OpV} {n line : Nat} (h : line < 2) : bW ops n line n = bW ops n (line + 1) 0 := by
  match line, h with
  | 0, _ => simp [bW, wA]
  | 1, _ => simp [bW]
theorem inL_opW (o : OpV) (line : Nat) : inL (line : Int) (opW o) = decide (lo 3 o.cell / 2 = line) := by
  show decide (((lo 3 o.cell : Nat) : Int) / 2 = (line : Int)) = _
  generalize lo 3 o.cell = c
  have : ((c : Int) / 2 = (line : Int)) ↔ (c / 2 = line) := by omega
  simp only [this]
theorem bW_yes {ops : List OpV} {n line i : Nat} (h : line < 2) (hi : i < ops.length) (hl : lo 3 ops[i].cell / 2 = line) : bW ops n line i ++ [opW ops[i]] = bW ops n line (i + 1) := by
  have hx : inL (line : Int) (opW ops[i]) = true := by rw [inL_opW]; exact decide_eq_true hl
  match line, h with
  | 0, _ =>
    have hx0 : inL 0 (opW ops[i]) = true := hx
    rw [bW, bW, wA_succ hi, List.filter_append, List.filter_cons_of_pos (p := inL 0) hx0]; rfl
  | 1, _ =>
    have hx0 : inL 1 (opW ops[i]) = true := hx
    rw [bW, bW, wA_succ hi, List.filter_append, List.filter_cons_of_pos (p := inL 1) hx0]; simp
theorem bW_no {ops : List OpV} {n line i : Nat} (h : line < 2) (hi : i < ops.length) (hl : ¬ lo 3 ops[i].cell / 2 = line) : bW ops n line i = bW ops n line (i + 1) := by
  have hx : inL (line : Int) (opW ops[i]) = false := by rw [inL_opW]; exact decide_eq_false hl
  match line, h with
  | 0, _ =>
    have hx0 : inL 0 (opW ops[i]) = false := hx
    rw [bW, bW, wA_succ hi, List.filter_append, List.filter_cons_of_neg (p := inL 0) (by simp [hx0])]; simp
  | 1, _ =>
    have hx0 : inL 1 (opW ops[i]) = false := hx
    rw [bW, bW, wA_succ hi, List.filter_append, List.filter_cons_of_neg (p := inL 1) (by simp [hx0])]; simp
theorem wM_same (ops : List OpV) (n : Nat) : wM (bW ops n 2 0) = wM (wA ops n) := by
  have hc := wA_cells ops n
  unfold wM
  congr 1
  · rw [applyW_part hc, bW]
    simp [applyW, List.foldl_append]
  · funext k
    rw [bW, List.filter_append, List.filter_filter, List.filter_filter]
    have e01 : ∀ x : Int × Int, (inL 1 x && inL 0 x) = false := fun x => by simp [inL]; omega
    by_cases h0 : k = 0
    · subst h0
      have : ∀ x : Int × Int, (inL 0 x && inL 1 x) = false := fun x => by simp [inL]; omega
      simp [this]
    · by_cases h1 : k = 1
      · subst h1
        simp [e01]
      · have a1 : ∀ x : Int × Int, (inL k x && inL 0 x) = false := fun x => by simp [inL]; omega
        have a2 : ∀ x : Int × Int, (inL k x && inL 1 x) = false := fun x => by simp [inL]; omega
        have e3 : (wA ops n).filter (inL k) = [] := List.filter_eq_nil_iff.2 (fun x hx => by have := hc x hx; simp only [inL, decide_eq_true_eq]; omega)
        simp only [a1, a2, e3]
        simp

end Go.LL
