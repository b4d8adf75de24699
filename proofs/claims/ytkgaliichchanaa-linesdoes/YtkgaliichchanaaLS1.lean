/- The document's memory beside the program's: what each call makes of both. No condition: plain lemmas. -/
import Derived.Test.YtkgaliichchanaaLRP
import Derived.Test.YtkgaliichchanaaPL
import Derived.Test.YtkgaliichchanaaLN7
namespace Go.MD.LINES
open Go Go.MD Go.LL
abbrev Rm := leadlineref11_Mem
abbrev Rp := leadlineref11_Put
def wr (w : Rp) : Int × Int := (w.Cell, w.N)
/-- the writes to a line, in their order -/
def onL (W : List Rp) (j : Int) : List (Int × Int) := (W.filter fun w => decide (w.Line = j)).map wr
theorem onL_app (V W : List Rp) (j : Int) : onL (V ++ W) j = onL V j ++ onL W j := by simp [onL]
theorem onL_one (w : Rp) (j : Int) : onL [w] j = if w.Line = j then [wr w] else [] := by
  unfold onL
  by_cases h : w.Line = j
  · rw [if_pos h, List.filter_cons_of_pos (by simpa using h)]; rfl
  · rw [if_neg h, List.filter_cons_of_neg (by simpa using h)]; rfl
theorem onL_len (W : List Rp) (j : Int) : (onL W j).length ≤ W.length := by
  unfold onL; rw [List.length_map]; exact List.length_filter_le _ _
/-- both stand alike -/
structure Sim (m : MS) (k : Rm) : Prop where
  of : k.Of = m.of
  firsts : k.Firsts = m.firsts
  l : k.L = m.l
  kept : k.K = m.kept
  pend : ∀ j, m.pend j = onL k.W j
  own : ∀ w ∈ k.W, 0 ≤ w.Cell ∧ w.Cell.toNat < m.of.length ∧ m.of.getD w.Cell.toNat 0 = w.Line
variable {N : Nat} {m : MS} {k : Rm}
theorem of_split : ∀ {l : List Int} {last : Int} {b : Bool}, ofChk last b l = true → ∀ n ∈ l, n ≤ (l.getLast?).getD 0
  | [], _, _, _, n, hn => nomatch hn
  | x :: r, last, b, h, n, hn => by
    simp only [ofChk, Bool.and_eq_true] at h
    rcases List.mem_cons.1 hn with rfl | hn
    · cases hr : r.getLast? with
      | none =>
        have : r = [] := by simpa using hr
        subst this; simp
      | some y =>
        have hy := List.mem_of_getLast? hr
        have := (ofChk_ge h.2 y hy).1.1
        rw [List.getLast?_cons, hr]; exact this
    · have hne : r ≠ [] := fun e => by subst e; cases hn
      have := of_split h.2 n hn
      rw [List.getLast?_cons]
      obtain ⟨y, hy⟩ : ∃ y, r.getLast? = some y := by
        cases hr : r.getLast? with
        | none => exact absurd (by simpa using hr) hne
        | some y => exact ⟨y, rfl⟩
      rw [hy] at this ⊢; exact this
theorem of_lt (hi : MInv m) {n : Int} (hn : n ∈ m.of) : 0 ≤ n ∧ n < (nlines m : Int) := by
  have h1 := hi.ofB hn
  have h2 := of_split hi.chk n hn
  refine ⟨h1.1, ?_⟩
  unfold nlines
  cases hl : m.of.getLast? with
  | none =>
    have : m.of = [] := by simpa using hl
    rw [this] at hn; cases hn
  | some y =>
    rw [hl] at h2
    simp only [Option.getD_some] at h2
    simp only; omega
theorem getD_mem {l : List Int} {i : Nat} (h : i < l.length) : l.getD i 0 ∈ l := by rw [getD_of_lt h]; exact List.getElem_mem h
theorem line_lt (hi : MInv m) (hs : Sim m k) {w : Rp} (hw : w ∈ k.W) : 0 ≤ w.Line ∧ w.Line < (nlines m : Int) := by
  obtain ⟨_, h2, h3⟩ := hs.own w hw
  rw [← h3]; exact of_lt hi (getD_mem h2)
theorem Lines_eq (hi : MInv m) (hs : Sim m k) : leadlineref11_Mem_Lines__m0_71_ffooo N k = some ((nlines m : Int), k) := by
  unfold leadlineref11_Mem_Lines__m0_71_ffooo
  rw [hs.of]
  by_cases h : m.of.length = 0
  · rw [if_pos (by omega)]
    have : m.of = [] := List.length_eq_zero_iff.1 h
    unfold nlines
    rw [this]; rfl
  · have hl := hi.last (by omega)
    have h20 := hi.nl
    have h3 := hi.len3; have h4 := hi.len4
    rw [if_neg (by omega), w64 (by omega) (by omega), getI_at (j := m.of.length - 1) (by omega) (by omega)]
    simp only [Option.bind_some]
    rw [← hl, w64 (by omega) (by omega)]
theorem Read_eq (hs : Sim m k) (cell : Int) : ∃ a e, leadlineref11_Mem_Read__m0_71_ffooo N k cell = some (a, e, k) ∧ readM m cell = .tuple #[.int .i64 a, .int .i64 e] := by
  unfold leadlineref11_Mem_Read__m0_71_ffooo readM
  rw [hs.l]
  by_cases h : 0 ≤ cell ∧ cell.toNat < m.l.length
  · rw [if_neg (by simp; omega), dif_pos h]
    obtain ⟨j, rfl⟩ : ∃ j : Nat, cell = (j : Int) := ⟨cell.toNat, by omega⟩
    rw [getI_at rfl (by omega)]
    exact ⟨_, _, rfl, rfl⟩
  · rw [if_pos (by simp; omega), dif_neg h]
    exact ⟨_, _, rfl, rfl⟩
theorem setI_at {l : List Int} {i : Int} {j : Nat} (h : i = (j : Int)) (hj : j < l.length) (v : Int) : setI l i v = some (l.set j v) := by
  subst h; unfold setI; rw [if_pos ⟨by omega, by simpa using hj⟩]; simp
theorem Write_eq (hi : MInv m) (hs : Sim m k) (hf : k.W.length ≤ 1000) (cell n : Int) : ∃ k', leadlineref11_Mem_Write__m0_71_ffooo N k cell n = some (if 0 ≤ cell ∧ cell < (m.l.length : Int) then 0 else 1, k') ∧ Sim (writeM m cell n) k' ∧ k'.W.length ≤ k.W.length + 1 := by
  unfold leadlineref11_Mem_Write__m0_71_ffooo writeM
  rw [hs.l]
  by_cases h : 0 ≤ cell ∧ cell < (m.l.length : Int)
  · obtain ⟨j, rfl⟩ : ∃ j : Nat, cell = (j : Int) := ⟨cell.toNat, by omega⟩
    rw [if_neg (by simp; omega), if_pos h, if_pos h, getI_at rfl (by omega), setI_at rfl (by omega)]
    simp only [Option.bind_some, Int.toNat_natCast]
    rw [hs.of]
    by_cases h2 : (j : Int) < (m.of.length : Int)
    · have hj : j < m.of.length := by omega
      rw [if_pos h2, getI_at rfl hj]
      simp only [Option.bind_some]
      rw [appG_ok (by simp; omega) (by decide)]
      simp only [Option.bind_some]
      refine ⟨_, rfl, ⟨hs.of, hs.firsts, rfl, hs.kept, fun q => ?_, fun w hw => ?_⟩, by simp⟩
      · show (if (j : Int) < (m.of.length : Int) ∧ q = m.of.getD j 0 then m.pend q ++ [((j : Int), n)] else m.pend q) = onL (k.W ++ [_]) q
        rw [onL_app, onL_one, hs.pend q, getD_of_lt hj]
        by_cases e : q = m.of[j]
        · rw [if_pos ⟨h2, e⟩, if_pos e.symm]; rfl
        · rw [if_neg (fun z => e z.2), if_neg (fun z => e z.symm), List.append_nil]
      · rcases List.mem_append.1 hw with hw | hw
        · exact hs.own w hw
        · rw [List.mem_singleton] at hw; subst hw
          exact ⟨by show (0 : Int) ≤ (j : Int); omega, by simpa using hj, by show m.of.getD (j : Int).toNat 0 = m.of[j]; rw [Int.toNat_natCast, getD_of_lt hj]⟩
    · rw [if_neg h2]
      refine ⟨_, rfl, ⟨hs.of, hs.firsts, rfl, hs.kept, fun q => ?_, hs.own⟩, by simp [leadlineref11_Mem_Write__m0_71_ffooo_j1]⟩
      show (if (j : Int) < (m.of.length : Int) ∧ q = m.of.getD j 0 then m.pend q ++ [((j : Int), n)] else m.pend q) = onL k.W q
      rw [if_neg (fun z => h2 z.1), hs.pend q]
  · rw [if_pos (by simp; omega), if_neg h, if_neg h]
    exact ⟨k, rfl, hs, by omega⟩
/-! Out -/
theorem out_l3 (hi : MInv m) {W : List Rp} {line : Int} (hW : W.length ≤ 1000) (ho : ∀ w ∈ W, 0 ≤ w.Cell ∧ w.Cell.toNat < m.kept.length) {kk : List Int → List Rp → Option (Int × Rm)} : ∀ (d j n : Nat) (K : List Int), j + d = W.length → d < n → K.length = m.kept.length →
    leadlineref11_Mem_Out__m0_71_ffooo_l3 N kk line W n K ((W.take j).filter fun w => !decide (w.Line = line)) (j : Int) = kk (applyW (onL (W.drop j) line) K) (W.filter fun w => !decide (w.Line = line)) := by
  intro d
  induction d with
  | zero =>
    intro j n K hj hn hK
    obtain ⟨n, rfl⟩ : ∃ q, n = q + 1 := ⟨n - 1, by omega⟩
    rw [leadlineref11_Mem_Out__m0_71_ffooo_l3, if_neg (by omega), List.drop_of_length_le (by omega), List.take_of_length_le (by omega)]
    rfl
  | succ d ih =>
    intro j n K hj hn hK
    obtain ⟨n, rfl⟩ : ∃ q, n = q + 1 := ⟨n - 1, by omega⟩
    have h1 : j < W.length := by omega
    obtain ⟨o1, o2⟩ := ho _ (List.getElem_mem h1)
    have hd : onL (W.drop j) line = onL [W[j]] line ++ onL (W.drop (j + 1)) line := by rw [← onL_app, List.singleton_append, ← List.drop_eq_getElem_cons h1]
    have ht : ((W.take (j + 1)).filter fun w => !decide (w.Line = line)) = ((W.take j).filter fun w => !decide (w.Line = line)) ++ ([W[j]].filter fun w => !decide (w.Line = line)) := by
      rw [List.take_succ_eq_append_getElem h1, List.filter_append]
    rw [leadlineref11_Mem_Out__m0_71_ffooo_l3, if_pos (by omega), getI_at rfl h1]
    simp only [Option.bind_some]
    rw [hd, onL_one]
    by_cases e : W[j].Line = line
    · rw [if_pos e, if_pos e, getI_at (j := W[j].Cell.toNat) (by omega) (by omega)]
      simp only [Option.bind_some]
      rw [setI_at (j := W[j].Cell.toNat) (by omega) (by omega)]
      simp only [Option.bind_some]
      rw [leadlineref11_Mem_Out__m0_71_ffooo_j4, wsucc h1 (by omega)]
      have := ih (j + 1) n (K.set W[j].Cell.toNat W[j].N) (by omega) (by omega) (by rw [List.length_set]; exact hK)
      rw [ht, List.filter_cons_of_neg (by simp [e])] at this
      simp only [List.filter_nil, List.append_nil] at this
      rw [this]; rfl
    · rw [if_neg e, if_neg e, appG_ok (Nat.le_trans (Nat.add_le_add_right (Nat.le_trans (List.length_filter_le _ _) (by rw [List.length_take]; exact Nat.min_le_right _ _)) _) (by simp only [List.length_singleton]; omega)) (by decide)]
      simp only [Option.bind_some]
      rw [leadlineref11_Mem_Out__m0_71_ffooo_j4, wsucc h1 (by omega)]
      have := ih (j + 1) n K (by omega) (by omega) hK
      rw [ht, List.filter_cons_of_pos (by simp [e])] at this
      simp only [List.filter_nil] at this
      rw [this]; rfl
theorem Out_eq (hi : MInv m) (hs : Sim m k) (hf : k.W.length ≤ 1000) (hN : 1000 < N) (line : Int) : ∃ k', leadlineref11_Mem_Out__m0_71_ffooo N k line = some (if 0 ≤ line ∧ line < (nlines m : Int) then 0 else 1, k') ∧ Sim (outM m line) k' ∧ k'.W.length ≤ k.W.length := by
  unfold leadlineref11_Mem_Out__m0_71_ffooo outM
  by_cases h0 : line < 0
  · rw [if_pos h0, leadlineref11_Mem_Out__m0_71_ffooo_j1, if_pos rfl, if_neg (by omega), if_neg (by omega)]
    exact ⟨k, rfl, hs, Nat.le_refl _⟩
  · rw [if_neg h0, Lines_eq hi hs]
    simp only [Option.bind_some]
    by_cases h1 : (nlines m : Int) ≤ line
    · rw [decide_eq_true h1, leadlineref11_Mem_Out__m0_71_ffooo_j1, if_pos rfl, if_neg (by omega), if_neg (by omega)]
      exact ⟨k, rfl, hs, Nat.le_refl _⟩
    · rw [decide_eq_false h1, leadlineref11_Mem_Out__m0_71_ffooo_j1, if_neg (by decide), if_pos (by omega), if_pos (by omega)]
      have ho : ∀ w ∈ k.W, 0 ≤ w.Cell ∧ w.Cell.toNat < m.kept.length := fun w hw => by have := hs.own w hw; rw [hi.len1]; exact ⟨this.1, this.2.1⟩
      have := out_l3 (N := N) hi (line := line) hf ho (kk := leadlineref11_Mem_Out__m0_71_ffooo_j2 k.Of k.Firsts k.L) k.W.length 0 N k.K (by omega) (by omega) (by rw [hs.kept])
      rw [List.take_zero, List.filter_nil, List.drop_zero, show ((0 : Nat) : Int) = 0 from rfl] at this
      rw [this]
      refine ⟨_, rfl, ⟨hs.of, hs.firsts, hs.l, ?_, fun j => ?_, fun w hw => hs.own w (List.mem_filter.1 hw).1⟩, List.length_filter_le _ _⟩
      · show applyW (onL k.W line) k.K = applyW (m.pend line) m.kept
        rw [hs.pend, hs.kept]
      · show (if j = line then [] else m.pend j) = onL (k.W.filter fun w => !decide (w.Line = line)) j
        unfold onL
        rw [List.filter_filter]
        by_cases e : j = line
        · rw [if_pos e]
          have : (k.W.filter fun w => decide (w.Line = j) && !decide (w.Line = line)) = [] := List.filter_eq_nil_iff.2 fun w _ => by subst e; simp
          rw [this]; rfl
        · rw [if_neg e, hs.pend j]
          unfold onL
          congr 1
          refine List.filter_congr fun w _ => ?_
          by_cases z : w.Line = j
          · simp [z, e]
          · simp [z]
/-! Pending -/
theorem set_map {nl : Nat} {f g : Nat → Int} {i : Nat} (hi : i < nl) (h : ∀ j, j ≠ i → f j = g j) : ((List.range nl).map f).set i (g i) = (List.range nl).map g := by
  refine List.ext_getElem (by simp) fun j h1 h2 => ?_
  rw [List.getElem_set]
  simp only [List.getElem_map, List.getElem_range]
  split
  · rename_i e; rw [e]
  · rename_i e; exact h j (fun z => e z.symm)
def cntW (W : List Rp) (i : Nat) : Int := ((onL W (i : Int)).length : Int)
theorem cnt_snoc (W : List Rp) (w : Rp) (i : Nat) : cntW (W ++ [w]) i = if w.Line = (i : Int) then cntW W i + 1 else cntW W i := by
  unfold cntW
  rw [onL_app, onL_one]
  split
  · simp
  · simp
theorem pend_l2 (hi : MInv m) {W : List Rp} {r : Int × Rm} (hr : r.2.W = W) (hW : W.length ≤ 1000) {nl : Nat} (ho : ∀ w ∈ W, 0 ≤ w.Line ∧ w.Line < (nl : Int)) {kk : List Int → Option ((List Int) × Rm)} : ∀ (d j n : Nat), j + d = W.length → d < n →
    leadlineref11_Mem_Pending__m0_71_ffooo_l2 N kk r n ((List.range nl).map (cntW (W.take j))) (j : Int) = kk ((List.range nl).map (cntW W)) := by
  intro d
  induction d with
  | zero =>
    intro j n hj hn
    obtain ⟨n, rfl⟩ : ∃ q, n = q + 1 := ⟨n - 1, by omega⟩
    rw [leadlineref11_Mem_Pending__m0_71_ffooo_l2, hr, if_neg (by omega), List.take_of_length_le (by omega)]
  | succ d ih =>
    intro j n hj hn
    obtain ⟨n, rfl⟩ : ∃ q, n = q + 1 := ⟨n - 1, by omega⟩
    have h1 : j < W.length := by omega
    obtain ⟨o1, o2⟩ := ho _ (List.getElem_mem h1)
    obtain ⟨i, hil⟩ : ∃ i : Nat, W[j].Line = (i : Int) := ⟨W[j].Line.toNat, by omega⟩
    have hin : i < nl := by omega
    have hc : cntW (W.take j) i ≤ 1000 := by unfold cntW; have := onL_len (W.take j) (i : Int); simp only [List.length_take] at this; omega
    have hc0 : 0 ≤ cntW (W.take j) i := by unfold cntW; omega
    rw [leadlineref11_Mem_Pending__m0_71_ffooo_l2, hr, if_pos (by omega), getI_at rfl h1]
    simp only [Option.bind_some]
    rw [getI_at (j := i) hil (by simpa using hin)]
    simp only [Option.bind_some]
    rw [setI_at (j := i) hil (by simpa using hin)]
    simp only [Option.bind_some, List.getElem_map, List.getElem_range]
    have hg : IntKind.i64.wrap (cntW (W.take j) i + 1) = cntW (W.take (j + 1)) i := by
      rw [w64 (by omega) (by omega), List.take_succ_eq_append_getElem h1, cnt_snoc, if_pos hil]
    rw [hg, set_map hin (fun q hq => by rw [List.take_succ_eq_append_getElem h1, cnt_snoc, if_neg (fun z => hq (by omega))]), wsucc h1 (by omega)]
    exact ih (j + 1) n (by omega) (by omega)
theorem pendL_cnt (hs : Sim m k) : pendL m (nlines m) = (List.range (nlines m)).map (cntW k.W) := by
  unfold pendL
  refine List.map_congr_left fun i _ => ?_
  rw [hs.pend]; rfl
theorem Pending_eq (hi : MInv m) (hs : Sim m k) (hf : k.W.length ≤ 1000) (hN : 1000 < N) : leadlineref11_Mem_Pending__m0_71_ffooo N k = some (pendL m (nlines m), k) := by
  have h20 := hi.nl
  unfold leadlineref11_Mem_Pending__m0_71_ffooo
  rw [Lines_eq hi hs]
  simp only [Option.bind_some]
  have hmk : mkL 8 (nlines m : Int) 0 = some ((List.range (nlines m)).map (cntW (k.W.take 0))) := by
    unfold mkL
    rw [if_pos ⟨by omega, by rw [Int.toNat_natCast]; omega, by rw [Int.toNat_natCast]; omega⟩, Int.toNat_natCast]
    congr 1
    refine List.ext_getElem (by simp) fun j h1 h2 => ?_
    simp [cntW, onL]
  rw [hmk]
  simp only [Option.bind_some]
  have := pend_l2 (N := N) hi (W := k.W) (r := ((nlines m : Int), k)) rfl hf (fun w hw => line_lt hi hs hw) (kk := leadlineref11_Mem_Pending__m0_71_ffooo_j1 ((nlines m : Int), k)) k.W.length 0 N (by omega) (by omega)
  rw [show ((0 : Nat) : Int) = 0 from rfl] at this
  rw [this, ← pendL_cnt hs]; rfl
end Go.MD.LINES
