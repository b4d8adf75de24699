/- The image of a cut, as the program and the document make it. No condition: plain lemmas. -/
import Derived.Test.YtkgaliichchanaaLS1
namespace Go.MD.LINES
open Go Go.MD Go.LL
variable {N : Nat} {m : MS} {k : Rm}
/-- the last number written to a cell -/
def lastW (c : Nat) : List (Int × Int) → Int → Int
  | [], v => v
  | x :: r, v => lastW c r (if x.1.toNat = c then x.2 else v)
theorem lastW_app (c : Nat) : ∀ (a b : List (Int × Int)) (v : Int), lastW c (a ++ b) v = lastW c b (lastW c a v)
  | [], _, _ => rfl
  | x :: a, b, v => lastW_app c a b _
theorem applyW_get : ∀ (ws : List (Int × Int)) (l : List Int) (c : Nat), (applyW ws l).getD c 0 = if c < l.length then lastW c ws (l.getD c 0) else 0
  | [], l, c => by
    show l.getD c 0 = _
    split
    · rfl
    · rename_i h; rw [List.getD_eq_getElem?_getD, List.getElem?_eq_none (by omega)]; rfl
  | x :: ws, l, c => by
    show (applyW ws (l.set x.1.toNat x.2)).getD c 0 = _
    rw [applyW_get ws _ c, List.length_set]
    split
    · rename_i h
      show lastW c ws _ = lastW c ws _
      congr 1
      rw [getD_of_lt (by rw [List.length_set]; exact h), List.getElem_set]
      split
      · rfl
      · exact (getD_of_lt h).symm
    · rfl
theorem lastW_none {c : Nat} : ∀ {ws : List (Int × Int)} {v : Int}, (∀ x ∈ ws, x.1.toNat ≠ c) → lastW c ws v = v
  | [], _, _ => rfl
  | x :: r, v, h => by
    rw [lastW, if_neg (h x (.head _))]
    exact lastW_none fun y hy => h y (.tail _ hy)
/-- the line of a cell -/
def lnO (m : MS) (c : Nat) : Int := m.of.getD c 0
theorem pend_line (hs : Sim m k) {j : Int} {x : Int × Int} (hx : x ∈ m.pend j) : 0 ≤ x.1 ∧ x.1.toNat < m.of.length ∧ lnO m x.1.toNat = j := by
  rw [hs.pend] at hx
  obtain ⟨w, hw, rfl⟩ := List.mem_map.1 hx
  obtain ⟨hw1, hw2⟩ := List.mem_filter.1 hw
  obtain ⟨a, b, c⟩ := hs.own w hw1
  have : w.Line = j := by simpa using hw2
  exact ⟨a, b, by unfold lnO; show m.of.getD w.Cell.toNat 0 = j; rw [c, this]⟩
def upTo (m : MS) (cut : List Int) (j : Int) : List (Int × Int) := (m.pend j).take (cut.getD j.toNat 0).toNat
theorem imgUp_get (hi : MInv m) (hs : Sim m k) {cut : List Int} {c : Nat} (hc : c < m.kept.length) : ∀ q : Nat, (imgUp m cut q).getD c 0 = if lnO m c < (q : Int) then lastW c (upTo m cut (lnO m c)) (m.kept.getD c 0) else m.kept.getD c 0
  | 0 => by
    have h : c < m.of.length := by rw [← hi.len1]; exact hc
    have := (of_lt hi (getD_mem h)).1
    rw [if_neg (by show ¬ m.of.getD c 0 < _; omega)]; rfl
  | q + 1 => by
    have hl : (imgUp m cut q).length = m.kept.length := imgUp_len m cut q
    show (applyW ((m.pend (q : Int)).take (cut.getD q 0).toNat) (imgUp m cut q)).getD c 0 = _
    rw [applyW_get, if_pos (by rw [hl]; exact hc), imgUp_get hi hs hc q]
    by_cases e : lnO m c = (q : Int)
    · rw [if_neg (by omega), if_pos (by omega), e]; rfl
    · have hn : ∀ v, lastW c ((m.pend (q : Int)).take (cut.getD q 0).toNat) v = v := fun v => lastW_none fun x hx z => by
        have := pend_line hs (List.mem_of_mem_take hx)
        rw [z] at this
        exact e this.2.2
      rw [hn]
      by_cases h : lnO m c < (q : Int)
      · rw [if_pos h, if_pos (by omega)]
      · rw [if_neg h, if_neg (by omega)]
/-- the image, cell by cell -/
def imgS (m : MS) (cut : List Int) (W : List Rp) (c : Nat) : Int := lastW c ((onL W (lnO m c)).take (cut.getD (lnO m c).toNat 0).toNat) (m.kept.getD c 0)
theorem imgUp_S (hi : MInv m) (hs : Sim m k) (cut : List Int) : imgUp m cut (nlines m) = (List.range m.kept.length).map (imgS m cut k.W) := by
  have hl := imgUp_len m cut (nlines m)
  refine List.ext_getElem (by simp [hl]) fun c h1 h2 => ?_
  have hc : c < m.kept.length := by omega
  have h := imgUp_get hi hs (cut := cut) hc (nlines m)
  rw [getD_of_lt h1] at h
  have hlt := of_lt hi (getD_mem (show c < m.of.length by rw [← hi.len1]; exact hc))
  have hlt' : lnO m c < (nlines m : Int) := hlt.2
  rw [h, if_pos hlt']
  simp only [List.getElem_map, List.getElem_range]
  unfold imgS upTo
  rw [hs.pend]
/-- how much of a line is still to come -/
def leftS (cut : List Int) (W : List Rp) (i : Nat) : Int := cut.getD i 0 - min (cut.getD i 0) (cntW W i)
theorem img_l6 (hi : MInv m) (hs : Sim m k) {cut : List Int} (hcut : cut.length = nlines m) (hpos : ∀ i, i < nlines m → 0 ≤ cut.getD i 0 ∧ cut.getD i 0 ≤ 1000000) {r : List Int × Rm} (hr : r.2.W = k.W) (hW : k.W.length ≤ 1000) {kk : List Int → Option ((List Int) × Int × Rm)} : ∀ (d j n : Nat), j + d = k.W.length → d < n →
    leadlineref11_Mem_Image__m0_71_ffooo_l6 N kk r n ((List.range (nlines m)).map (leftS cut (k.W.take j))) ((List.range m.kept.length).map (imgS m cut (k.W.take j))) (j : Int) = kk ((List.range m.kept.length).map (imgS m cut k.W)) := by
  intro d
  induction d with
  | zero =>
    intro j n hj hn
    obtain ⟨n, rfl⟩ : ∃ q, n = q + 1 := ⟨n - 1, by omega⟩
    rw [leadlineref11_Mem_Image__m0_71_ffooo_l6, hr, if_neg (by omega), List.take_of_length_le (by omega)]
  | succ d ih =>
    intro j n hj hn
    obtain ⟨n, rfl⟩ : ∃ q, n = q + 1 := ⟨n - 1, by omega⟩
    have h1 : j < k.W.length := by omega
    have hmem := List.getElem_mem h1
    obtain ⟨o1, o2⟩ := line_lt hi hs hmem
    obtain ⟨c1, c2, c3⟩ := hs.own _ hmem
    obtain ⟨i, hil⟩ : ∃ i : Nat, k.W[j].Line = (i : Int) := ⟨k.W[j].Line.toNat, by omega⟩
    obtain ⟨c, hcl⟩ : ∃ c : Nat, k.W[j].Cell = (c : Int) := ⟨k.W[j].Cell.toNat, by omega⟩
    have hin : i < nlines m := by omega
    have hcn : c < m.kept.length := by rw [hi.len1]; omega
    have hci : lnO m c = (i : Int) := by
      have : k.W[j].Cell.toNat = c := by omega
      rw [this] at c3; unfold lnO; rw [c3, hil]
    obtain ⟨p1, p2⟩ := hpos i hin
    have hc0 : 0 ≤ cntW (k.W.take j) i := by unfold cntW; omega
    have tk : k.W.take (j + 1) = k.W.take j ++ [k.W[j]] := List.take_succ_eq_append_getElem h1
    have hcs : ∀ q, cntW (k.W.take (j + 1)) q = if k.W[j].Line = (q : Int) then cntW (k.W.take j) q + 1 else cntW (k.W.take j) q := fun q => by rw [tk, cnt_snoc]
    have hon : ∀ q : Int, onL (k.W.take (j + 1)) q = onL (k.W.take j) q ++ (if k.W[j].Line = q then [wr k.W[j]] else []) := fun q => by rw [tk, onL_app, onL_one]
    -- the other lines' cells stay
    have other : ∀ q : Nat, lnO m q ≠ (i : Int) → imgS m cut (k.W.take j) q = imgS m cut (k.W.take (j + 1)) q := fun q hq => by
      unfold imgS
      rw [hon, if_neg (fun z => hq (by rw [← z, hil])), List.append_nil]
    rw [leadlineref11_Mem_Image__m0_71_ffooo_l6, hr, if_pos (by omega), getI_at rfl h1]
    simp only [Option.bind_some]
    rw [getI_at (j := i) hil (by simpa using hin)]
    simp only [Option.bind_some, List.getElem_map, List.getElem_range]
    have hcnt : cntW (k.W.take j) i = ((onL (k.W.take j) (i : Int)).length : Int) := rfl
    by_cases hp : 0 < leftS cut (k.W.take j) i
    · have hlt : cntW (k.W.take j) i < cut.getD i 0 := by unfold leftS at hp; omega
      rw [if_pos hp, setI_at (j := i) hil (by simpa using hin)]
      simp only [Option.bind_some]
      rw [getI_at (j := c) hcl (by simpa using hcn)]
      simp only [Option.bind_some]
      rw [setI_at (j := c) hcl (by simpa using hcn)]
      simp only [Option.bind_some]
      rw [leadlineref11_Mem_Image__m0_71_ffooo_j7, wsucc h1 (by omega)]
      have e1 : IntKind.i64.wrap (leftS cut (k.W.take j) i - 1) = leftS cut (k.W.take (j + 1)) i := by
        unfold leftS at hp ⊢
        rw [hcs, if_pos hil, w64 (by omega) (by omega)]; omega
      have e2 : k.W[j].N = imgS m cut (k.W.take (j + 1)) c := by
        unfold imgS
        rw [hci, hon, if_pos hil, Int.toNat_natCast, List.take_of_length_le (l := onL (k.W.take j) (i : Int) ++ [wr k.W[j]]) (by rw [List.length_append, List.length_singleton]; omega), lastW_app]
        show _ = (if (wr k.W[j]).1.toNat = c then (wr k.W[j]).2 else _)
        rw [if_pos (by show k.W[j].Cell.toNat = c; omega)]; rfl
      rw [e1, e2, set_map hin (fun q hq => by unfold leftS; rw [hcs, if_neg (fun z => hq (by omega))]), set_map hcn (fun q hq => by
        by_cases z : lnO m q = (i : Int)
        · unfold imgS
          rw [z, hon, if_pos hil, Int.toNat_natCast, List.take_of_length_le (l := onL (k.W.take j) (i : Int)) (by omega), List.take_of_length_le (l := onL (k.W.take j) (i : Int) ++ [wr k.W[j]]) (by rw [List.length_append, List.length_singleton]; omega), lastW_app]
          show _ = (if (wr k.W[j]).1.toNat = q then _ else _)
          rw [if_neg (by show ¬ k.W[j].Cell.toNat = q; omega)]
        · exact other q z)]
      exact ih (j + 1) n (by omega) (by omega)
    · have hge : cut.getD i 0 ≤ cntW (k.W.take j) i := by unfold leftS at hp; omega
      rw [if_neg hp, leadlineref11_Mem_Image__m0_71_ffooo_j7, wsucc h1 (by omega)]
      have e1 : (List.range (nlines m)).map (leftS cut (k.W.take j)) = (List.range (nlines m)).map (leftS cut (k.W.take (j + 1))) := by
        refine List.map_congr_left fun q _ => ?_
        unfold leftS
        rw [hcs]
        split
        · rename_i z
          have : q = i := by omega
          subst this; omega
        · rfl
      have e2 : (List.range m.kept.length).map (imgS m cut (k.W.take j)) = (List.range m.kept.length).map (imgS m cut (k.W.take (j + 1))) := by
        refine List.map_congr_left fun q _ => ?_
        by_cases z : lnO m q = (i : Int)
        · unfold imgS
          rw [z, hon, if_pos hil, Int.toNat_natCast, List.take_append_of_le_length (by omega)]
        · exact other q z
      rw [e1, e2]
      exact ih (j + 1) n (by omega) (by omega)
open Classical in
theorem img_l2 {cut p : List Int} (hl : cut.length = p.length) (h20 : p.length ≤ 1000) {r : List Int × Rm} (hr : r.1 = p) {kk : Option ((List Int) × Int × Rm)} : ∀ (d j n : Nat), j + d = p.length → d < n →
    leadlineref11_Mem_Image__m0_71_ffooo_l2 N kk cut r n (j : Int) = if ∀ i, j ≤ i → i < p.length → 0 ≤ cut.getD i 0 ∧ cut.getD i 0 ≤ p.getD i 0 then kk else some ([], 1, (leadlineref11_Mem.mk r.2.Of r.2.Firsts r.2.L r.2.K r.2.W)) := by
  intro d
  induction d with
  | zero =>
    intro j n hj hn
    obtain ⟨n, rfl⟩ : ∃ q, n = q + 1 := ⟨n - 1, by omega⟩
    rw [leadlineref11_Mem_Image__m0_71_ffooo_l2, hr, if_neg (by omega), if_pos (fun i h1 h2 => by omega)]
  | succ d ih =>
    intro j n hj hn
    obtain ⟨n, rfl⟩ : ∃ q, n = q + 1 := ⟨n - 1, by omega⟩
    have h1 : j < p.length := by omega
    have h2 : j < cut.length := by omega
    rw [leadlineref11_Mem_Image__m0_71_ffooo_l2, hr, if_pos (by omega), getI_at rfl h2]
    simp only [Option.bind_some]
    by_cases a : cut[j] < 0
    · rw [if_pos a, leadlineref11_Mem_Image__m0_71_ffooo_j3, if_pos rfl, if_neg (fun z => by have := z j (Nat.le_refl _) h1; rw [getD_of_lt h2] at this; omega)]
    · rw [if_neg a, getI_at rfl h1]
      simp only [Option.bind_some]
      by_cases b : p[j] < cut[j]
      · rw [decide_eq_true b, leadlineref11_Mem_Image__m0_71_ffooo_j3, if_pos rfl, if_neg (fun z => by have := z j (Nat.le_refl _) h1; rw [getD_of_lt h2, getD_of_lt h1] at this; omega)]
      · rw [decide_eq_false b, leadlineref11_Mem_Image__m0_71_ffooo_j3, if_neg (by decide), wsucc h1 (by omega), ih (j + 1) n (by omega) (by omega)]
        by_cases z : ∀ i, j + 1 ≤ i → i < p.length → 0 ≤ cut.getD i 0 ∧ cut.getD i 0 ≤ p.getD i 0
        · rw [if_pos z, if_pos]
          intro i h3 h4
          by_cases e : i = j
          · subst e; rw [getD_of_lt h2, getD_of_lt h1]; omega
          · exact z i (by omega) h4
        · rw [if_neg z, if_neg (fun y => z fun i h3 h4 => y i (by omega) h4)]
theorem Image_eq (hi : MInv m) (hs : Sim m k) (hf : k.W.length ≤ 1000) (hN : 1000 < N) (cut : List Int) : leadlineref11_Mem_Image__m0_71_ffooo N k cut = if cutOk m cut then some (imgUp m cut (nlines m), 0, k) else some ([], 1, k) := by
  have h20 := hi.nl
  have hpl := pendL_len m (nlines m)
  unfold leadlineref11_Mem_Image__m0_71_ffooo
  rw [Pending_eq hi hs hf hN]
  simp only [Option.bind_some]
  have hget : ∀ i, i < nlines m → (pendL m (nlines m)).getD i 0 = ((m.pend (i : Int)).length : Int) := fun i h => by
    rw [getD_of_lt (by rw [hpl]; exact h)]; simp [pendL]
  by_cases hl : cut.length = nlines m
  · rw [if_neg (by rw [hpl]; simp [hl]), show (0 : Int) = ((0 : Nat) : Int) from rfl, img_l2 (r := (pendL m (nlines m), k)) (p := pendL m (nlines m)) (by rw [hpl, hl]) (by omega) rfl (pendL m (nlines m)).length 0 N (by omega) (by omega)]
    by_cases hc : cutOk m cut
    · rw [if_pos hc, if_pos (fun i _ h => by
        rw [hpl] at h
        rw [getD_of_lt (by omega), hget i h]
        exact hc.2 i (by omega))]
      have hk : k.K.length ≤ 1000 := by rw [hs.kept, hi.len1]; have := hi.len3; have := hi.len4; omega
      rw [leadlineref11_Mem_Image__m0_71_ffooo_j1, appG_ok (by simp; omega) (by decide)]
      simp only [Option.bind_some, List.nil_append]
      rw [appG_ok (by simp; omega) (by decide)]
      simp only [Option.bind_some, List.nil_append]
      rw [leadlineref11_Mem_Image__m0_71_ffooo_j4]
      have hpos : ∀ i, i < nlines m → 0 ≤ cut.getD i 0 ∧ cut.getD i 0 ≤ 1000000 := fun i h => by
        rw [getD_of_lt (by omega)]
        have := hc.2 i (by omega); have := hi.few (i : Int); omega
      have e1 : cut = (List.range (nlines m)).map (leftS cut (k.W.take 0)) := by
        refine List.ext_getElem (by simp [hl]) fun i h1 h2 => ?_
        have hp := hpos i (by omega)
        rw [getD_of_lt h1] at hp
        simp only [List.getElem_map, List.getElem_range, leftS, getD_of_lt h1, List.take_zero]
        show cut[i] = cut[i] - min cut[i] (cntW [] i)
        rw [show cntW [] i = 0 from rfl]; omega
      have e2 : k.K = (List.range m.kept.length).map (imgS m cut (k.W.take 0)) := by
        rw [hs.kept]
        refine List.ext_getElem (by simp) fun i h1 h2 => ?_
        simp only [List.getElem_map, List.getElem_range, imgS, List.take_zero]
        show _ = lastW i ((onL [] _).take _) _
        rw [show onL [] (lnO m i) = [] from rfl, List.take_nil]
        exact (getD_of_lt h1).symm
      have := img_l6 (N := N) hi hs hl hpos (r := (pendL m (nlines m), k)) rfl hf (kk := leadlineref11_Mem_Image__m0_71_ffooo_j5 (pendL m (nlines m), k)) k.W.length 0 N (by omega) (by omega)
      rw [← e1, ← e2] at this
      rw [show (0 : Int) = ((0 : Nat) : Int) from rfl, this, ← imgUp_S hi hs]
      rfl
    · rw [if_neg hc, if_neg]
      intro z
      refine hc ⟨hl, fun i h => ?_⟩
      have := z i (Nat.zero_le _) (by rw [hpl]; omega)
      rw [getD_of_lt h, hget i (by omega)] at this
      exact this
  · rw [if_pos (by rw [hpl]; simpa using fun z => hl (by omega)), if_neg (fun z => hl z.1)]
theorem Crash_eq (hi : MInv m) (hs : Sim m k) (hf : k.W.length ≤ 1000) (hN : 1000 < N) (cut : List Int) : ∃ k', leadlineref11_Mem_Crash__m0_71_ffooo N k cut = some (if cutOk m cut then 0 else 1, k') ∧ Sim (crashM m cut) k' ∧ k'.W.length ≤ k.W.length := by
  unfold leadlineref11_Mem_Crash__m0_71_ffooo crashM
  rw [Image_eq hi hs hf hN]
  by_cases hc : cutOk m cut
  · have hl := imgUp_len m cut (nlines m)
    have h1 := hi.len1; have h3 := hi.len3; have h4 := hi.len4
    rw [if_pos hc, if_pos hc, if_pos hc]
    simp only [Option.bind_some]
    rw [if_neg (by decide), appG_ok (by simp; omega) (by decide)]
    simp only [Option.bind_some, List.nil_append]
    rw [hs.of, hs.firsts, subI_ok (by omega) (by omega) (by omega), Int.toNat_natCast, Int.toNat_natCast, List.take_of_length_le (Nat.le_refl _)]
    simp only [Option.bind_some]
    rw [appG_ok (by simp; omega) (by decide)]
    simp only [Option.bind_some]
    refine ⟨_, rfl, ⟨rfl, rfl, ?_, rfl, fun j => rfl, fun w hw => nomatch hw⟩, Nat.zero_le _⟩
    show _ = imgUp m cut (nlines m) ++ m.firsts.drop m.kept.length
    rw [h1]
  · rw [if_neg hc, if_neg hc, if_neg hc]
    exact ⟨k, rfl, hs, Nat.le_refl _⟩
end Go.MD.LINES
