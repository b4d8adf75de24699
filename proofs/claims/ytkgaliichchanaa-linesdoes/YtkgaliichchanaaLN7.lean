/- Walks over the layer of lines: Cuts. No condition beyond each theorem's own premises. -/
import Derived.Test.YtkgaliichchanaaLN6
namespace Go.LL
open Go Go.Proofs


theorem keyK : KeyOk Try.prog 64 (kA 20) := by
  have hi : (Try.prog.info? 3).map (·.size) = some 1 := size3
  obtain ⟨i, h1, h2⟩ := Option.map_eq_some_iff.1 hi
  exact keyArr (e := 3) (i := i) (by kernel_rfl) (by kernel_rfl) (by kernel_rfl) h1 h2
theorem und64 (w : World) : (underlying 64).run Try.prog w = .ok (.array 20 3) w := by kernel_rfl
theorem und61 (w : World) : (underlying 61).run Try.prog w = .ok (.map 64 4) w := by kernel_rfl
theorem zero4 (w : World) : (zeroValue 4).run Try.prog w = .ok (.bool false) w := by kernel_rfl

def pad (l : List Int) : Vec 20 := ⟨(l ++ List.replicate 20 0).take 20, by simp⟩
theorem pad_cp {l : List Int} (h : l.length ≤ 20) : l ++ (List.replicate 20 (0 : Int)).drop l.length = (pad l).1 := by
  show _ = (l ++ List.replicate 20 0).take 20
  rw [List.take_append, List.take_of_length_le h, List.drop_replicate, List.take_replicate, Nat.min_eq_left (by omega)]

/-! ### the cuts, one after another -/
def rk (m : MS) (c : List Int) : Nat → Nat
  | 0 => 0
  | k + 1 => rk m c k * ((m.pend (k : Int)).length + 1) + (c.getD k 0).toNat
def tot (m : MS) : Nat → Nat
  | 0 => 1
  | k + 1 => tot m k * ((m.pend (k : Int)).length + 1)
def cutIn (m : MS) (c : List Int) (k : Nat) : Prop := ∀ i, i < k → 0 ≤ c.getD i 0 ∧ c.getD i 0 ≤ ((m.pend (i : Int)).length : Int)
theorem rk_congr {m : MS} {c c2 : List Int} {k : Nat} (h : ∀ i, i < k → c.getD i 0 = c2.getD i 0) : rk m c k = rk m c2 k := by
  induction k with
  | zero => rfl
  | succ k ih => rw [rk, rk, ih (fun i hi => h i (by omega)), h k (by omega)]
theorem rk_lt {m : MS} {c : List Int} {k : Nat} (h : cutIn m c k) : rk m c k < tot m k := by
  induction k with
  | zero => simp [rk, tot]
  | succ k ih =>
    have h1 := ih (fun i hi => h i (by omega))
    have h2 := h k (by omega)
    rw [rk, tot]
    calc rk m c k * ((m.pend (k : Int)).length + 1) + (c.getD k 0).toNat < rk m c k * ((m.pend (k : Int)).length + 1) + ((m.pend (k : Int)).length + 1) := by omega
      _ = (rk m c k + 1) * ((m.pend (k : Int)).length + 1) := by rw [Nat.add_mul, Nat.one_mul]
      _ ≤ tot m k * ((m.pend (k : Int)).length + 1) := Nat.mul_le_mul_right _ h1
theorem getD_set {c : List Int} {k i : Nat} {x : Int} (hk : k < c.length) : (c.set k x).getD i 0 = if i = k then x else c.getD i 0 := by
  simp only [List.getD_eq_getElem?_getD, List.getElem?_set]
  by_cases e : k = i
  · subst e; simp [hk]
  · rw [if_neg e, if_neg (fun h => e h.symm)]
/-- the next cut: it is one of the memory's, and the one behind -/
theorem nextI_some {m : MS} : ∀ {k : Nat} {c c2 : List Int}, k ≤ c.length → cutIn m c k → nextI m c k = some c2 → c2.length = c.length ∧ cutIn m c2 k ∧ rk m c2 k = rk m c k + 1 ∧ ∀ i, k ≤ i → c2.getD i 0 = c.getD i 0 := by
  intro k
  induction k with
  | zero => intro c c2 _ _ h; cases h
  | succ k ih =>
    intro c c2 hk hin h
    rw [nextI] at h
    have hk0 := hin k (by omega)
    split at h
    · rename_i hlt
      simp only [Option.some.injEq] at h
      subst h
      have hg : ∀ i, (c.set k (c.getD k 0 + 1)).getD i 0 = if i = k then c.getD k 0 + 1 else c.getD i 0 := fun i => getD_set (by omega)
      refine ⟨by simp, fun i hi => ?_, ?_, fun i hi => ?_⟩
      · rw [hg]; split
        · rename_i e; subst e; omega
        · exact hin i hi
      · rw [rk, rk, hg, if_pos rfl, rk_congr (c2 := c) (fun i hi => by rw [hg, if_neg (by omega)])]
        omega
      · rw [hg, if_neg (by omega)]
    · rename_i hlt
      have hg : ∀ i, (c.set k 0).getD i 0 = if i = k then 0 else c.getD i 0 := fun i => getD_set (by omega)
      obtain ⟨h1, h2, h3, h4⟩ := ih (c := c.set k 0) (by simpa using Nat.le_of_succ_le hk) (fun i hi => by rw [hg, if_neg (by omega)]; exact hin i (by omega)) h
      have e4 : c2.getD k 0 = 0 := by rw [h4 k (Nat.le_refl _), hg, if_pos rfl]
      refine ⟨by simpa using h1, fun i hi => ?_, ?_, fun i hi => ?_⟩
      · by_cases e : i = k
        · subst e; rw [e4]; omega
        · exact h2 i (by omega)
      · rw [rk, rk, h3, e4, rk_congr (c := c.set k 0) (c2 := c) (fun i hi => by rw [hg, if_neg (by omega)])]
        have : (c.getD k 0).toNat = (m.pend (k : Int)).length := by omega
        rw [this, Nat.add_mul, Nat.one_mul]
        simp; omega
      · rw [h4 i (by omega), hg, if_neg (by omega)]
/-- behind the last one there is none -/
theorem nextI_none {m : MS} : ∀ {k : Nat} {c : List Int}, k ≤ c.length → cutIn m c k → nextI m c k = none → rk m c k + 1 = tot m k := by
  intro k
  induction k with
  | zero => intro c _ _ _; rfl
  | succ k ih =>
    intro c hk hin h
    rw [nextI] at h
    have hk0 := hin k (by omega)
    split at h
    · cases h
    · rename_i hlt
      have hg : ∀ i, (c.set k 0).getD i 0 = if i = k then 0 else c.getD i 0 := fun i => getD_set (by omega)
      have h1 := ih (c := c.set k 0) (by simpa using Nat.le_of_succ_le hk) (fun i hi => by rw [hg, if_neg (by omega)]; exact hin i (by omega)) h
      rw [rk_congr (c2 := c) (fun i hi => by rw [hg, if_neg (by omega)])] at h1
      rw [rk, tot, ← h1, Nat.add_mul, Nat.one_mul]
      have : (c.getD k 0).toNat = (m.pend (k : Int)).length := by omega
      omega

/-- all cuts from one on -/
def cutList (m : MS) : Nat → List Int → List (List Int)
  | 0, _ => []
  | f + 1, c => c :: match nextI m c c.length with | none => [] | some c2 => cutList m f c2
/-- those that differ so far -/
def cutStep (m : MS) (s : List (Vec 20) × List (List Int)) (c : List Int) : List (Vec 20) × List (List Int) :=
  if pad (imgUp m c (nlines m)) ∈ s.1 then s else (s.1 ++ [pad (imgUp m c (nlines m))], s.2 ++ [c])
def cut0 (m : MS) : List Int := List.replicate (nlines m) 0
def cutsM (m : MS) : List (List Int) := ((cutList m (tot m (nlines m)) (cut0 m)).foldl (cutStep m) ([], [])).2

theorem cutIn_of {m : MS} {c : List Int} (h : cutOk m c) : cutIn m c c.length := fun i hi => by rw [getD_of_lt hi]; exact h.2 i hi
theorem cutOk_of {m : MS} {c : List Int} (hl : c.length = nlines m) (h : cutIn m c c.length) : cutOk m c := ⟨hl, fun i hi => by have := h i hi; rwa [getD_of_lt hi] at this⟩
theorem cutOk0 (m : MS) : cutOk m (cut0 m) := ⟨by simp [cut0], fun i hi => by simp [cut0]⟩
theorem rk_zero (m : MS) (k n : Nat) : rk m (List.replicate n 0) k = 0 := by
  induction k with
  | zero => rfl
  | succ k ih =>
    rw [rk, ih]
    have : (List.replicate n (0 : Int)).getD k 0 = 0 := by
      simp only [List.getD_eq_getElem?_getD, List.getElem?_replicate]; split <;> rfl
    rw [this]; simp

/-! ### rows -/
structure Row where
  oa : Option Addr
  cap : Nat
  xs : List Int
def rowV (r : Row) : Value := .slice r.oa r.xs.length r.cap
def rowsV (l : List Row) : List Value := l.map rowV
def rowA (r : Row) : HA := sla 3 1 r.oa r.xs.length r.cap (ints r.xs)
theorem rowsV_len (l : List Row) : (rowsV l).length = l.length * 1 := by simp [rowsV]
theorem rowsV_app (l m : List Row) : rowsV l ++ rowsV m = rowsV (l ++ m) := by simp [rowsV]
theorem rowsV_one (l : List Row) : ∀ v ∈ rowsV l, v.oneCell' = true := by
  intro v hv
  obtain ⟨r, _, rfl⟩ := List.mem_map.1 hv
  rfl
theorem rowsV_get {l : List Row} {k : Nat} (h : k < l.length) : (rowsV l)[k * 1]? = some (rowV l[k]) := by simp [rowsV, h]
theorem rowsV_ne {l : List Row} (h : 0 < l.length) : rowsV l ≠ [] := by cases l <;> simp_all [rowsV]

def hadE (l : List (Vec 20 × Nat)) : List (Vec 20 × Value × Nat) := l.map fun x => (x.1, .bool true, x.2)
theorem mval_had (k : Vec 20) (l : List (Vec 20 × Nat)) : (mval k (hadE l)).getD (.bool false) = .bool (decide (k ∈ l.map (·.1))) := by
  induction l with
  | nil => rfl
  | cons x r ih =>
    show (if k = x.1 then some (Value.bool true) else mval k (hadE r)).getD _ = _
    by_cases e : k = x.1
    · simp [e]
    · rw [if_neg e, ih]
      congr 1
      simp only [List.map_cons, List.mem_cons, e, false_or]
theorem mval_had_none {k : Vec 20} {l : List (Vec 20 × Nat)} (h : k ∉ l.map (·.1)) : mval k (hadE l) = none := by
  rw [mval_none_iff]
  simpa [hadE] using h
theorem mput_had {k : Vec 20} {l : List (Vec 20 × Nat)} {c : Nat} (h : k ∉ l.map (·.1)) : mput k (.bool true) c (hadE l) = hadE (l ++ [(k, c)]) := by
  unfold mput
  rw [mval_had_none h]
  simp [hadE]

theorem cut0_len (m : MS) : (cut0 m).length = nlines m := by simp [cut0]
theorem cutOk.lt {m : MS} {c : List Int} (h : cutOk m c) : rk m c (nlines m) < tot m (nlines m) := rk_lt (h.1 ▸ cutIn_of h)
theorem cutOk.pos {m : MS} {c : List Int} (h : cutOk m c) : ∀ x ∈ c, 0 ≤ x := fun x hx => by
  obtain ⟨i, hi, rfl⟩ := List.getElem_of_mem hx
  exact (h.2 i hi).1
theorem cutOk.next {m : MS} {c c2 : List Int} (h : cutOk m c) (hn : nextI m c c.length = some c2) : cutOk m c2 ∧ rk m c2 (nlines m) = rk m c (nlines m) + 1 := by
  obtain ⟨h1, h2, h3, _⟩ := nextI_some (Nat.le_refl _) (cutIn_of h) hn
  have h4 := h.1
  rw [h4] at h3
  exact ⟨cutOk_of (h1.trans h4) (by rw [h1]; exact h2), h3⟩
theorem cutList_step {m : MS} {c : List Int} (h : cutOk m c) : cutList m (tot m (nlines m) - rk m c (nlines m)) c = c :: match nextI m c c.length with | none => [] | some c2 => cutList m (tot m (nlines m) - (rk m c (nlines m) + 1)) c2 := by
  have h1 := h.lt
  obtain ⟨f, hf⟩ : ∃ f, tot m (nlines m) - rk m c (nlines m) = f + 1 := ⟨_, (Nat.succ_pred_eq_of_pos (by omega)).symm⟩
  rw [hf, cutList, show tot m (nlines m) - (rk m c (nlines m) + 1) = f by omega]
theorem fold_none {m : MS} {c : List Int} {s : List (Vec 20) × List (List Int)} {R : List (List Int)} (h : cutOk m c) (hf : ((cutList m (tot m (nlines m) - rk m c (nlines m)) c).foldl (cutStep m) s).2 = R) (hn : nextI m c c.length = none) : (cutStep m s c).2 = R := by
  rw [cutList_step h, hn] at hf; exact hf
theorem fold_some {m : MS} {c c2 : List Int} {s : List (Vec 20) × List (List Int)} {R : List (List Int)} (h : cutOk m c) (hf : ((cutList m (tot m (nlines m) - rk m c (nlines m)) c).foldl (cutStep m) s).2 = R) (hn : nextI m c c.length = some c2) :
    ((cutList m (tot m (nlines m) - rk m c2 (nlines m)) c2).foldl (cutStep m) (cutStep m s c)).2 = R := by
  rw [cutList_step h, hn] at hf; rw [(h.next hn).2]; exact hf
theorem cutStep_new {m : MS} {had : List (Vec 20 × Nat)} {rows : List Row} {oa : Option Addr} {cap b : Nat} {c : List Int} (h : pad (imgUp m c (nlines m)) ∉ had.map (·.1)) :
    cutStep m (had.map (·.1), rows.map (·.xs)) c = ((had ++ [(pad (imgUp m c (nlines m)), b)]).map (·.1), (rows ++ [(⟨oa, cap, c⟩ : Row)]).map (·.xs)) := by
  rw [cutStep, if_neg h]; simp
theorem cutStep_old {m : MS} {had : List (Vec 20 × Nat)} {rows : List Row} {c : List Int} (h : pad (imgUp m c (nlines m)) ∈ had.map (·.1)) :
    cutStep m (had.map (·.1), rows.map (·.xs)) c = (had.map (·.1), rows.map (·.xs)) := by
  rw [cutStep, if_pos h]

set_option maxRecDepth 100000 in
theorem cuts_c (w0 : World) (p : Nat) (g : MG) (m : MS) (hm : MemR (hp w0) p g m) (hi : MInv m) (htot : tot m (nlines m) ≤ 1000000) :
    Tot Try.prog 10 #[.pointer (some ⟨p, 0, none⟩)] w0 (fun v w' => ∃ oo co rows, v = .slice oo rows.length co ∧ rows.map (·.xs) = cutsM m ∧ Fresh w0 (sepA [sla 26 1 oo rows.length co (rowsV rows), bigA rowA rows]) w') := by
  refine fn0 (args := [.pointer (some ⟨p, 0, none⟩)]) (F := [(0, .pointer (some ⟨p, 0, none⟩))]) Try.func10 rfl Try.ntmps10 rfl rfl fun a hF => ?_
  have hS : St w0 Nil [hp w0] [] w0 := .start (by simp [hp_le])
  refine th <| rg <| ls <| q1 hF rfl (e_asg hF rfl) fun a hF =>
    re <| tn <| ?_
  refine th <| rg <| ls <| q1 hF rfl (e_asg hF rfl) fun a hF =>
    re <| tn <| ?_
  refine th <| rg <| ls <| a_map hF rfl hS fun bm w a hS hF => ?_
  refine ls <| q1 hF rfl (e_asg hF rfl) fun a hF =>
    re <| tn <| ?_
  have hnl := hi.nl
  refine th <| th <| rg <| ls <| q1 hF rfl (e_move hF rfl) fun a hF =>
    ls <| c1 hF rfl Try.call30 (lines_c _ _ _ _ (hm.mono (hS.hs _ (.head _))) hi) ⟨rfl, trivial⟩ (fun v w a hR hF => ?_)
  obtain ⟨rfl, hk⟩ := hR
  replace hS := hS.pass hk
  clear hk
  refine ls <| mk_sl hF rfl hS Try.underlying26 info3 rfl rfl rfl (by omega) (by unfold maxLen; omega) fun bc w a hS hF => ?_
  rw [ints_rep] at hS
  refine ls <| q1 hF rfl (e_asg hF rfl) fun a hF =>
    ls <| q1 hF rfl (e_asg hF rfl) fun a hF =>
    re <| tn <| ?_
  rw [show List.replicate (nlines m) (0 : Int) = cut0 m from rfl, ← cut0_len m] at hS
  rw [← cut0_len m] at hF
  replace hS := ((hS.nilS 26 1).nilBig rowA).pickL (.cons (.tail (.tail .head)) (.cons (.tail (.tail .head)) (.cons (.tail .head) (.cons .head .nil))))
  refine wb <| lp (α := Bool × Option Addr × Nat × List Int × List (Vec 20 × Nat) × Nat × Option Addr × Nat × List Row) (fun (gh : Bool × Option Addr × Nat × List Int × List (Vec 20 × Nat) × Nat × Option Addr × Nat × List Row) a w => match gh with | (act, oa, cap, cut, had, clk, oo, co, rows) => Fr 42 [(0, .pointer (some ⟨p, 0, none⟩)), (3, .slice oo rows.length co), (4, .map (some bm)), (5, .slice oa cut.length cap), (6, .bool act)] a ∧ St w0 Nil [hp w0] [sla 3 1 oa cut.length cap (ints cut), imap (kA 20) bm (hadE had) clk, sla 26 1 oo rows.length co (rowsV rows), bigA rowA rows] w ∧ (if act = true then cutOk m cut ∧ rows.length ≤ rk m cut (nlines m) ∧ ((cutList m (tot m (nlines m) - rk m cut (nlines m)) cut).foldl (cutStep m) (had.map (·.1), rows.map (·.xs))).2 = cutsM m else rows.map (·.xs) = cutsM m)) (fun (gh : Bool × Option Addr × Nat × List Int × List (Vec 20 × Nat) × Nat × Option Addr × Nat × List Row) => match gh with | (act, oa, cap, cut, had, clk, oo, co, rows) => if act = true then tot m (nlines m) - rk m cut (nlines m) else 0) (true, _, _, cut0 m, [], 0, none, 0, []) ⟨hF.has ⟨rfl, rfl, rfl, rfl, rfl, trivial⟩, hS, by rw [if_pos rfl]; exact ⟨cutOk0 m, Nat.zero_le _, by rw [cut0, rk_zero]; rfl⟩⟩ ?_
  clear hF hS
  rintro ⟨act, oa, cap, cut, had, clk, oo, co, rows⟩ a w ⟨hF, hS, hinv⟩
  refine th <| th <| rg <| ls <| q1 hF rfl (e_move hF rfl) fun a hF =>
    re <| tn <| ?_
  refine cs hF rfl (fun hb => ?_) (fun hb => ?_)
  ·
    refine wk <| tn <| ?_
    subst hb
    rw [if_pos rfl] at hinv
    obtain ⟨hok, hrl, hfold⟩ := hinv
    have hcn := hok.1
    have hlt := hok.lt
    have hnl := hi.nl
    have hl1 := hi.len1
    have hl3 := hi.len3
    have hl4 := hi.len4
    refine th <| wb <| th <| rg <| ls <| q1 hF rfl (e_move hF rfl) fun a hF =>
      ls <| q1 hF rfl (e_move hF rfl) fun a hF =>
      ls <| c1 hF rfl Try.call11 (image_c _ _ _ _ (hm.mono (hS.hs _ (.head _))) hi _ _ _ (hS.rdO (.head _)) (by omega)) ⟨rfl, rfl, trivial⟩ (fun v w a hR hF => ?_)
    rcases hR with ⟨hno, -, -⟩ | ⟨hyes, oai, cai, rfl, hfr⟩
    · exact absurd hok hno
    replace hS := hS.fresh hfr
    clear hfr
    have hil := imgUp_len m cut (nlines m)
    refine ls <| q1 hF rfl (e_move hF rfl) fun a hF =>
      ls <| q1 hF rfl (e_ext hF rfl rfl) fun a hF =>
      ls <| q1 hF rfl (e_ext hF rfl rfl) fun a hF =>
      ls <| q1 hF rfl (e_asg hF rfl) fun a hF =>
      ls <| q1 hF rfl (e_asg hF rfl) fun a hF =>
      re <| tn <| ?_
    refine th <| rg <| ls <| a_alloc hF rfl hS Try.zeroValue64 rfl fun bk w a hS hF => ?_
    replace hS := hS.blkSl (n := 20) (xs := ints (List.replicate 20 0)) .head rfl (by unfold maxLen; omega)
    refine re <| tn <| ?_
    refine th <| rg <| ls <| q1 hF rfl (e_slArr hF und64 Try.sizeOf3 rfl) fun a hF =>
      ls <| q1 hF rfl (e_move hF rfl) fun a hF =>
      ls <| cp (e := 3) hF rfl hS Try.underlying26 size3 rfl rfl (by omega) .head (by simp only [ints_len]; omega) (hS.rdO (.tail _ (.head _))) (ints_one _) fun w a hS hF => ?_
    rw [ints_cp, show m.kept.length = (imgUp m cut (nlines m)).length by omega, pad_cp (by omega)] at hS
    rw [imgUp_len] at hS
    replace hS := hS.slBlk .head
    refine re <| tn <| ?_
    refine th <| rg <| ls <| q1 hF rfl (e_move hF rfl) fun a hF =>
      ls <| q1 hF rfl (e_ldA (vs := ints (pad (imgUp m cut (nlines m))).1) hF Try.isAgg64 Try.sizeOf64 rfl (by simp only [ints_len, (pad _).2]) ((St.ld hS).cellsB (.head _))) fun a hF =>
      ls <| q1 hF rfl (e_lookV (k := pad (imgUp m cut (nlines m))) hF keyK und61 zero4 ((St.ld hS).ok _ (.tail _ (.tail _ (.tail _ (.head _))))) rfl rfl (mval_had _ _)) fun a hF =>
      ls <| q1 hF rfl (e_not hF rfl) fun a hF =>
      re <| tn <| ?_
    refine cs hF rfl (fun hb => ?_) (fun hb => ?_)
    ·
      replace hb := bnt hb
      replace hb := of_decide_eq_false hb
      refine th <| rg <| ls <| q1 hF rfl (e_move hF rfl) fun a hF =>
        ls <| q1 hF rfl (e_ldA (vs := ints (pad (imgUp m cut (nlines m))).1) hF Try.isAgg64 Try.sizeOf64 rfl (by simp only [ints_len, (pad _).2]) ((St.ld hS).cellsB (.head _))) fun a hF =>
        ls <| mp_upd (kv := kA 20) (k := pad (imgUp m cut (nlines m))) hF hS keyK und61 rfl rfl rfl (.tail (.tail (.tail .head))) fun w hS => ?_
      rw [mput_had hb] at hS
      refine re <| tn <| ?_
      refine rg <| ls <| q1 hF rfl (e_move hF rfl) fun a hF =>
        ls <| q1 hF rfl (e_move hF rfl) fun a hF =>
        ls <| c1 hF rfl Try.call32 (cloneI _ _ _ cut (hS.rdO (.tail _ (.tail _ (.head _)))) (by omega)) ⟨rfl, trivial⟩ (fun v w a hR hF => ?_)
      obtain ⟨oac, cac, rfl, hfr⟩ := hR
      replace hS := hS.fresh hfr
      clear hfr
      refine ls <| a_bsl (e := 26) (sz := 1) (rowsV [⟨oac, cac, cut⟩]) hF rfl hS rfl rfl rfl (fun w => by kernel_rfl) fun b w a hS hF => ?_
      refine ls <| apI hF rfl hS Try.underlying28 info26 rfl (by decide) rfl rfl (.tail _ (.tail _ (.tail _ (.tail _ (.tail _ (.tail _ (.head _))))))) (rowsV_len [⟨oac, cac, cut⟩]) (hS.rdO (.head _)) (rowsV_one [⟨oac, cac, cut⟩]) (by omega) (by unfold maxLen; omega) fun oo2 co2 w a hU hF => ?_
      replace hS := hU _ (.tail (.tail (.tail (.tail (.tail (.tail .head))))))
      clear hU
      rw [rowsV_app, show rows.length + 1 = (rows ++ [(⟨oac, cac, cut⟩ : Row)]).length by simp] at hS
      rw [show rows.length + 1 = (rows ++ [(⟨oac, cac, cut⟩ : Row)]).length by simp] at hF
      refine ls <| q1 hF rfl (e_asg hF rfl) fun a hF =>
        re <| bn <| tn <| ?_
      refine rg <| ls <| q1 hF rfl (e_move hF rfl) fun a hF =>
        ls <| q1 hF rfl (e_move hF rfl) fun a hF =>
        ls <| c1 hF rfl Try.call31 (next_c _ _ _ _ (hm.mono (hS.hs _ (.head _))) hi _ _ _ (hS.rdO (.tail _ (.tail _ (.tail _ (.tail _ (.head _)))))) (by omega) hok.pos) ⟨rfl, rfl, trivial⟩ (fun v w a hR hF => ?_)
      rcases hR with ⟨hnn, rfl, hk⟩ | ⟨c2, oan, can, hnn, hlen, rfl, hfr⟩
      ·
        replace hS := hS.pass hk
        clear hk
        replace hS := hS.nilS 3 1
        refine ls <| q1 hF rfl (e_move hF rfl) fun a hF =>
          ls <| q1 hF rfl (e_ext hF rfl rfl) fun a hF =>
          ls <| q1 hF rfl (e_ext hF rfl rfl) fun a hF =>
          ls <| q1 hF rfl (e_asg hF rfl) fun a hF =>
          ls <| q1 hF rfl (e_asg hF rfl) fun a hF =>
          re <| tn <| ?_
        replace hS := hS.bigPush (f := rowA) (x := ⟨oac, cac, cut⟩) (.tail (.tail .head)) (.tail (.tail (.tail (.tail (.tail (.tail (.tail .head)))))))
        have hst := cutStep_new (m := m) (rows := rows) (oa := oac) (cap := cac) (b := clk) hb
        replace hS := hS.pickL (.cons .head (.cons (.tail (.tail (.tail (.tail .head)))) (.cons (.tail (.tail (.tail (.tail .head)))) (.cons (.tail (.tail (.tail (.tail .head)))) .nil))))
        have hf2 := fold_none hok hfold hnn
        rw [hst] at hf2
        exact ⟨(false, none, 0, [], (had ++ [(pad (imgUp m cut (nlines m)), clk)]), (mclk (pad (imgUp m cut (nlines m))) clk (hadE had)), oo2, co2, (rows ++ [(⟨oac, cac, cut⟩ : Row)])), ⟨hF.has ⟨rfl, rfl, rfl, rfl, rfl, trivial⟩, hS, by rw [if_neg (by decide)]; exact hf2⟩, (by dsimp only; rw [if_neg (by decide), if_pos rfl]; omega)⟩
      ·
        rw [← hlen] at hF hfr
        replace hS := hS.fresh hfr
        clear hfr
        refine ls <| q1 hF rfl (e_move hF rfl) fun a hF =>
          ls <| q1 hF rfl (e_ext hF rfl rfl) fun a hF =>
          ls <| q1 hF rfl (e_ext hF rfl rfl) fun a hF =>
          ls <| q1 hF rfl (e_asg hF rfl) fun a hF =>
          ls <| q1 hF rfl (e_asg hF rfl) fun a hF =>
          re <| tn <| ?_
        replace hS := hS.bigPush (f := rowA) (x := ⟨oac, cac, cut⟩) (.tail (.tail .head)) (.tail (.tail (.tail (.tail (.tail (.tail (.tail .head)))))))
        have hst := cutStep_new (m := m) (rows := rows) (oa := oac) (cap := cac) (b := clk) hb
        replace hS := hS.pickL (.cons .head (.cons (.tail (.tail (.tail (.tail .head)))) (.cons (.tail (.tail (.tail (.tail .head)))) (.cons (.tail (.tail (.tail (.tail .head)))) .nil))))
        have hf2 := fold_some hok hfold hnn
        rw [hst] at hf2
        obtain ⟨hok2, hrk⟩ := hok.next hnn
        have hlt2 := hok2.lt
        exact ⟨(true, oan, can, c2, (had ++ [(pad (imgUp m cut (nlines m)), clk)]), (mclk (pad (imgUp m cut (nlines m))) clk (hadE had)), oo2, co2, (rows ++ [(⟨oac, cac, cut⟩ : Row)])), ⟨hF.has ⟨rfl, rfl, rfl, rfl, rfl, trivial⟩, hS, by rw [if_pos rfl]; exact ⟨hok2, by (try rw [List.length_append, List.length_singleton]); omega, hf2⟩⟩, (by dsimp only; rw [if_pos rfl, if_pos rfl]; omega)⟩
    ·
      replace hb := bnf hb
      replace hb := of_decide_eq_true hb
      refine wk <| bn <| tn <| ?_
      refine rg <| ls <| q1 hF rfl (e_move hF rfl) fun a hF =>
        ls <| q1 hF rfl (e_move hF rfl) fun a hF =>
        ls <| c1 hF rfl Try.call31 (next_c _ _ _ _ (hm.mono (hS.hs _ (.head _))) hi _ _ _ (hS.rdO (.tail _ (.tail _ (.head _)))) (by omega) hok.pos) ⟨rfl, rfl, trivial⟩ (fun v w a hR hF => ?_)
      rcases hR with ⟨hnn, rfl, hk⟩ | ⟨c2, oan, can, hnn, hlen, rfl, hfr⟩
      ·
        replace hS := hS.pass hk
        clear hk
        replace hS := hS.nilS 3 1
        refine ls <| q1 hF rfl (e_move hF rfl) fun a hF =>
          ls <| q1 hF rfl (e_ext hF rfl rfl) fun a hF =>
          ls <| q1 hF rfl (e_ext hF rfl rfl) fun a hF =>
          ls <| q1 hF rfl (e_asg hF rfl) fun a hF =>
          ls <| q1 hF rfl (e_asg hF rfl) fun a hF =>
          re <| tn <| ?_
        have hst := cutStep_old (m := m) (rows := rows) hb
        replace hS := hS.pickL (.cons .head (.cons (.tail (.tail (.tail .head))) (.cons (.tail (.tail (.tail .head))) (.cons (.tail (.tail (.tail .head))) .nil))))
        have hf2 := fold_none hok hfold hnn
        rw [hst] at hf2
        exact ⟨(false, none, 0, [], had, clk, oo, co, rows), ⟨hF.has ⟨rfl, rfl, rfl, rfl, rfl, trivial⟩, hS, by rw [if_neg (by decide)]; exact hf2⟩, (by dsimp only; rw [if_neg (by decide), if_pos rfl]; omega)⟩
      ·
        rw [← hlen] at hF hfr
        replace hS := hS.fresh hfr
        clear hfr
        refine ls <| q1 hF rfl (e_move hF rfl) fun a hF =>
          ls <| q1 hF rfl (e_ext hF rfl rfl) fun a hF =>
          ls <| q1 hF rfl (e_ext hF rfl rfl) fun a hF =>
          ls <| q1 hF rfl (e_asg hF rfl) fun a hF =>
          ls <| q1 hF rfl (e_asg hF rfl) fun a hF =>
          re <| tn <| ?_
        have hst := cutStep_old (m := m) (rows := rows) hb
        replace hS := hS.pickL (.cons .head (.cons (.tail (.tail (.tail .head))) (.cons (.tail (.tail (.tail .head))) (.cons (.tail (.tail (.tail .head))) .nil))))
        have hf2 := fold_some hok hfold hnn
        rw [hst] at hf2
        obtain ⟨hok2, hrk⟩ := hok.next hnn
        have hlt2 := hok2.lt
        exact ⟨(true, oan, can, c2, had, clk, oo, co, rows), ⟨hF.has ⟨rfl, rfl, rfl, rfl, rfl, trivial⟩, hS, by rw [if_pos rfl]; exact ⟨hok2, by (try rw [List.length_append, List.length_singleton]); omega, hf2⟩⟩, (by dsimp only; rw [if_pos rfl, if_pos rfl]; omega)⟩
  ·
    refine we <| tx <| tx <| bx <| tn <| ?_
    refine th <| rg <| ls <| q1 hF rfl (e_move hF rfl) fun a hF =>
      ls <| q1 hF rfl (e_asg hF rfl) fun a hF =>
      re <| tn <| ?_
    refine wr <| ?_
    subst hb
    rw [if_neg (by decide)] at hinv
    exact r1 hF Try.results10 rfl ⟨_, _, rows, rfl, hinv, (hS.pickL (.cons (.tail (.tail .head)) (.cons (.tail (.tail .head)) .nil))).endFreshL⟩

end Go.LL
