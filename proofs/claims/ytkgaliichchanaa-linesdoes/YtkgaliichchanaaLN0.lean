/- The memory of the layer of lines, as the walks read it. No condition: definitions and plain lemmas. -/
import Derived.Test.YtkgaliichchanaaLLf
import Derived.Test.YtkgaliichchanaaLM
import Derived.Test.YtkgaliichchanaaProg
import Derived.KernelRfl
namespace Go.LL
open Go Go.Proofs

theorem wide : Try.prog.follows .mixedOrders = true := by kernel_rfl
theorem info3 : (Try.prog.info? 3).map (fun i => (i.zero, i.size, i.bytes)) = some (some (.int .i64 0), 1, 8) := by kernel_rfl
theorem info26 : (Try.prog.info? 26).map (fun i => (i.zero, i.size, i.bytes)) = some (some (.slice none 0 0), 1, 24) := by kernel_rfl
theorem info67 : (Try.prog.info? 67).map (fun i => (i.zero, i.size, i.bytes)) = some (some (.agg #[.int .i64 0, .int .i64 0]), 2, 16) := by kernel_rfl

theorem size3 : (Try.prog.info? 3).map (·.size) = some 1 := by kernel_rfl

def wcell (x : Int × Int) : List Value := [.int .i64 x.1, .int .i64 x.2]
def wcells (l : List (Int × Int)) : List Value := l.flatMap wcell
theorem wcell_len (x : Int × Int) : (wcell x).length = 2 := rfl
theorem wcells_len (l : List (Int × Int)) : (wcells l).length = l.length * 2 := flat_len wcell_len l
theorem wcells_ne {l : List (Int × Int)} (h : 0 < l.length) : wcells l ≠ [] := flat_ne wcell_len (by omega) h
theorem wcells_sub {l : List (Int × Int)} {k : Nat} (h : k < l.length) : ∀ (j : Nat) (v : Value), [Value.int .i64 l[k].1, .int .i64 l[k].2][j]? = some v → (wcells l)[k * 2 + j]? = some v := flat_sub wcell_len h
theorem wcells_app (l m : List (Int × Int)) : wcells l ++ wcells m = wcells (l ++ m) := by simp [wcells]
theorem wcells_one (l : List (Int × Int)) : ∀ v ∈ wcells l, v.oneCell' = true := by
  intro v hv
  obtain ⟨x, _, hx⟩ := List.mem_flatMap.1 hv
  simp [wcell] at hx
  rcases hx with rfl | rfl <;> rfl

abbrev kI : Int → Value := fun n => .int .i64 n

structure MS where
  of : List Int
  firsts : List Int
  l : List Int
  kept : List Int
  pend : Int → List (Int × Int)

structure PE where
  oa : Option Addr
  cap : Nat
  ws : List (Int × Int)
def PE.v (e : PE) : Value := .slice e.oa e.ws.length e.cap

structure MG where
  oo : Option Addr
  fo : Option Addr
  lo : Option Addr
  ko : Option Addr
  co : Nat
  cf : Nat
  cl : Nat
  ck : Nat
  mb : Nat
  clk : Nat
  pm : List (Int × PE × Nat)

def pmV (pm : List (Int × PE × Nat)) : List (Int × Value × Nat) := pm.map fun x => (x.1, x.2.1.v, x.2.2)
def pget (k : Int) : List (Int × PE × Nat) → Option PE
  | [] => none
  | x :: r => if k = x.1 then some x.2.1 else pget k r
def pws (k : Int) (pm : List (Int × PE × Nat)) : List (Int × Int) := match pget k pm with | some e => e.ws | none => []

theorem mval_pmV (k : Int) (pm : List (Int × PE × Nat)) : mval k (pmV pm) = (pget k pm).map PE.v := by
  induction pm with
  | nil => rfl
  | cons x r ih =>
    have ih' : mval k (r.map fun x => (x.1, x.2.1.v, x.2.2)) = (pget k r).map PE.v := ih
    simp only [pmV, List.map_cons, mval, pget, ih']
    split <;> rfl

theorem pget_mem {k : Int} {pm : List (Int × PE × Nat)} {e : PE} (h : pget k pm = some e) : ∃ x ∈ pm, x.1 = k ∧ x.2.1 = e := by
  induction pm with
  | nil => cases h
  | cons x r ih =>
    simp only [pget] at h
    by_cases e1 : k = x.1
    · rw [if_pos e1] at h; simp at h; exact ⟨x, .head _, e1.symm, h⟩
    · rw [if_neg e1] at h; obtain ⟨y, hy, h⟩ := ih h; exact ⟨y, .tail _ hy, h⟩

def memCells (g : MG) (m : MS) : Array Value := #[.slice g.oo m.of.length g.co, .slice g.fo m.firsts.length g.cf, .slice g.lo m.l.length g.cl, .slice g.ko m.kept.length g.ck, .map (some g.mb)]

/-- a memory, as it is read -/
structure MemR (h : PH) (p : Nat) (g : MG) (m : MS) : Prop where
  blk : h p = some (.cells #[.slice g.oo m.of.length g.co, .slice g.fo m.firsts.length g.cf, .slice g.lo m.l.length g.cl, .slice g.ko m.kept.length g.ck, .map (some g.mb)] 60 (0, 0))
  of : Rd h g.oo (ints m.of)
  firsts : Rd h g.fo (ints m.firsts)
  l : Rd h g.lo (ints m.l)
  kept : Rd h g.ko (ints m.kept)
  map : h g.mb = some (.map ((pmV g.pm).map (toE kI)).toArray g.clk)
  ents : ∀ x ∈ g.pm, Rd h x.2.1.oa (wcells x.2.1.ws) ∧ x.2.1.ws.length ≤ x.2.1.cap
  pend : ∀ k, m.pend k = pws k g.pm

theorem MemR.look {h : PH} {p : Nat} {g : MG} {m : MS} (hm : MemR h p g m) (k : Int) : ∃ oa c, (mval k (pmV g.pm)).getD (.slice none 0 0) = .slice oa (m.pend k).length c ∧ Rd h oa (wcells (m.pend k)) ∧ (m.pend k).length ≤ c := by
  rw [mval_pmV, hm.pend, pws]
  cases hg : pget k g.pm with
  | none => exact ⟨none, 0, rfl, Rd.nil h none, Nat.le_refl _⟩
  | some e =>
    obtain ⟨x, hx, _, rfl⟩ := pget_mem hg
    exact ⟨x.2.1.oa, x.2.1.cap, rfl, hm.ents x hx⟩

theorem MemR.mono {h h' : PH} {p : Nat} {g : MG} {m : MS} (hm : MemR h p g m) (hl : ∀ b o, h b = some o → h' b = some o) : MemR h' p g m :=
  ⟨hl _ _ hm.blk, hm.of.mono hl, hm.firsts.mono hl, hm.l.mono hl, hm.kept.mono hl, hl _ _ hm.map, fun x hx => ⟨(hm.ents x hx).1.mono hl, (hm.ents x hx).2⟩, hm.pend⟩

/-! ### which lines may be -/
def ofChk (last : Int) (first : Bool) : List Int → Bool
  | [] => true
  | n :: r => (decide (n = last + 1) || (!first && decide (n = last))) && ofChk n false r

def nlines (m : MS) : Nat := match m.of.getLast? with | some n => (n + 1).toNat | none => 0

theorem ofChk_ge {l : List Int} : ∀ {last : Int} {b : Bool}, ofChk last b l = true → ∀ n ∈ l, (last ≤ n ∧ (b = true → last + 1 ≤ n)) ∧ n ≤ last + l.length := by
  induction l with
  | nil => intro _ _ _ n hn; cases hn
  | cons x r ih =>
    intro last b h n hn
    simp only [ofChk, Bool.and_eq_true, Bool.or_eq_true, decide_eq_true_eq, Bool.not_eq_eq_eq_not, Bool.not_true] at h
    obtain ⟨h1, h2⟩ := h
    have hx : last ≤ x ∧ (b = true → last + 1 ≤ x) ∧ x ≤ last + 1 := by
      rcases h1 with h1 | ⟨h1, h3⟩
      · omega
      · subst h1; subst h3; simp; omega
    rcases List.mem_cons.1 hn with rfl | hn
    · simp only [List.length_cons]
      exact ⟨⟨hx.1, hx.2.1⟩, by push_cast; omega⟩
    · have := ih h2 n hn
      simp only [List.length_cons]
      refine ⟨⟨by omega, fun hb => by have := hx.2.1 hb; omega⟩, by push_cast; omega⟩

structure MInv (m : MS) : Prop where
  chk : ofChk (-1) true m.of = true
  len1 : m.kept.length = m.of.length
  len2 : m.l.length = m.firsts.length
  len3 : m.of.length ≤ m.firsts.length
  len4 : m.firsts.length ≤ 20
  pend : ∀ k x, x ∈ m.pend k → 0 ≤ x.1 ∧ x.1 < m.kept.length
  few : ∀ k, (m.pend k).length ≤ 1000000

theorem MInv.ofB {m : MS} (h : MInv m) {n : Int} (hn : n ∈ m.of) : 0 ≤ n ∧ n < 20 := by
  have := ofChk_ge h.chk n hn
  have h1 := this.1.2 rfl
  have := h.len3; have := h.len4
  omega

theorem MInv.last {m : MS} (h : MInv m) (hk : 0 < m.of.length) : (nlines m : Int) = m.of[m.of.length - 1] + 1 := by
  have h1 := h.ofB (List.getElem_mem (show m.of.length - 1 < m.of.length by omega))
  unfold nlines
  rw [List.getLast?_eq_getElem?, List.getElem?_eq_getElem (by omega)]
  simp only []
  omega

theorem MInv.nl {m : MS} (h : MInv m) : nlines m ≤ 20 := by
  by_cases hk : 0 < m.of.length
  · have := h.last hk
    have h1 := h.ofB (List.getElem_mem (show m.of.length - 1 < m.of.length by omega))
    omega
  · have : m.of = [] := List.eq_nil_of_length_eq_zero (by omega)
    simp [nlines, this]

/-! ### what the calls make -/
def pendL (m : MS) (k : Nat) : List Int := (List.range k).map fun i : Nat => ((m.pend (i : Int)).length : Int)
theorem pendL_succ (m : MS) (k : Nat) : pendL m k ++ [((m.pend (k : Int)).length : Int)] = pendL m (k + 1) := by simp [pendL, List.range_succ]
theorem pendL_len (m : MS) (k : Nat) : (pendL m k).length = k := by simp [pendL]

def applyW (ws : List (Int × Int)) (l : List Int) : List Int := ws.foldl (fun l x => l.set x.1.toNat x.2) l
theorem applyW_len (ws : List (Int × Int)) (l : List Int) : (applyW ws l).length = l.length := by
  induction ws generalizing l with
  | nil => rfl
  | cons x r ih => show (applyW r _).length = _; rw [ih]; simp
theorem applyW_snoc (ws : List (Int × Int)) (x : Int × Int) (l : List Int) : applyW (ws ++ [x]) l = (applyW ws l).set x.1.toNat x.2 := by simp [applyW, List.foldl_append]
theorem applyW_take {ws : List (Int × Int)} {j : Nat} (h : j < ws.length) (l : List Int) : applyW (ws.take (j + 1)) l = (applyW (ws.take j) l).set ws[j].1.toNat ws[j].2 := by
  rw [List.take_succ_eq_append_getElem h, applyW_snoc]

def imgUp (m : MS) (cut : List Int) : Nat → List Int
  | 0 => m.kept
  | k + 1 => applyW ((m.pend (k : Int)).take (cut.getD k 0).toNat) (imgUp m cut k)
theorem imgUp_len (m : MS) (cut : List Int) (k : Nat) : (imgUp m cut k).length = m.kept.length := by
  induction k with
  | zero => rfl
  | succ k ih => rw [imgUp, applyW_len, ih]

/-- a cut that may be -/
def cutOk (m : MS) (cut : List Int) : Prop := cut.length = nlines m ∧ ∀ i (h : i < cut.length), 0 ≤ cut[i] ∧ cut[i] ≤ ((m.pend (i : Int)).length : Int)

theorem getD_of_lt {l : List Int} {k : Nat} (h : k < l.length) : l.getD k 0 = l[k] := by simp [List.getD, h]

/-! ### a memory that is owned -/
def pmA (x : Int × PE × Nat) : HA := sla 67 2 x.2.1.oa x.2.1.ws.length x.2.1.cap (wcells x.2.1.ws)

def memL (p : Nat) (g : MG) (m : MS) : List HA :=
  [blk p (.cells #[.slice g.oo m.of.length g.co, .slice g.fo m.firsts.length g.cf, .slice g.lo m.l.length g.cl, .slice g.ko m.kept.length g.ck, .map (some g.mb)] 60 (0, 0)),
   sla 3 1 g.lo m.l.length g.cl (ints m.l), sla 3 1 g.ko m.kept.length g.ck (ints m.kept), imap kI g.mb (pmV g.pm) g.clk, bigA pmA g.pm]
def memA (p : Nat) (g : MG) (m : MS) : HA := sepA (memL p g m)

/-- what a memory shares with others, and what its ghost is -/
structure MemF (h : PH) (g : MG) (m : MS) : Prop where
  of : Rd h g.oo (ints m.of)
  firsts : Rd h g.fo (ints m.firsts)
  pend : ∀ k, m.pend k = pws k g.pm
  dis : mdis (pmV g.pm)
  good : Go.LM.MGood (pmV g.pm) g.clk

theorem SlOk.cap {e : TypeId} {sz : Nat} {oa : Option Addr} {n cap : Nat} {xs : List Value} {h : PH} (ho : SlOk e sz (.slice oa n cap) n xs h) : n ≤ cap := by
  obtain ⟨_, hn | ⟨g, cap', cur, hv, _, hnc, _⟩⟩ := ho
  · omega
  · simp only [Value.slice.injEq] at hv; omega

theorem memA_read {w : World} {h : PH} {p : Nat} {g : MG} {m : MS} (ho : (memA p g m).ok (hp w)) (hl : h.le w) (hf : MemF h g m) : MemR (hp w) p g m := by
  have h1 := (sepA_ok.1 ho).1
  refine ⟨h1 (blk p _) (.head _), hf.of.up hl, hf.firsts.up hl, SlOk.rd (h1 (sla 3 1 g.lo m.l.length g.cl (ints m.l)) (.tail _ (.head _))), SlOk.rd (h1 (sla 3 1 g.ko m.kept.length g.ck (ints m.kept)) (.tail _ (.tail _ (.head _)))),
    h1 (imap kI g.mb (pmV g.pm) g.clk) (.tail _ (.tail _ (.tail _ (.head _)))), fun x hx => ?_, hf.pend⟩
  have h2 : (bigA pmA g.pm).ok (hp w) := h1 _ (.tail _ (.tail _ (.tail _ (.tail _ (.head _)))))
  have h3 : SlOk 67 2 (.slice x.2.1.oa x.2.1.ws.length x.2.1.cap) x.2.1.ws.length (wcells x.2.1.ws) (hp w) := h2.1 x hx
  exact ⟨SlOk.rd h3, SlOk.cap h3⟩

def pset (k : Int) (e : PE) : List (Int × PE × Nat) → List (Int × PE × Nat)
  | [] => []
  | x :: r => if k = x.1 then (x.1, e, x.2.2) :: r else x :: pset k e r
def perase (k : Int) : List (Int × PE × Nat) → List (Int × PE × Nat)
  | [] => []
  | x :: r => if k = x.1 then r else x :: perase k r
def pput (k : Int) (e : PE) (c : Nat) (l : List (Int × PE × Nat)) : List (Int × PE × Nat) := if (pget k l).isSome then pset k e l else l ++ [(k, e, c)]

theorem pmV_set (k : Int) (e : PE) (l : List (Int × PE × Nat)) : pmV (pset k e l) = mset k e.v (pmV l) := by
  induction l with
  | nil => rfl
  | cons x r ih =>
    have ih' : (pset k e r).map (fun x => (x.1, x.2.1.v, x.2.2)) = mset k e.v (pmV r) := ih
    simp only [pset, pmV, List.map_cons, mset]
    split
    · simp
    · simp only [List.map_cons, ih']; rfl
theorem pmV_erase (k : Int) (l : List (Int × PE × Nat)) : pmV (perase k l) = merase k (pmV l) := by
  induction l with
  | nil => rfl
  | cons x r ih =>
    have ih' : (perase k r).map (fun x => (x.1, x.2.1.v, x.2.2)) = merase k (pmV r) := ih
    simp only [perase, pmV, List.map_cons, merase]
    split
    · rfl
    · simp only [List.map_cons, ih']; rfl
theorem pmV_put (k : Int) (e : PE) (c : Nat) (l : List (Int × PE × Nat)) : pmV (pput k e c l) = mput k e.v c (pmV l) := by
  unfold pput mput
  rw [mval_pmV]
  cases h : pget k l with
  | none => simp [pmV]
  | some x => simp [pmV_set]
theorem perase_sub (k : Int) (l : List (Int × PE × Nat)) : (perase k l).Sublist l := by
  induction l with
  | nil => exact .slnil
  | cons x r ih => simp only [perase]; split <;> first | exact List.sublist_cons_self _ _ | exact ih.cons_cons _

theorem pget_some {k : Int} {l : List (Int × PE × Nat)} {e : PE} (h : pget k l = some e) : ∃ l1 l2 b, l = l1 ++ (k, e, b) :: l2 ∧ ∀ e', pset k e' l = l1 ++ (k, e', b) :: l2 := by
  induction l with
  | nil => cases h
  | cons x r ih =>
    simp only [pget] at h
    by_cases e1 : k = x.1
    · rw [if_pos e1] at h; simp at h
      refine ⟨[], r, x.2.2, ?_, fun e' => ?_⟩
      · simp [← h, e1]
      · simp [pset, e1]
    · rw [if_neg e1] at h
      obtain ⟨l1, l2, b, rfl, h2⟩ := ih h
      exact ⟨x :: l1, l2, b, rfl, fun e' => by simp [pset, e1, h2]⟩

theorem pws_put (k k' : Int) (e : PE) (c : Nat) (l : List (Int × PE × Nat)) : pws k' (pput k e c l) = if k' = k then e.ws else pws k' l := by
  have key : ∀ l : List (Int × PE × Nat), pget k' (pset k e l) = if k' = k then (pget k l).map (fun _ => e) else pget k' l := by
    intro l
    induction l with
    | nil => simp [pset, pget]
    | cons x r ih =>
      simp only [pset, pget]
      by_cases e1 : k = x.1
      · rw [if_pos e1]; simp only [pget]
        by_cases e2 : k' = x.1
        · simp [e1, e2]
        · have : ¬ k' = k := fun h => e2 (h.trans e1)
          simp [e2, this]
      · rw [if_neg e1]; simp only [pget, ih]
        by_cases e2 : k' = x.1
        · have : ¬ k' = k := fun h => e1 (h.symm.trans e2)
          simp [e2]
          intro h; exact absurd h.symm e1
        · simp [e2, e1]
  have key2 : ∀ l : List (Int × PE × Nat), pget k' (l ++ [(k, e, c)]) = (pget k' l).or (if k' = k then some e else none) := by
    intro l
    induction l with
    | nil => simp [pget]
    | cons x r ih => simp only [List.cons_append, pget, ih]; split <;> simp
  unfold pws pput
  cases h : pget k l with
  | none =>
    simp only [Option.isSome_none, Bool.false_eq_true, if_false, key2]
    by_cases e1 : k' = k
    · subst e1; simp [h]
    · simp [e1]
  | some x =>
    simp only [Option.isSome_some, if_true, key, h]
    by_cases e1 : k' = k
    · simp [e1]
    · simp [e1]

theorem pws_erase {k k' : Int} {l : List (Int × PE × Nat)} (h : mdis (pmV l)) : pws k' (perase k l) = if k' = k then [] else pws k' l := by
  have h1 : mval k' (pmV (perase k l)) = if k' = k then none else mval k' (pmV l) := by rw [pmV_erase, mval_erase h]
  rw [mval_pmV, mval_pmV] at h1
  unfold pws
  by_cases e : k' = k
  · rw [if_pos e] at h1 ⊢
    have : pget k' (perase k l) = none := by simpa using h1
    rw [this]
  · rw [if_neg e] at h1 ⊢
    cases ha : pget k' (perase k l) with
    | none => rw [ha] at h1; have : pget k' l = none := by simpa using h1.symm
              rw [this]
    | some x =>
      -- the very entry
      have key : ∀ l : List (Int × PE × Nat), pget k' (perase k l) = pget k' l := by
        intro l
        induction l with
        | nil => rfl
        | cons y r ih =>
          simp only [perase]
          by_cases e1 : k = y.1
          · rw [if_pos e1]; simp only [pget]; rw [if_neg (fun h => e (h.trans e1.symm))]
          · rw [if_neg e1]; simp only [pget, ih]
      rw [← key, ha]

section
variable {ops : Array Oper} {Q : Exit → Act → World → Prop} {a : Act} {w : World} {N : FN} {F : List (Nat × Value)}
  {w0 : World} {M : Nat → Prop} {Hs : List PH} {L L' : List HA} {K : Act → World → Prop}
  {d : Nat} {ty : TypeId} {pos : String} {af : Array Edge}
/-- one write more behind those of a line -/
theorem apLine {x y : Operand} {oa ob : Option Addr} {n cap c : Nat} {pm : List (Int × PE × Nat)} {k : Int} {clk : Nat} {wr : Int × Int} (hF : Fr N F a) (hN : Nat.blt d N.n = true) (hS : St w0 M Hs L w)
    (hx : opv F x = some (.slice oa n cap)) (hlook : (mval k (pmV pm)).getD (.slice none 0 0) = .slice oa n cap) (hy : opv F y = some (.slice ob 1 c)) (hmem : bigA pmA pm ∈ L)
    (hrd : Rd (hp w) ob (wcells [wr])) (hn : n ≤ 1000000)
    (kk : ∀ e : PE, e.ws = pws k pm ++ [wr] → e.ws.length = n + 1 → ∀ w a, (∀ L', Repl (bigA pmA pm) (bigA pmA (pput k e clk pm)) L L' → St w0 M Hs L' w) → Fr N ((d, e.v) :: F) a → K a w) :
    stp Try.prog ops Q ⟨some d, .call ⟨.builtin .append, #[x, y], #[57, 57]⟩, ty, pos, af, none⟩ a w K := by
  have hbig : (bigA pmA pm).ok (hp w) := hS.ok _ hmem
  rw [mval_pmV] at hlook
  obtain ⟨i, hi, hzz⟩ := Option.map_eq_some_iff.1 info67
  simp only [Prod.mk.injEq] at hzz
  obtain ⟨hz, hs, hby⟩ := hzz
  cases hg : pget k pm with
  | none =>
    rw [hg] at hlook
    simp only [Option.map_none, Option.getD_none, Value.slice.injEq] at hlook
    obtain ⟨rfl, rfl, rfl⟩ := hlook
    obtain ⟨oa', cap', w', hr, hok, hk, hf⟩ := run_ap (P := Try.prog) (ty := ty) (w := w) (oa := none) (n := 0) (cap := 0) (xs := []) (ob := ob) (m := 1) (c := c) (ys := wcells [wr]) Try.underlying57 hi hz hs rfl (by decide) ⟨by simp, .inl ⟨rfl, rfl⟩⟩ rfl hrd.some
      (fun j u hj => by rw [← cell_hp]; exact hrd.cell j u hj) (wcells_one _) (by rw [hby]; omega) (by unfold maxLen; omega)
    have hk' : Keep Nil w w' := hk.mono (fun b hb => by simp [slBlock] at hb)
    refine m1 (w' := w') hF hN (v := .slice oa' (0 + 1) cap') ?_ fun a hF => kk ⟨oa', cap', [wr]⟩ (by simp [pws, hg]) rfl w' a (fun L' hrep => ?_) hF
    · simp [execOp, resolve, invoke, builtin, hF.ev hx, hF.ev hy, hr]
    · have e1 : pput k ⟨oa', cap', [wr]⟩ clk pm = pm ++ [(k, ⟨oa', cap', [wr]⟩, clk)] := by simp [pput, hg]
      rw [e1] at hrep
      have hfn : ∀ b, (pmA (k, (⟨oa', cap', [wr]⟩ : PE), clk)).fp b → w.heap.size ≤ b := fun b hb => by
        rcases hf b hb with h | h
        · simp [slBlock] at h
        · exact h
      refine hS.upd hrep (hk'.mono (fun _ h => h.elim)) (bigA_snoc hbig hk' (by simpa [pmA, sla, sl] using hok) hfn) (fun b hb => ?_)
      obtain ⟨z, hz1, hz2⟩ := hb
      rcases List.mem_append.1 hz1 with h | h
      · exact .inl ⟨z, h, hz2⟩
      · simp at h; subst h; exact .inr (hfn b hz2)
  | some e =>
    rw [hg] at hlook
    simp only [Option.map_some, Option.getD_some, PE.v, Value.slice.injEq] at hlook
    obtain ⟨rfl, rfl, rfl⟩ := hlook
    obtain ⟨l1, l2, b, rfl, hset⟩ := pget_some hg
    have hxo : SlOk 67 2 (.slice e.oa e.ws.length e.cap) e.ws.length (wcells e.ws) (hp w) := hbig.1 (k, e, b) (by simp)
    obtain ⟨oa', cap', w', hr, hok, hk, hf⟩ := run_ap (P := Try.prog) (ty := ty) (w := w) (ob := ob) (m := 1) (c := c) (ys := wcells [wr]) Try.underlying57 hi hz hs rfl (by decide) hxo rfl hrd.some
      (fun j u hj => by rw [← cell_hp]; exact hrd.cell j u hj) (wcells_one _) (by rw [hby]; omega) (by unfold maxLen; omega)
    refine m1 (w' := w') hF hN (v := .slice oa' (e.ws.length + 1) cap') ?_ fun a hF => kk ⟨oa', cap', e.ws ++ [wr]⟩ (by simp [pws, hg]) (by simp) w' a (fun L' hrep => ?_) (by simpa [PE.v] using hF)
    · simp [execOp, resolve, invoke, builtin, hF.ev hx, hF.ev hy, hr]
    · have e1 : pput k ⟨oa', cap', e.ws ++ [wr]⟩ clk (l1 ++ (k, e, b) :: l2) = l1 ++ (k, ⟨oa', cap', e.ws ++ [wr]⟩, b) :: l2 := by simp [pput, hg, hset]
      rw [e1] at hrep
      have hok' : (pmA (k, (⟨oa', cap', e.ws ++ [wr]⟩ : PE), b)).ok (hp w') := by
        rw [wcells_app] at hok
        simpa [pmA, sla, sl] using hok
      have hfn : ∀ b', (pmA (k, (⟨oa', cap', e.ws ++ [wr]⟩ : PE), b)).fp b' → (pmA (k, e, b)).fp b' ∨ w.heap.size ≤ b' := fun b' hb => hf b' (by simpa [pmA, sla, sl] using hb)
      refine hS.upd hrep (hk.mono (fun x hx => ⟨(k, e, b), by simp, hx⟩)) (bigA_mid hbig hk hok' hfn) (fun b' hb => ?_)
      obtain ⟨z, hz1, hz2⟩ := hb
      rcases List.mem_append.1 hz1 with h | h
      · exact .inl ⟨z, by simp [h], hz2⟩
      · rcases List.mem_cons.1 h with rfl | h
        · rcases hfn b' hz2 with h | h
          · exact .inl ⟨_, by simp, h⟩
          · exact .inr h
        · exact .inl ⟨z, by simp [h], hz2⟩
end

theorem Lds.rdLine {w : World} {Hs : List PH} {L : List HA} {pm : List (Int × PE × Nat)} {k : Int} {oa : Option Addr} {n c : Nat} (hs : Lds Hs L w) (hm : bigA pmA pm ∈ L)
    (hlook : (mval k (pmV pm)).getD (.slice none 0 0) = .slice oa n c) : Rd (hp w) oa (wcells (pws k pm)) := by
  rw [mval_pmV] at hlook
  unfold pws
  cases hg : pget k pm with
  | none => exact Rd.nil _ _
  | some e =>
    rw [hg] at hlook
    simp only [Option.map_some, Option.getD_some, PE.v, Value.slice.injEq] at hlook
    obtain ⟨rfl, _, _⟩ := hlook
    obtain ⟨x, hx, _, rfl⟩ := pget_mem hg
    have h2 : (bigA pmA pm).ok (hp w) := hs.ok _ hm
    exact SlOk.rd (h2.1 x hx)

theorem Lds.rdPend {w : World} {Hs : List PH} {L : List HA} {pm : List (Int × PE × Nat)} {k : Int} {oa : Option Addr} {n c : Nat} {ws : List (Int × Int)} (hs : Lds Hs L w) (hm : bigA pmA pm ∈ L)
    (hlook : (mval k (pmV pm)).getD (.slice none 0 0) = .slice oa n c) (he : ws = pws k pm) : Rd (hp w) oa (wcells ws) := he ▸ hs.rdLine hm hlook

/-! ### what the calls do -/
def writeM (m : MS) (cell n : Int) : MS :=
  if 0 ≤ cell ∧ cell < m.l.length then
    { m with l := m.l.set cell.toNat n, pend := fun k => if cell < m.of.length ∧ k = m.of.getD cell.toNat 0 then m.pend k ++ [(cell, n)] else m.pend k }
  else m
def outM (m : MS) (line : Int) : MS :=
  if 0 ≤ line ∧ line < nlines m then { m with kept := applyW (m.pend line) m.kept, pend := fun k => if k = line then [] else m.pend k } else m
instance (m : MS) (cut : List Int) : Decidable (cutOk m cut) := inferInstanceAs (Decidable (_ ∧ ∀ i (h : i < cut.length), _ ∧ _))
def crashM (m : MS) (cut : List Int) : MS :=
  if cutOk m cut then { m with l := imgUp m cut (nlines m) ++ m.firsts.drop m.kept.length, kept := imgUp m cut (nlines m), pend := fun _ => [] } else m

theorem MInv.write {m : MS} (h : MInv m) {cell n : Int} (hf : ∀ k, (m.pend k).length < 1000000) : MInv (writeM m cell n) := by
  unfold writeM
  split
  · rename_i hc
    refine ⟨h.chk, h.len1, by simpa using h.len2, h.len3, h.len4, fun k x hx => ?_, fun k => ?_⟩
    · simp only at hx
      split at hx
      · rename_i h2
        rcases List.mem_append.1 hx with hx | hx
        · exact h.pend k x hx
        · simp at hx; subst hx; have := h.len1; simp only; omega
      · exact h.pend k x hx
    · simp only
      split
      · have := hf k; simp; omega
      · exact h.few k
  · exact h
theorem MInv.out {m : MS} (h : MInv m) {line : Int} : MInv (outM m line) := by
  unfold outM
  split
  · refine ⟨h.chk, by simpa [applyW_len] using h.len1, h.len2, h.len3, h.len4, fun k x hx => ?_, fun k => ?_⟩
    · simp only at hx
      split at hx
      · cases hx
      · simpa [applyW_len] using h.pend k x hx
    · simp only
      split
      · simp
      · exact h.few k
  · exact h
theorem MInv.crash {m : MS} (h : MInv m) {cut : List Int} : MInv (crashM m cut) := by
  unfold crashM
  split
  · have h1 := h.len1; have h2 := h.len2; have h3 := h.len3
    exact ⟨h.chk, by simpa [imgUp_len] using h1, by simp [imgUp_len]; omega, h.len3, h.len4, fun k x hx => by simp at hx, fun k => by simp⟩
  · exact h
end Go.LL
