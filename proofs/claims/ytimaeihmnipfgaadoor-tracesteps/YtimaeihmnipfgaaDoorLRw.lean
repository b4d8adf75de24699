/- Slices of slices that the call owns, row by row. No condition: plain lemmas. -/
import Derived.Test.YtimaeihmnipfgaaDoorLM
namespace Go.LM
open Go Go.LL Go.MD
structure RowQ where
  oa : Option Addr
  n : Nat
  cap : Nat
  vs : List Value
abbrev rowA (e : TypeId) (sz : Nat) (q : RowQ) : HA := sla e sz q.oa q.n q.cap q.vs
abbrev rowN : RowQ := ⟨none, 0, 0, []⟩
abbrev rowV (q : RowQ) : Value := .slice q.oa q.n q.cap
inductive NR {α : Type} [Enc α] (h : PH) : List RowQ → List (List α) → Prop
  | nil : NR h [] []
  | cons {q : RowQ} {qs : List RowQ} {x : List α} {e : List (List α)} (hn : q.n = x.length) (hr : Rows h q.vs x) (t : NR h qs e) : NR h (q :: qs) (x :: e)
section
variable {α : Type} [Enc α] {h h' : PH} {qs : List RowQ} {e : List (List α)}
theorem NR.len (hn : NR h qs e) : qs.length = e.length := by
  induction hn with
  | nil => rfl
  | cons _ _ _ ih => rw [List.length_cons, List.length_cons, ih]
theorem NR.mono (hm : ∀ b o, h b = some o → h' b = some o) (hn : NR h qs e) : NR h' qs e := by
  induction hn with
  | nil => exact .nil
  | cons h1 h2 _ ih => exact .cons h1 (h2.mono hm) ih
theorem NR.app {qs' : List RowQ} {e' : List (List α)} (hn : NR h qs e) (hn' : NR h qs' e') : NR h (qs ++ qs') (e ++ e') := by
  induction hn with
  | nil => exact hn'
  | cons h1 h2 _ ih => exact .cons h1 h2 ih
theorem NR.at (hn : NR h qs e) : ∀ {i : Nat} {x : List α}, e[i]? = some x → ∃ oa cap vs, qs[i]? = some ⟨oa, x.length, cap, vs⟩ ∧ Rows h vs x := by
  induction hn with
  | nil => intro i x hx; simp at hx
  | @cons q qs x' e' h1 h2 _ ih =>
    intro i x hx
    cases i with
    | zero =>
      simp only [List.getElem?_cons_zero, Option.some.injEq] at hx
      subst hx
      obtain ⟨oa, n, cap, vs⟩ := q
      cases h1
      exact ⟨oa, cap, vs, rfl, h2⟩
    | succ i => exact ih (i := i) (by simpa using hx)
theorem NR.get (hn : NR h qs e) {i : Int} {x : List α} (hg : getI e i = some x) : ∃ oa cap vs, qs[i.toNat]? = some ⟨oa, x.length, cap, vs⟩ ∧ Rows h vs x := hn.at (getI_some hg).2
theorem NR.set (hn : NR h qs e) : ∀ {i : Nat} {q : RowQ} {x : List α}, q.n = x.length → Rows h q.vs x → NR h (qs.set i q) (e.set i x) := by
  induction hn with
  | nil => intro i q x _ _; exact .nil
  | cons h1 h2 h3 ih =>
    intro i q x k1 k2
    cases i with
    | zero => exact .cons k1 k2 h3
    | succ i => exact .cons h1 h2 (ih k1 k2)
theorem NR.rows (hn : NR h qs e) {ie : TypeId} {sz : Nat} (ho : ∀ q ∈ qs, (rowA ie sz q).ok h) : Rows h (qs.map rowV) e := by
  induction hn with
  | nil => exact .nil
  | @cons q qs x e' h1 h2 _ ih =>
    have hq := ho q (.head _)
    refine .cons (c := [rowV q]) ⟨q.oa, q.cap, by rw [rowV, h1], ?_, q.vs, SlOk.rd hq, h2⟩ (ih fun r hr => ho r (.tail _ hr))
    rw [← h1]; exact SlOk.capLe hq
end

section
variable {P : Program} {ops : Array Oper} {Q : Exit → Act → World → Prop} {a : Act} {w : World} {N : Nat} {F : List (Nat × Value)}
  {w0 : World} {M : Nat → Prop} {H : PH} {L L' : List HA} {K : Act → World → Prop}
  {d : Nat} {ty : TypeId} {pos : String} {af : Array Edge}
/-- one row more, a nil one -/
theorem m_appN {α : Type} [Enc α] {t e : TypeId} {z : Value} {bytes : Nat} {x y : Operand} {oa ob : Option Addr} {cap c : Nat} {xs zs : List (List α)} {qs : List RowQ}
    (hF : Fr N F a) (hN : Nat.blt d N = true) (hS : St w0 M [H] L w)
    (ht : P.underlying t = some (.slice e)) (hinfo : (P.info? e).map (fun i => (i.zero, i.size, i.bytes)) = some (some z, 1, bytes)) (hzs : z.cells.size = 1)
    (hx : opv F x = some (.slice oa xs.length cap)) (hy : opv F y = some (.slice ob 1 c)) (hmem : sla e 1 oa xs.length cap (qs.map rowV) ∈ L) (hv : NR H qs xs)
    (hrd : Rd (hp w) ob [.slice none 0 0]) (hg : appG bytes xs [[]] = some zs)
    (k : ∀ oa' cap' w a, NR H (qs ++ [rowN]) zs → (∀ L', Repl (sla e 1 oa xs.length cap (qs.map rowV)) (sla e 1 oa' zs.length cap' ((qs ++ [rowN]).map rowV)) L L' → St w0 M [H] L' w) → Fr N ((d, .slice oa' zs.length cap') :: F) a → K a w) :
    stp P ops Q ⟨some d, .call ⟨.builtin .append, #[x, y], #[t, t]⟩, ty, pos, af, none⟩ a w K := by
  obtain ⟨h1, h2, rfl⟩ := appG_some hg
  refine apI hF hN hS ht hinfo hzs (by decide) hx hy hmem rfl hrd (one1 rfl) h1 (by unfold maxLen; omega) fun oa' cap' w a hU hF => ?_
  have e1 : xs.length + 1 = (xs ++ [[]]).length := by simp
  rw [e1] at hU hF
  refine k oa' cap' w a (hv.app (show NR H [rowN] [([] : List α)] from .cons rfl .nil .nil)) (fun L' hr => hU L' ?_) hF
  rw [List.map_append] at hr
  exact hr
/-- a row's header, as it is read -/
theorem rowCell {e ie : TypeId} {oa : Option Addr} {n cap i : Nat} {qs : List RowQ} {q : RowQ} {Hs : List PH} (hl : Lds Hs L w) (hm : sla e 1 oa n cap (qs.map rowV) ∈ L) (hq : qs[i]? = some q) :
    w.cell? ⟨(adr oa).block, (adr oa).off + i * 1, none⟩ = some (rowV q) := by
  have ho : SlOk e 1 (.slice oa n cap) n (qs.map rowV) (hp w) := hl.ok _ hm
  have := (SlOk.rd ho).cell i (rowV q) (by rw [List.getElem?_map, hq]; rfl)
  rw [cell_hp] at this
  rw [Nat.mul_one]; exact this
theorem rowOa {e : TypeId} {oa : Option Addr} {n cap i : Nat} {qs : List RowQ} {q : RowQ} {Hs : List PH} (hl : Lds Hs L w) (hm : sla e 1 oa n cap (qs.map rowV) ∈ L) (hq : qs[i]? = some q) : oa = some ⟨(adr oa).block, (adr oa).off, none⟩ := by
  have ho : SlOk e 1 (.slice oa n cap) n (qs.map rowV) (hp w) := hl.ok _ hm
  refine (SlOk.rd ho).some ?_
  intro h0
  have : qs = [] := List.map_eq_nil_iff.1 h0
  subst this
  simp at hq
theorem split_at {α : Type} : ∀ {l : List α} {i : Nat} {x : α}, l[i]? = some x → ∃ l1 l2, l = l1 ++ x :: l2 ∧ ∀ y, l.set i y = l1 ++ y :: l2
  | [], i, x, h => by simp at h
  | z :: l, 0, x, h => by
    simp only [List.getElem?_cons_zero, Option.some.injEq] at h
    subst h
    exact ⟨[], l, rfl, fun y => rfl⟩
  | z :: l, i + 1, x, h => by
    obtain ⟨l1, l2, e1, e2⟩ := split_at (l := l) (i := i) (by simpa using h)
    exact ⟨z :: l1, l2, by rw [e1]; rfl, fun y => by rw [List.set_cons_succ, e2]; rfl⟩
/-- append to a row -/
theorem m_appR {α : Type} [Enc α] {t e : TypeId} {z : Value} {sz bytes : Nat} {x y : Operand} {oa ob : Option Addr} {cap c i : Nat} {xs ys zs : List α} {vs us : List Value} {qs : List RowQ}
    (hF : Fr N F a) (hN : Nat.blt d N = true) (hS : St w0 M [H] L w)
    (ht : P.underlying t = some (.slice e)) (hinfo : (P.info? e).map (fun i => (i.zero, i.size, i.bytes)) = some (some z, sz, bytes)) (hzs : z.cells.size = sz) (hsz : 0 < sz) (hz : Enc.sz α = sz)
    (hx : opv F x = some (.slice oa xs.length cap)) (hy : opv F y = some (.slice ob ys.length c)) (hmem : bigA (rowA e sz) qs ∈ L) (hq : qs[i]? = some ⟨oa, xs.length, cap, vs⟩) (hv : Rows H vs xs)
    (hrd : Rd (hp w) ob us) (hu : Rows H us ys) (hg : appG bytes xs ys = some zs)
    (k : ∀ oa' cap' vs' w a, Rows H vs' zs → (∀ L', Repl (bigA (rowA e sz) qs) (bigA (rowA e sz) (qs.set i ⟨oa', zs.length, cap', vs'⟩)) L L' → St w0 M [H] L' w) → Fr N ((d, .slice oa' zs.length cap') :: F) a → K a w) :
    stp P ops Q ⟨some d, .call ⟨.builtin .append, #[x, y], #[t, t]⟩, ty, pos, af, none⟩ a w K := by
  obtain ⟨h1, h2, rfl⟩ := appG_some hg
  obtain ⟨j, hi, hzz⟩ := Option.map_eq_some_iff.1 hinfo
  simp only [Prod.mk.injEq] at hzz
  obtain ⟨hz', hs, hb⟩ := hzz
  have hbig := hS.ok _ hmem
  obtain ⟨l1, l2, e1, e2⟩ := split_at hq
  have hok : SlOk e sz (.slice oa xs.length cap) xs.length vs (hp w) := hbig.1 ⟨oa, xs.length, cap, vs⟩ (by rw [e1]; simp)
  obtain ⟨oa', cap', w', hr, hok', hk, hf⟩ := run_ap (P := P) (ty := ty) (w := w) ht hi hz' hs hzs hsz hok (by rw [hu.len, hz]) hrd.some (fun j u hj => by rw [← cell_hp]; exact hrd.cell j u hj) hu.one (by rw [hb]; exact h1) (by unfold maxLen; omega) (c := c)
  rw [← List.length_append] at hr hok' hf
  refine m1 (w' := w') hF hN (v := .slice oa' (xs ++ ys).length cap') ?_ fun a hF => k oa' cap' (vs ++ us) w' a (hv.app hu) (fun L' hrep => ?_) hF
  · simp [execOp, resolve, invoke, builtin, hF.ev hx, hF.ev hy, hr]
  · refine hS.upd hrep (hk.mono fun b hb => ⟨⟨oa, xs.length, cap, vs⟩, by rw [e1]; simp, hb⟩) ?_ ?_
    · rw [e2]
      rw [e1] at hbig
      exact bigA_mid hbig hk hok' hf
    · rintro b ⟨q, hq', hb⟩
      rw [e2] at hq'
      rcases List.mem_append.1 hq' with h | h
      · exact .inl ⟨q, by rw [e1]; simp [h], hb⟩
      · rcases List.mem_cons.1 h with rfl | h
        · rcases hf b hb with h | h
          · exact .inl ⟨⟨oa, xs.length, cap, vs⟩, by rw [e1]; simp, h⟩
          · exact .inr h
        · exact .inl ⟨q, by rw [e1]; simp [h], hb⟩
/-- .. and the row's header -/
theorem m_stR {α : Type} [Enc α] {t e : TypeId} {x y : Operand} {i : Int} {cap cap' : Nat} {oa oa' : Option Addr} {vs' : List Value} {xs xs' : List (List α)} {zs : List α} {qs : List RowQ} (hF : Fr N F a) (hS : St w0 M [H] L w) (hz : ∀ w, (sizeOf t).run P w = .ok 1 w)
    (hx : opv F x = some (.pointer (some ⟨(adr oa).block, (adr oa).off + i.toNat * 1, none⟩))) (hy : opv F y = some (.slice oa' zs.length cap'))
    (hn : NR H qs xs) (hr : Rows H vs' zs) (hg : setI xs i zs = some xs') (hm : sla e 1 oa xs.length cap (qs.map rowV) ∈ L)
    (k : ∀ w, NR H (qs.set i.toNat ⟨oa', zs.length, cap', vs'⟩) xs' → (∀ L', Repl (sla e 1 oa xs.length cap (qs.map rowV)) (sla e 1 oa xs'.length cap ((qs.set i.toNat ⟨oa', zs.length, cap', vs'⟩).map rowV)) L L' → St w0 M [H] L' w) → K a w) : stp P ops Q ⟨none, .store t x y, ty, pos, af, none⟩ a w K := by
  obtain ⟨h2, h3, rfl⟩ := setI_some hg
  have hl := hn.len
  have hi : i.toNat * 1 < (qs.map rowV).length := by rw [List.length_map]; omega
  have key : ∀ {L : List HA}, sla e 1 oa xs.length cap (qs.map rowV) ∈ L → ∃ L', Repl (sla e 1 oa xs.length cap (qs.map rowV)) (sla e 1 oa xs.length cap ((qs.map rowV).set (i.toNat * 1) (.slice oa' zs.length cap'))) L L' := by
    intro L hm
    induction L with
    | nil => cases hm
    | cons A L ih =>
      rcases List.mem_cons.1 hm with rfl | hm
      · exact ⟨_, .head⟩
      · obtain ⟨L', h⟩ := ih hm; exact ⟨_, .tail h⟩
  obtain ⟨L1, hr1⟩ := key hm
  obtain ⟨hc, hf, _⟩ := st_sl hS hr1 hi
  refine m0 (w' := w.setCell ⟨(adr oa).block, (adr oa).off + i.toNat * 1, none⟩ (.slice oa' zs.length cap')) ?_ (k _ (hn.set rfl hr) fun L' hr' => ?_)
  · have hst := run_store1 (P := P) (v := .slice oa' zs.length cap') hz rfl rfl hc hf
    simp only [Nat.mul_one] at hst
    simp [execOp, hF.ev hx, hF.ev hy, hst]
  · rw [List.length_set, List.map_set] at hr'
    have e : i.toNat = i.toNat * 1 := (Nat.mul_one _).symm
    rw [e] at hr'
    have e2 : i.toNat * 1 * 1 = i.toNat * 1 := Nat.mul_one _
    exact (st_sl hS hr' hi).2.2
/-- .. as they are read -/
theorem _root_.Go.LL.St.srN {α : Type} [Enc α] (hS : St w0 M [H] L w) {et iet : TypeId} {isz n cap : Nat} {oa : Option Addr} {qs : List RowQ} {xs : List (List α)} (h1 : sla et 1 oa n cap (qs.map rowV) ∈ L) (h2 : bigA (rowA iet isz) qs ∈ L) (hv : NR H qs xs) : SR (hp w) oa xs :=
  ⟨qs.map rowV, SlOk.rd (hS.ok _ h1), NR.rows (ie := iet) (sz := isz) (hv.mono (St.up hS)) (hS.ok _ h2).1⟩
/-- what is owned row by row will not be written any more -/
theorem _root_.Go.LL.St.frzN {α : Type} [Enc α] {L1 : List HA} (hS : St w0 Nil [H] L w) {e ie : TypeId} {isz n cap : Nat} {oa : Option Addr} {qs : List RowQ} {xs : List (List α)} (hp1 : Pick (bigA (rowA ie isz) qs) L L1) (hp2 : Pick (sla e 1 oa n cap (qs.map rowV)) L1 L') (hv : NR H qs xs) :
    ∃ H' : PH, Ext w0 H H' ∧ SR H' oa xs ∧ n ≤ cap ∧ St w0 Nil [H'] L' w := by
  obtain ⟨H1, h1, h2, h3⟩ := St.frz hS hp1
  obtain ⟨H2, k1, k2, k3⟩ := St.frz h3 hp2
  refine ⟨H2, h2.trans k2, ⟨qs.map rowV, SlOk.rd k1, ?_⟩, SlOk.capLe k1, k3⟩
  refine NR.rows (ie := ie) (sz := isz) (hv.mono fun b o hb => k2.sub b o (h2.sub b o hb)) fun q hq => ?_
  have := h1.1 q hq
  exact (rowA ie isz q).loc H1 H2 (fun b hb => by
    have hne := (rowA ie isz q).dom H1 b this hb
    cases hx : H1 b with
    | none => exact absurd hx hne
    | some o => exact (k2.sub b o hx)) this
end
section
variable {P : Program} {ops : Array Oper} {Q : Exit → Act → World → Prop} {S : World → Prop} {z n m : Nat} {listed L : Array Bool} {a0 : Act} {w0 : World}
/-- ways that meet within a region that draws -/
theorem cutD {k : Nat} (R : Act → World → Prop) (h1 : (∀ a w, R a w → wpD P ops Q S z m L a w) → wpD P ops Q S z (m + k) listed a0 w0) (h2 : ∀ a w, R a w → wpD P ops Q S z m L a w) : wpD P ops Q S z (m + k) listed a0 w0 := h1 h2
theorem wpD_list {a : Act} {w : World} (e : listed = L) (h : wpD P ops Q S z m L a w) : wpD P ops Q S z m listed a w := e ▸ h
end
end Go.LM
