/- The engine's top: from a walk that returns true to a row. No condition: plain lemmas. -/
import Derived.Test.YtkgaliichchanaaLLh
import Derived.ChangeSame
import Derived.ChangeSlices
import Derived.RowKit
import Derived.RowKit3
import Derived.WideKeyArgs
import Derived.JoinedOf
import Derived.JoinedAt
namespace Go.LL
open Go Go.ChangeShapes Go.WideShapes Go.ChangeAt Go.RowKit Go.WideElems

section
variable {H : Type} {enc : TypeId × Value → H} {P : Program} {W W' : World} {base : Nat}

theorem Keep.frame (h : Keep Nil W W') (p : MemPlace → Prop) : W.keptBut W' p := by
  refine World.keptBut_mono (may := fun _ => False) (fun x hx => hx.elim) ⟨h.os, h.output, fun i hi => ?_⟩
  rw [h.block i hi id]
  cases W.heap[i]? with
  | none => rfl
  | some o => cases o with
    | cells c t fr => exact ⟨rfl, rfl, rfl, fun _ _ => rfl⟩
    | map es c => exact .inr ⟨rfl, rfl⟩
    | _ => rfl

theorem post_of_keep {f : Func} {s : ChangeSpec} {apart fresh handsOn again : Bool} {args : Array Value} {v : Value} {ds gs : List (DataW H)} {before pa pv : List MemPlace}
    (hW : DataW.Whole enc P f.params.toList s.vars apart W args.toList ds gs before)
    (hres : ∀ (b : Nat) (sp : Nat → Bool) (hd : Bool), DataW.TrodAll enc P W' b sp hd f.resultTypes.toList (v.resultList f.resultTypes.size) (s.fn H (ds ++ gs)).results [])
    (hargs : ∀ sp : Nat → Bool, (∀ p ∈ before, sp p.block = true) → DataW.TrodAll enc P W' 0 sp true f.params.toList args.toList (s.fn H (ds ++ gs)).args pa)
    (hvars : ∀ sp : Nat → Bool, (∀ p ∈ before, sp p.block = true) → DataW.TrodVars enc P W' sp s.vars (s.fn H (ds ++ gs)).vars pv)
    (hps : before = pa ++ pv) (hk : Keep Nil W W')
    (hok : ∀ (j : Nat) (t : TypeId) (r : Value), f.resultTypes[j]? = some t → (v.resultList f.resultTypes.size)[j]? = some r → Value.okWide P W' .any 0 t r) :
    s.post enc P f apart fresh handsOn again W args v W' := by
  have hold : ∀ p ∈ before, (fun b => decide (b < W.heap.size)) p.block = true := fun p hp => by simpa using hW.lt p hp
  have hlt := hW.lt
  refine ⟨ds, gs, before, [], pa, pv, hW, hres _ _ _, hargs _ hold, hvars _ hold, hk.frame _, fun _ => ?_⟩
  · obtain ⟨_, _, _, _, _, hz, hn⟩ := hW
    refine ⟨hok, _, _, ([] ++ pa) ++ pv, ⟨[] ++ pa, pv, trodAll_append (hargs _ (fun _ _ => rfl)) (hres _ _ _), hvars _ (fun _ _ => rfl), rfl, ?_, ?_⟩, ?_⟩
    · intro b off hp
      have hp2 : MemPlace.cell b off ∈ before := by rw [hps]; simpa using hp
      rw [hk.fz _ (hlt _ hp2)]
      exact hz b off hp2
    · intro ha
      have := hn ha
      rw [hps] at this
      simpa using this
    · intro p hp _
      rw [hps]
      simpa using hp

theorem Keep.sameAt (h : Keep Nil W W') {p : MemPlace} (hp : p.block < W.heap.size) : W.sameAt W' p := by
  cases p with
  | cell b off =>
    show W'.cell? _ = W.cell? _
    unfold World.cell?
    rw [h.block b hp id]
  | map b => exact h.block b hp id

theorem trodAll_keep (hl : laidOutB P = true) : ∀ {ts : List TypeId} {vs : List Value} {ds : List (DataW H)} {ps : List MemPlace} {sp : Nat → Bool}, (∀ t ∈ ts, P.readableRec t = true ∧ t < P.types.size) →
    DataW.TrodAll enc P W base (fun _ => true) true ts vs ds ps → (∀ p ∈ ps, W.sameAt W' p) → (∀ p ∈ ps, sp p.block = true) → DataW.TrodAll enc P W' base sp true ts vs ds ps
  | [], vs, ds, ps, sp, _, h, _, _ => by
    obtain ⟨rfl, rfl, rfl⟩ := trodAll_nil h
    exact rfl
  | t :: ts, vs, ds, ps, sp, hr, h, h1, h2 => by
    obtain ⟨v, vs', d, ds', p, q, rfl, rfl, rfl, hd, ht⟩ := trodAll_cons h
    exact ⟨p, q, Trod_stays hl (hr t (.head _)).1 (hr t (.head _)).2 hd (fun x hx => h1 x (List.mem_append.2 (.inl hx))) (fun x hx => h2 x (List.mem_append.2 (.inl hx))),
      trodAll_keep hl (fun t ht => hr t (.tail _ ht)) ht (fun x hx => h1 x (List.mem_append.2 (.inr hx))) (fun x hx => h2 x (List.mem_append.2 (.inr hx))), rfl⟩

/-- a law that returns true and leaves what came in -/
theorem law_post {f : Func} {s : ChangeSpec} {apart fresh handsOn again : Bool} {args : Array Value} {ds gs : List (DataW H)} {before : List MemPlace} {tb : TypeId}
    (hW : DataW.Whole enc P f.params.toList s.vars apart W args.toList ds gs before) (hl : laidOutB P = true) (hr0 : (f.params.toList.all fun t => P.readableRec t && decide (t < P.types.size)) = true) (hv : s.vars = [])
    (hres : f.resultTypes = #[tb]) (htb : P.underlying tb = some .bool) (hfn : s.fn H ds = { results := [.lit (.bool true)], args := ds }) (hk : Keep Nil W W') :
    s.post enc P f apart fresh handsOn again W args (.bool true) W' := by
  have hr : ∀ t ∈ f.params.toList, P.readableRec t = true ∧ t < P.types.size := fun t ht => by
    have := List.all_eq_true.1 hr0 t ht
    simpa using this
  have hlt := hW.lt
  have hW2 := hW
  obtain ⟨p, q, hA, hV, rfl, hz, hn⟩ := hW2
  rw [hv] at hV
  obtain ⟨rfl, rfl⟩ := trodVars_none hV
  have e0 : s.fn H (ds ++ []) = { results := [.lit (.bool true)], args := ds } := by rw [List.append_nil]; exact hfn
  refine post_of_keep (pa := p) (pv := []) hW (fun b sp hd => ?_) (fun sp hsp => ?_) (fun sp _ => ?_) rfl hk (ok_one hres rfl (okWide_bool_mk htb _))
  · rw [e0, hres]; exact trodAll_mk1 (shut_bool htb true)
  · rw [e0]; exact trodAll_keep hl hr hA (fun x hx => hk.sameAt (hlt x (List.mem_append.2 (.inl hx)))) (fun x hx => hsp x (List.mem_append.2 (.inl hx)))
  · rw [e0, hv]; rfl

theorem cell_spot {w : World} {a : Addr} {v : Value} (h : w.cell? (a.add 0) = some v) : a = ⟨a.block, a.off, none⟩ := by
  obtain ⟨b, o, sp⟩ := a
  cases sp with
  | none => rfl
  | some s =>
    exfalso
    have e : (⟨b, o, some s⟩ : Addr).add 0 = ⟨b, o, some s⟩ := rfl
    rw [e] at h
    unfold World.cell? at h
    split at h <;> simp at h

theorem rd_of_trod {t e : TypeId} {oa : Option Addr} {n cap : Nat} {d : DataW H × List MemPlace} {sp : Nat → Bool} {held : Bool} (ht : P.underlying t = some (.slice e)) (he : P.underlying e = some (.int .i64)) (hc : P.cellsOf e = 1)
    (hd : ∃ fuel, DataW.trod enc P W base sp held fuel t [.slice oa n cap] = some d) :
    ∃ zs : List Int, n = zs.length ∧ Rd (hp W) oa (ints zs) ∧ zs.length ≤ cap ∧ (∀ z ∈ zs, (Lit.int .i64 z).wf = true) := by
  obtain ⟨fuel, hf⟩ := hd
  rcases open_ints ht he hc hf with ⟨h, _⟩ | ⟨a, len, cap', zs, h, _, hlc, _, hzl, _, hcell, hwf⟩
  · simp at h
    obtain ⟨rfl, rfl, rfl⟩ := h
    exact ⟨[], rfl, Rd.nil _ _, Nat.le_refl _, fun z hz => nomatch hz⟩
  · simp at h
    obtain ⟨rfl, rfl, rfl⟩ := h
    have hlz : n ≤ zs.length := by rw [hzl]; split <;> omega
    have hl2 : (zs.take n).length = n := by simp; omega
    have hsp : 0 < n → a = ⟨a.block, a.off, none⟩ := fun h0 => cell_spot (hcell 0 (by omega))
    refine ⟨zs.take n, hl2.symm, ⟨fun hne => ?_, fun j u hj => ?_⟩, by omega, fun z hz => hwf z (List.mem_of_mem_take hz)⟩
    · have h0 : 0 < n := by
        rcases Nat.eq_zero_or_pos n with h | h
        · subst h; simp [ints] at hne
        · exact h
      simp only [adr, Option.getD_some]
      rw [← hsp h0]
    · have hjn : j < n := by
        have := (List.getElem?_eq_some_iff.1 hj).1
        simp only [ints, List.length_map] at this
        omega
      have h1 := hcell j (by omega)
      rw [hsp (by omega), addLit] at h1
      have h2 : u = .int .i64 (zs.getD j 0) := by
        simp only [ints, List.getElem?_map, List.getElem?_take, if_pos hjn] at hj
        rw [List.getElem?_eq_getElem (by omega)] at hj
        simp at hj
        rw [← hj]
        simp [List.getD, show j < zs.length by omega]
      rw [h2]
      rw [cell_hp]
      exact h1

/-- a slice of numbers that came in -/
theorem open_rd {r : Reach} {b0 : Nat} {t e : TypeId} {v : Value} {d : DataW H} {ps : List MemPlace} {sp : Nat → Bool} {held : Bool} (ht : P.underlying t = some (.slice e)) (he : P.underlying e = some (.int .i64)) (hc : P.cellsOf e = 1)
    (hval : Value.okWide P W r b0 t v) (hd : DataW.Trod enc P W base sp held t v d ps) :
    ∃ oa cap zs, v = .slice oa zs.length cap ∧ zs.length ≤ cap ∧ Rd (hp W) oa (ints zs) ∧ (∀ z ∈ zs, (Lit.int .i64 z).wf = true) := by
  obtain ⟨oa, n, cap, rfl⟩ := okWide_slice ht hval
  obtain ⟨zs, rfl, h1, h2, h3⟩ := rd_of_trod (oa := oa) (n := n) (cap := cap) ht he hc hd
  exact ⟨oa, cap, zs, rfl, h2, h1, h3⟩
end
end Go.LL
