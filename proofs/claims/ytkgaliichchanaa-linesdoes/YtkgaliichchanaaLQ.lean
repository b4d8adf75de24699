/- A range over a function: the law of the loop, by states of the walk; functions that leave with marks. No condition: plain lemmas. -/
import Derived.Test.YtkgaliichchanaaLP
import Derived.RangeFuncNested
namespace Go.LM
open Go Go.LL Go.MD

theorem apart_symm {A B : HA} (h : Apart A B) : Apart B A := fun b hb ha => h b ha hb
theorem _root_.Go.LL.St.perm {w0 w : World} {M : Nat → Prop} {Hs : List PH} {L L' : List HA} (hS : St w0 M Hs L w) (h : L.Perm L') : St w0 M Hs L' w :=
  ⟨hS.keep, hS.hs, fun A hA => hS.ok A (h.mem_iff.2 hA), fun A hA => hS.own A (h.mem_iff.2 hA), (h.pairwise_iff (fun h => apart_symm h)).1 hS.disj⟩

theorem soft_fz {o : Obj} (h : softO o) (x : Nat) : (match some o with | some (.cells _ _ (lo, hi)) => decide (lo ≤ x) && decide (x < hi) | _ => false) = false := by
  have := h x
  cases o <;> first | rfl | exact this
theorem Keep.putObj {w : World} {r : Nat} {o u : Obj} (hr : w.heap[r]? = some o) (ho : softO o) (hu : softO u) : Keep (fun x => x = r) w (w.putObj r u) :=
  ⟨rfl, rfl, rfl, by simp, fun x _ hx => World.putObj_heap_other hx, fun a _ => by
    have hlt := (Array.getElem?_eq_some_iff.1 hr).1
    unfold World.frozen?
    by_cases e : a.block = r
    · rw [e, World.putObj_heap_same hlt, hr]
      exact (soft_fz hu a.off).trans (soft_fz ho a.off).symm
    · rw [World.putObj_heap_other e]⟩

theorem _root_.Go.LL.St.putObj {w0 w : World} {M : Nat → Prop} {Hs : List PH} {L L' : List HA} {r : Nat} {o u : Obj} (hS : St w0 M Hs L w) (hr : Repl (blk r o) (blk r u) L L') (ho : softO o) (hu : softO u) : St w0 M Hs L' (w.putObj r u) := by
  have hb : w.heap[r]? = some o := hS.ok _ hr.memOld
  exact hS.upd hr (Keep.putObj hb ho hu) (World.putObj_heap_same (Array.getElem?_eq_some_iff.1 hb).1) (fun b hb => .inl hb)

theorem soft_loop (r : Loop) : softO (.loop r) := fun _ => rfl
theorem soft_def (r : Option (List Deferred)) : softO (.deferred r) := fun _ => rfl

/-! ### marks -/
def dA (D : Nat) : HA := blk D (.deferred (some []))
abbrev dsA (ds : List Nat) : HA := sepA (ds.map dA)

section
variable {P : Program} {Q : Exit → Act → World → Prop} {a : Act} {w w0 : World} {N : FN} {F : List (Nat × Value)} {M : Nat → Prop} {H H' : PH} {L L' : List HA}

/-- how a function with marks ends: no panic -/
def bodyN (P : Program) (fn : Func) (R : Value → World → Prop) : Exit → Act → World → Prop
  | .normal, a, w | .ret, a, w => LeavesInM (FR none) 0 P fn a.tmps (fun e w' => ∃ v, e = .returned v ∧ R v w') a.defers .returning w
  | _, _, _ => False
instance {fn : Func} {R : Value → World → Prop} : NoOut (bodyN P fn R) := ⟨fun ⟨_, _, h⟩ => h⟩

theorem fnM {f : FuncId} {fn : Func} {c : Code} {args : List Value} {N : Nat} {F : List (Nat × Value)} {R : Value → World → Prop} (hf : P.funcs[f]? = some fn) (hb : fn.body = some c) (hn : fn.ntmps = N) (hl : Nat.ble args.length N = true)
    (he : (args.zipIdx.map fun p => (p.2, p.1)) = F)
    (h : ∀ a, Fr ⟨N, []⟩ F a → wq none P c (bodyN P fn R) a w) : Tot P f args.toArray w R := by
  subst he
  have hl' := Nat.le_of_ble_eq_true hl
  refine (callsIn_wide (n := 0)).1 (callsIn_of_wp_marks (F := FR none) (n := 0) hf hb trivial (wpIn_mono (h _ ?_) fun e a w h => by cases e <;> first | exact h | exact h.elim) rfl)
  have := Fr.enter (args := args.toArray) (n := N - args.length) (N := N) (by simp; omega)
  rw [hn]
  simpa using this

theorem leaveM {fn : Func} {tmps : Array Value} {R : Value → World → Prop} : ∀ (ds : List Nat) (w : World), St w0 M [H] (dsA ds :: L) w →
    (∀ w', St w0 M [H] L w' → ∃ v, (results fn tmps).run P w' = .ok v w' ∧ R v w') →
    LeavesInM (FR none) 0 P fn tmps (fun e w' => ∃ v, e = .returned v ∧ R v w') (ds.map markD) .returning w
  | [], w, hS, h => by
    obtain ⟨v, h1, h2⟩ := h w (hS.drop .head)
    exact ⟨v, h1, v, rfl, h2⟩
  | D :: ds, w, hS, h => by
    have h1 : St w0 M [H] (dA D :: dsA ds :: L) w := by
      have h2 : St w0 M [H] ((dA D :: ds.map dA) ++ L) w := St.unsep hS
      have h3 : St w0 M [H] (ds.map dA ++ (dA D :: L)) w := h2.perm (by
        show (dA D :: (ds.map dA ++ L)).Perm (ds.map dA ++ dA D :: L)
        exact List.perm_middle.symm)
      exact (St.sep _ h3).perm (List.Perm.swap _ _ _)
    have hb : w.heap[D]? = some (.deferred (some [])) := h1.ok _ (.head _)
    refine ⟨by simp, .inl ⟨D, _, rfl, run_takeDeferred hb, ?_⟩⟩
    exact leaveM ds _ ((h1.putObj (u := .deferred none) .head (soft_def _) (soft_def _)).drop .head) h

/-- a function leaves with its marks -/
theorem rM {fn : Func} {R : Value → World → Prop} {how : Exit} (hh : how = .ret ∨ how = .normal) (hF : Fr N F a) (hS : St w0 M [H] (dsA N.ds :: L) w)
    (h : ∀ w', St w0 M [H] L w' → ∃ v, (results fn a.tmps).run P w' = .ok v w' ∧ R v w') : bodyN P fn R how a w := by
  have := leaveM (P := P) (fn := fn) (tmps := a.tmps) (R := R) N.ds w hS h
  rw [← hF.defers] at this
  rcases hh with rfl | rfl <;> exact this
end

theorem zip_fold (ps : List Tmp) (args : List Value) (f : Array Value → Tmp × Value → Array Value) (t : Array Value) : (ps.toArray.zip args.toArray).foldl f t = (ps.zip args).foldl f t := by
  rw [← Array.foldl_toList]
  congr 1
  simp [Array.toList_zip]

theorem Repl.parts {A A' : HA} {L L' : List HA} (h : Repl A A' L L') : ∃ l1 l2, L = l1 ++ A :: l2 ∧ L' = l1 ++ A' :: l2 := by
  induction h with
  | head => exact ⟨[], _, rfl, rfl⟩
  | tail h ih => obtain ⟨l1, l2, rfl, rfl⟩ := ih; exact ⟨_ :: l1, l2, rfl, rfl⟩

/-! ### the protocol of yield -/
structure MutH (w : World) (A : HA) (H : PH) (w' : World) (A' : HA) (H' : PH) : Prop where
  mu : Mut w A A' w'
  ext : ExtM w A.fp H H'
  le : H'.le w'
  dis : ∀ b, A'.fp b → H' b = none

/-- C: what is owned, and what is known of it, in each state; y: a call of yield -/
def YC {τ α : Type} (P : Program) (l : Nat) (C : τ → PH → List HA → Prop) (en : PH → List Value → α → Prop) (y : τ → α → Option (τ × Bool)) : Prop :=
  ∀ s x s' b H Lc args w, C s H Lc → H.le w → (sepA Lc).ok (hp w) → (∀ b, (sepA Lc).fp b → H b = none) → en H args x → y s x = some (s', b) →
    YieldAt Fence.wide 0 P l args.toArray w fun e w' => e = .returned (.bool b) ∧ ∃ H' Lc', C s' H' Lc' ∧ MutH w (sepA Lc) H w' (sepA Lc') H'

instance : NoOut (fun (_ : Exit) (_ : Act) (_ : World) => False) := ⟨fun ⟨_, _, h⟩ => h⟩

/-- no panic comes -/
def np (Q : Exit → Act → World → Prop) : Exit → Act → World → Prop
  | .panic _, _, _ => False
  | .outgrown, _, _ => False
  | e, a, w => Q e a w
instance {Q : Exit → Act → World → Prop} : NoOut (np Q) := ⟨fun ⟨_, _, h⟩ => h⟩
theorem np_out {P : Program} {ro : Option Nat} {c : Code} {Q : Exit → Act → World → Prop} {a : Act} {w : World} (h : wq ro P c (np Q) a w) : wq ro P c Q a w :=
  wpIn_mono h fun e a w h => by cases e <;> first | exact h | exact h.elim

def jmp : Exit → Option Code
  | .ret => some .ret
  | .exit id => some (.exit id)
  | _ => none

section
variable {P : Program} {Q : Exit → Act → World → Prop} {a : Act} {w w0 : World} {N : FN} {F : List (Nat × Value)} {M : Nat → Prop} {H H' : PH} {L L' : List HA}

theorem _root_.Go.LL.St.mutHH {A A' : HA} {w' : World} (hS : St w0 M [H] (A :: L) w) (m : MutH w A H w' A' H') : St w0 M [H'] (A' :: L) w' := St.mutH hS m.mu m.ext m.le m.dis

theorem _root_.Go.LL.St.mutR {A A' : HA} {w' : World} (hS : St w0 M [H] L w) (hr : Repl A A' L L') (m : MutH w A H w' A' H') : St w0 M [H'] L' w' ∧ ExtM w0 M H H' := by
  obtain ⟨l1, l2, rfl, rfl⟩ := Repl.parts hr
  have h1 := hS.perm List.perm_middle
  exact ⟨(h1.mutHH m).perm List.perm_middle.symm, St.extcMM h1 m.ext⟩

/-- a call of yield -/
theorem ly {τ α : Type} {l : Nat} {C : τ → PH → List HA → Prop} {en : PH → List Value → α → Prop} {y : τ → α → Option (τ × Bool)} {s s' : τ} {x : α} {b : Bool} {Lc : List HA} {f : Operand} {as : List Operand} {vs : List Value} {d : Nat} {ty : TypeId} {ts : Array TypeId} {pos : String} {af : Array Edge} {g : Option (Nat × Bool)} {K : Act → World → Prop}
    (hF : Fr N F a) (hN : Nat.blt d N.n = true) (hf : opv F f = some (.func (.yield l) #[] #[])) (ha : argv F as vs) (hy : YC P l C en y) (hS : St w0 M [H] L w) (hm : sepA Lc ∈ L) (hC : C s H Lc) (hex : en H vs x) (he : y s x = some (s', b))
    (k : ∀ a w H' Lc', C s' H' Lc' → ExtM w0 M H H' → (∀ L', Repl (sepA Lc) (sepA Lc') L L' → St w0 M [H'] L' w) → Fr N ((d, .bool b) :: F) a → K a w) :
    yl P ⟨some d, .call ⟨.value f, as.toArray, ts⟩, ty, pos, af, g⟩ a w K := by
  obtain ⟨fn, tmps, assign, body, hr, hR⟩ := hy s x s' b H Lc vs w hC (St.le hS) (hS.ok _ hm) (fun b hb => (hS.own _ hm b hb).2 _ (.head _)) hex he
  refine ⟨l, fn, tmps, assign, body, ?_, hR.mono ?_⟩
  · have e1 : a.eval f = .func (.yield l) #[] #[] := hF.ev hf
    have e2 := argv_map hF ha
    simp [execOp, resolve, invoke, Deferred.ofValue, e1, e2, hr]
  · rintro e w' ⟨rfl, H', Lc', hC', hmH⟩
    obtain ⟨L1, hL1⟩ : ∃ L1, Repl (sepA Lc) (sepA Lc') L L1 := by
      clear k hF hN hf ha hR hmH hex hS
      induction L with
      | nil => cases hm
      | cons B L ih =>
        rcases List.mem_cons.1 hm with rfl | hm
        · exact ⟨_, .head⟩
        · obtain ⟨L1, h⟩ := ih hm; exact ⟨_, .tail h⟩
    exact ⟨_, rfl, k _ w' H' Lc' hC' (hS.mutR hL1 hmH).2 (fun L' hr => (hS.mutR hr hmH).1) (hF.put (by simpa [Nat.blt_eq] using hN) _)⟩

theorem Fr.zip {tmps : Array Value} : ∀ (ps : List Tmp) (args : List Value) (F : List (Nat × Value)) (t : Array Value), args.length = ps.length → (∀ p ∈ ps, p < N.n) → Fr ⟨N.n, []⟩ F { tmps := t, defers := [] } →
    Fr ⟨N.n, []⟩ ((ps.zip args).reverse ++ F) { tmps := (ps.zip args).foldl (fun t (p, v) => t.setIfInBounds p v) t, defers := [] }
  | [], _, F, t, _, _, h => by simpa using h
  | p :: ps, [], F, t, hl, _, h => by simp at hl
  | p :: ps, v :: args, F, t, hl, hp, h => by
    have h1 : Fr ⟨N.n, []⟩ ((p, v) :: F) { tmps := t.setIfInBounds p v, defers := [] } := h.put (hp p (.head _)) v
    have h2 := Fr.zip (tmps := tmps) ps args _ _ (by simpa using hl) (fun q hq => hp q (.tail _ hq)) h1
    simpa using h2

/-- **'for .. := range f { .. }'** -/
theorem rf {σ ρ α : Type} {g : Operand} {ps : List Tmp} {assign body : Code} {gf : Nat} {lb : List Value} {s : σ} {ŝ : σ ⊕ ρ}
    (I : σ → PH → List HA → Prop) (J : ρ → Code → PH → List HA → Prop) (bd : σ → α → Option (σ ⊕ ρ)) (en : PH → List Value → α → Prop)
    (hF : Fr N F a) (hg : opv F g = some (.func (.func gf) #[] lb.toArray)) (hen : ∀ args w, (callFunc gf args).run P w = .ok (.enter gf args) w)
    (hps : (ps.all fun p => Nat.blt p N.n) = true) (hpe : ∀ H args x, en H args x → args.length = ps.length)
    (hS : St w0 M [H] (dsA N.ds :: L) w) (hI : I s H L)
    (hIm : ∀ s H H' L, (∀ b o, H b = some o → H' b = some o) → I s H L → I s H' L) (hJm : ∀ t c H H' L, (∀ b o, H b = some o → H' b = some o) → J t c H L → J t c H' L)
    (hit : ∀ (l : Nat) (C : σ ⊕ ρ → PH → List HA → Prop) (Lc : List HA) (w1 : World), YC P l C en (yy bd) → (∀ s H H' L, (∀ b o, H b = some o → H' b = some o) → C s H L → C s H' L) →
      C (.inl s) H Lc → H.le w1 → (sepA Lc).ok (hp w1) → (∀ b, (sepA Lc).fp b → H b = none) →
      Tot P gf (Value.func (.yield l) #[] #[] :: lb).toArray w1 fun _ w' => ∃ H' Lc', C ŝ H' Lc' ∧ MutH w1 (sepA Lc) H w' (sepA Lc') H')
    (hbody : ∀ (l : Nat) (X Y : HA) (s : σ) (x : α) (r : σ ⊕ ρ) (H1 : PH) (Lu : List HA) (args : List Value) (w1 : World) (a1 : Act) (K : Act → World → Prop) (Qr : Exit → Act → World → Prop),
      I s H1 Lu → en H1 args x → bd s x = some r → Fr ⟨N.n, []⟩ ((ps.zip args).reverse ++ F) a1 → St w1 (sepA (X :: Lu)).fp [H1] (X :: Lu) w1 →
      (∀ H2 Lu2 a2 w2, St w1 (sepA (X :: Lu)).fp [H2] (X :: Lu2) w2 → (∀ w3, St w1 (sepA (X :: Lu)).fp [H2] (Y :: Lu2) w3 → wq (some l) P body (np Qr) a2 w3) → K a2 w2) →
      (∀ s' H2 Lu2 a2 w2, r = .inl s' → ExtM w1 (sepA (X :: Lu)).fp H1 H2 → I s' H2 Lu2 → St w1 (sepA (X :: Lu)).fp [H2] (Y :: Lu2) w2 → Qr .normal a2 w2) →
      (∀ t e c H2 Lu2 a2 w2, r = .inr t → jmp e = some c → ExtM w1 (sepA (X :: Lu)).fp H1 H2 → J t c H2 Lu2 → St w1 (sepA (X :: Lu)).fp [H2] (Y :: Lu2) w2 → Qr e a2 w2) →
      wq (some l) P assign (Exit.then K fun _ _ _ => False) a1 w1)
    (hdone : ∀ s' D H' Lu a' w', ŝ = .inl s' → I s' H' Lu → ExtM w0 M H H' → Fr ⟨N.n, D :: N.ds⟩ F a' → St w0 M [H'] (dsA (D :: N.ds) :: Lu) w' → Q .normal a' w')
    (hstop : ∀ t c D H' Lu a' w', ŝ = .inr t → J t c H' Lu → ExtM w0 M H H' → Fr ⟨N.n, D :: N.ds⟩ F a' → St w0 M [H'] (dsA (D :: N.ds) :: Lu) w' → wq none P c Q a' w') :
    wq none P (Code.rangeFunc g ps.toArray assign body) Q a w := by
  refine wpIn_rangeFunc fun fn _ => ?_
  obtain ⟨rec, hrec⟩ : ∃ rec : LoopState → Option Code → Loop, rec = fun st pe => { state := st, pending := pe, fn, tmps := a.tmps, params := ps.toArray, assign, body, defers := w.heap.size } := ⟨_, rfl⟩
  obtain ⟨W1, hW1⟩ : ∃ W1, (w.alloc (.deferred (some []))).alloc (.loop (rec .ready none)) = W1 := ⟨_, rfl⟩
  have hnew : ∀ (w : World) (o : Obj), (w.alloc o).heap[w.heap.size]? = some o := World.alloc_heap_new
  have hSa : St w0 M [H] (dA w.heap.size :: dsA N.ds :: L) (w.alloc (.deferred (some []))) := hS.add (.alloc _ _ _ (soft_def _)) (hnew _ _) (fun b hb => by cases hb; exact Nat.le_refl _)
  have hSb : St w0 M [H] (blk (w.heap.size + 1) (.loop (rec .ready none)) :: dA w.heap.size :: dsA N.ds :: L) W1 := by
    rw [← hW1]
    refine hSa.add (.alloc _ _ _ (soft_loop _)) ?_ (fun b hb => by cases hb; simp)
    have := hnew (w.alloc (.deferred (some []))) (.loop (rec .ready none))
    rw [World.size_alloc] at this
    exact this
  have hev : a.eval g = .func (.func gf) #[] lb.toArray := hF.ev hg
  refine ⟨w.heap.size + 1, [markD w.heap.size], W1, { target := .fn (.func gf) lb.toArray, args := #[.func (.yield (w.heap.size + 1)) #[] #[]] }, W1, gf,
    #[.func (.yield (w.heap.size + 1)) #[] #[]] ++ lb.toArray, W1, ?_, ?_, fun _ _ => trivial, ?_, fun e => (by cases e), ?_⟩
  · rw [← hW1, hrec]; exact run_enterLoop_outer _ _ _ _ _
  · simp only [resolve, hev]
    simp [go_sem]
  · simp [invoke, go_sem, hen]
  -- the iterator, at the states of the loop
  let C : σ ⊕ ρ → PH → List HA → Prop := fun s H Lc => match s with
    | .inl s => ∃ Lu, Lc = blk (w.heap.size + 1) (.loop (rec .ready none)) :: Lu ∧ I s H Lu
    | .inr t => ∃ Lu c, Lc = blk (w.heap.size + 1) (.loop (rec .done (some c))) :: Lu ∧ J t c H Lu
  have hSc : St w0 M [H] (sepA (blk (w.heap.size + 1) (.loop (rec .ready none)) :: L) :: dsA (w.heap.size :: N.ds) :: []) W1 := by
    have h1 : St w0 M [H] (dsA N.ds :: (blk (w.heap.size + 1) (.loop (rec .ready none)) :: dA w.heap.size :: L)) W1 := hSb.perm (by
      refine .trans (.cons _ (.swap _ _ _)) (.swap _ _ _))
    have h2 : St w0 M [H] (N.ds.map dA ++ (blk (w.heap.size + 1) (.loop (rec .ready none)) :: dA w.heap.size :: L)) W1 := St.unsep h1
    have h3 : St w0 M [H] (((w.heap.size :: N.ds).map dA) ++ (blk (w.heap.size + 1) (.loop (rec .ready none)) :: L)) W1 := h2.perm (by
      simp only [List.map_cons, List.cons_append]
      refine .trans (List.perm_middle (a := blk (w.heap.size + 1) (.loop (rec .ready none)))) ?_
      refine .trans (.cons _ (List.perm_middle (a := dA w.heap.size))) ?_
      refine .trans (.swap _ _ _) (.cons _ ?_)
      exact List.perm_middle.symm)
    have h4 := St.sep _ h3
    have h5 : St w0 M [H] ((blk (w.heap.size + 1) (.loop (rec .ready none)) :: L) ++ [dsA (w.heap.size :: N.ds)]) W1 := h4.perm (List.perm_append_singleton _ _).symm
    exact St.sep _ h5
  have hCm : ∀ s H H' L, (∀ b o, H b = some o → H' b = some o) → C s H L → C s H' L := by
    intro s H H' L hs hC
    cases s with
    | inl s => obtain ⟨Lu, e, h⟩ := hC; exact ⟨Lu, e, hIm s H H' Lu hs h⟩
    | inr t => obtain ⟨Lu, c, e, h⟩ := hC; exact ⟨Lu, c, e, hJm t c H H' Lu hs h⟩
  have hy : YC P (w.heap.size + 1) C en (yy bd) := by
    intro ss x s' b H1 Lc args w1 hC hle hok hdis hex hyy
    cases ss with
    | inr t => cases hyy
    | inl s =>
      obtain ⟨Lu, rfl, hI1⟩ := hC
      cases hb : bd s x with
      | none => simp [yy, hb] at hyy
      | some r =>
        simp only [yy, hb, Option.map_some, Option.some.injEq, Prod.mk.injEq] at hyy
        obtain ⟨rfl, rfl⟩ := hyy
        have hl : w1.heap[w.heap.size + 1]? = some (.loop (rec .ready none)) := hok.1 _ (.head _)
        have hy := run_yield (P := P) (args := args.toArray) hl (by rw [hrec]; simpa using hpe _ _ _ hex)
        rw [hrec] at hy
        simp only at hy
        have hS1 := startM hle hok hdis
        have hend : ∀ (st : LoopState) (pe : Option Code) (H2 : PH) (Lu2 : List HA) (w2 : World),
            St w1 (sepA (blk (w.heap.size + 1) (.loop (rec .ready none)) :: Lu)).fp [H2] (blk (w.heap.size + 1) (.loop (rec .busy none)) :: Lu2) w2 →
            ExtM w1 (sepA (blk (w.heap.size + 1) (.loop (rec .ready none)) :: Lu)).fp H1 H2 →
            MutH w1 (sepA (blk (w.heap.size + 1) (.loop (rec .ready none)) :: Lu)) H1 (w2.putObj (w.heap.size + 1) (.loop (rec st pe))) (sepA (blk (w.heap.size + 1) (.loop (rec st pe)) :: Lu2)) H2 := fun st pe H2 Lu2 w2 h2 he => by
          have h3 := h2.putObj (u := .loop (rec st pe)) .head (soft_loop _) (soft_loop _)
          exact ⟨h3.endMut, he, St.le h3, St.disL h3⟩
        refine ⟨fn, _, assign, body, hy, roundIn_of_wpIn trivial ?_⟩
        refine hbody (w.heap.size + 1) (blk (w.heap.size + 1) (.loop (rec .ready none))) (blk (w.heap.size + 1) (.loop (rec .busy none))) s x r H1 Lu args w1 _ _ (roundPost P (w.heap.size + 1) fun e w' => e = .returned (.bool r.isLeft) ∧ ∃ H' Lc', C r H' Lc' ∧ MutH w1 (sepA (blk (w.heap.size + 1) (.loop (rec .ready none)) :: Lu)) H1 w' (sepA Lc') H') hI1 hex hb ?_ hS1 ?_ ?_ ?_
        · have h0 : Fr ⟨N.n, []⟩ F { tmps := a.tmps, defers := [] } := ⟨hF.size, hF.slots, rfl⟩
          have := Fr.zip (N := N) (tmps := a.tmps) ps args F a.tmps (hpe _ _ _ hex) (fun p hp => by have := List.all_eq_true.1 hps p hp; simpa [Nat.blt_eq] using this) h0
          have e := zip_fold ps args (fun (t : Array Value) (x : Tmp × Value) => t.setIfInBounds x.1 x.2) a.tmps
          rw [e]
          exact this
        · intro H2 Lu2 a2 w2 h2 hk
          have hl2 : w2.heap[w.heap.size + 1]? = some (.loop (rec .ready none)) := h2.ok _ (.head _)
          refine ⟨_, run_beginRound hl2 (by rw [hrec]), ?_⟩
          have h3 := h2.putObj (u := .loop (rec .busy none)) .head (soft_loop _) (soft_loop _)
          have e : ({ rec .ready none with state := .busy } : Loop) = rec .busy none := by rw [hrec]
          rw [e]
          exact np_out (hk _ h3)
        · rintro s' H2 Lu2 a2 w2 rfl he hI2 h2
          have hl2 : w2.heap[w.heap.size + 1]? = some (.loop (rec .busy none)) := h2.ok _ (.head _)
          have hr := run_endRound (P := P) none hl2
          refine ⟨_, _, hr, rfl, H2, _, ⟨Lu2, rfl, hI2⟩, ?_⟩
          have := hend .ready none H2 Lu2 w2 h2 he
          rw [hrec] at this ⊢
          exact this
        · intro t e c H2 Lu2 a2 w2 hr1 hj he hJ2 h2
          subst hr1
          have hl2 : w2.heap[w.heap.size + 1]? = some (.loop (rec .busy none)) := h2.ok _ (.head _)
          have hr := run_endRound (P := P) (some c) hl2
          have h3 := hend .done (some c) H2 Lu2 w2 h2 he
          have key : ∃ v w', (Instr.endRound (w.heap.size + 1) (some c)).run P w2 = .ok v w' ∧ (Ending.returned v = .returned (.bool (Sum.isLeft (Sum.inr t : σ ⊕ ρ))) ∧ ∃ H' Lc', C (.inr t) H' Lc' ∧ MutH w1 (sepA (blk (w.heap.size + 1) (.loop (rec .ready none)) :: Lu)) H1 w' (sepA Lc') H') := by
            refine ⟨_, _, hr, rfl, H2, _, ⟨Lu2, c, rfl, hJ2⟩, ?_⟩
            rw [hrec] at h3 ⊢
            exact h3
          cases e with
          | ret => cases hj; exact key
          | exit id => cases hj; exact key
          | _ => cases hj
  have h0 := hit (w.heap.size + 1) C _ W1 hy hCm ⟨L, rfl, hI⟩ (St.le hSc) (St.sepOk hSc) (St.sepDis hSc)
  have hargs : #[Value.func (.yield (w.heap.size + 1)) #[] #[]] ++ lb.toArray = (Value.func (.yield (w.heap.size + 1)) #[] #[] :: lb).toArray := by simp
  rw [hargs]
  refine callsIn_wide.2 (Calls.mono h0 ?_)
  rintro e w' ⟨v, rfl, H', Lc', hC', hm⟩
  have hS2 := hSc.mutHH hm
  have hx : ExtM w0 M H H' := St.extcMM hSc hm.ext
  have hF2 : Fr ⟨N.n, w.heap.size :: N.ds⟩ F { a with defers := markD w.heap.size :: a.defers } := ⟨hF.size, hF.slots, by simp [hF.defers]⟩
  cases ŝ with
  | inl s' =>
    obtain ⟨Lu, rfl, hI'⟩ := hC'
    have h1 : St w0 M [H'] (blk (w.heap.size + 1) (.loop (rec .ready none)) :: (Lu ++ [dsA (w.heap.size :: N.ds)])) w' := St.unsep hS2
    have hl2 : w'.heap[w.heap.size + 1]? = some (.loop (rec .ready none)) := h1.ok _ (.head _)
    have hp : (rec .ready none).pending = none := by rw [hrec]
    refine ⟨none, _, (run_endLoop hl2 (by rw [hrec]; exact fun e => nomatch e)).trans (congrArg (fun p => Result.ok p _) hp), ?_⟩
    have h2 := (h1.putObj (u := .loop { rec .ready none with state := .exhausted }) .head (soft_loop _) (soft_loop _)).drop .head
    exact hdone s' w.heap.size H' Lu _ _ rfl hI' hx hF2 (h2.perm (List.perm_append_singleton _ _))
  | inr t =>
    obtain ⟨Lu, c, rfl, hJ'⟩ := hC'
    have h1 : St w0 M [H'] (blk (w.heap.size + 1) (.loop (rec .done (some c))) :: (Lu ++ [dsA (w.heap.size :: N.ds)])) w' := St.unsep hS2
    have hl2 : w'.heap[w.heap.size + 1]? = some (.loop (rec .done (some c))) := h1.ok _ (.head _)
    have hp : (rec .done (some c)).pending = some c := by rw [hrec]
    refine ⟨some c, _, (run_endLoop hl2 (by rw [hrec]; exact fun e => nomatch e)).trans (congrArg (fun p => Result.ok p _) hp), ?_⟩
    have h2 := (h1.putObj (u := .loop { rec .done (some c) with state := .exhausted }) .head (soft_loop _) (soft_loop _)).drop .head
    exact hstop t c w.heap.size H' Lu _ _ rfl hJ' hx hF2 (h2.perm (List.perm_append_singleton _ _))
end
end Go.LM
namespace Go.LL
open Go
section
variable {P : Program} {N : FN} {F : List (Nat × Value)} {a : Act} {w : World} {d : Option Tmp} {ty : TypeId} {pos : String} {af : Array Edge} {g : Option (Nat × Bool)}
theorem e_max3 (hF : Fr N F a) {x y z : Operand} {ts : Array TypeId} {k : IntKind} {m n o : Int} (hx : opv F x = some (.int k m)) (hy : opv F y = some (.int k n)) (hz : opv F z = some (.int k o)) :
    (execOp a.eval ⟨d, .call ⟨.builtin .max, #[x, y, z], ts⟩, ty, pos, af, g⟩).run P w = .ok (.value (.int k (max (max m n) o))) w := by
  have : ∀ m n : Int, (if m < n then n else m) = max m n := fun m n => by simp only [Int.max_def]; split <;> split <;> omega
  simp [execOp, resolve, invoke, builtin, hF.ev hx, hF.ev hy, hF.ev hz, Builtin.max_, Builtin.max2, this]
end
end Go.LL
namespace Go.LM
open Go Go.LL Go.MD
theorem St.eqL {w0 w : World} {M : Nat → Prop} {Hs : List PH} {L L' : List HA} {A A' : HA} (hS : St w0 M Hs L w) (hr : Repl A A' L L') (e : A = A') : St w0 M Hs L' w := by
  subst e
  have : L = L' := by induction hr with
    | head => rfl
    | tail h ih => exact congrArg _ (ih (hS.sub (List.sublist_cons_self _ _)))
  exact this ▸ hS
end Go.LM
namespace Go.LM
open Go Go.LL Go.MD
section
variable {P : Program} {a : Act} {w : World} {N : FN} {F : List (Nat × Value)}
/-- three results, the first of which stands in a block -/
theorem r3c {fn : Func} {t b n u s : Nat} {ty : TypeId} {vs : List Value} {x y : Value} {R : Value → World → Prop} {how : Exit} (hh : how = .ret ∨ how = .normal) (hF : Fr N F a) (hr : fn.results = #[.cell t ty, .tmp u, .tmp s]) (ht : F.lookup t = some (.pointer (some ⟨b, 0, none⟩)))
    (hu : F.lookup u = some x) (hs : F.lookup s = some y)
    (hg : ∀ w, (isAgg ty).run P w = .ok true w) (hz : ∀ w, (sizeOf ty).run P w = .ok n w) (hn : vs.length = n) (hc : ∀ (j : Nat) (v : Value), vs[j]? = some v → w.cell? ⟨b, 0 + j, none⟩ = some v) (h : R (.tuple #[.agg vs.toArray, x, y]) w) (hds : N.ds = [] := by rfl) :
    bodyPost P fn (fun e w' => ∃ v, e = .returned v ∧ R v w') how a w := by
  have h1 := run_loadCells_list (P := P) w ⟨b, 0, none⟩ vs (fun j v hv => by rw [addLit]; exact hc j v hv)
  rw [hn] at h1
  have h2 : (results fn a.tmps).run P w = .ok (.tuple #[.agg vs.toArray, x, y]) w := by
    have e1 := hF.slots t _ ht
    have e2 := hF.slots u _ hu
    have e3 := hF.slots s _ hs
    simp [results, hr, e1, e2, e3, asAddr, loadVar, hg, hz, h1]
  rcases hh with rfl | rfl
  · exact bodyPost_ret h2 (hF.defers.trans (by rw [hds]; rfl)) ⟨_, rfl, h⟩
  · exact bodyPost_end h2 (hF.defers.trans (by rw [hds]; rfl)) ⟨_, rfl, h⟩
end
end Go.LM
namespace Go.LM
open Go Go.LL Go.MD
section
variable {P : Program} {a : Act} {w : World} {N : FN} {F : List (Nat × Value)} {fn : Func}
/-! what a function's results are, read at its very end -/
theorem res1t {t : Nat} {v : Value} (hF : Fr N F a) (hr : fn.results = #[.tmp t]) (ht : F.lookup t = some v) : (results fn a.tmps).run P w = .ok v w := by
  have e1 := hF.slots t _ ht
  simp [results, hr, e1]
theorem res3t {t u s : Nat} {v x y : Value} (hF : Fr N F a) (hr : fn.results = #[.tmp t, .tmp u, .tmp s]) (ht : F.lookup t = some v) (hu : F.lookup u = some x) (hs : F.lookup s = some y) : (results fn a.tmps).run P w = .ok (.tuple #[v, x, y]) w := by
  have e1 := hF.slots t _ ht
  have e2 := hF.slots u _ hu
  have e3 := hF.slots s _ hs
  simp [results, hr, e1, e2, e3]
theorem res1k {t b : Nat} {ty : TypeId} {v : Value} (hF : Fr N F a) (hr : fn.results = #[.cell t ty]) (ht : F.lookup t = some (.pointer (some ⟨b, 0, none⟩))) (hg : ∀ w, (isAgg ty).run P w = .ok false w) (hc : w.cell? ⟨b, 0, none⟩ = some v) : (results fn a.tmps).run P w = .ok v w := by
  have e1 := hF.slots t _ ht
  simp [results, hr, e1, asAddr, loadVar, hg, load, Sem.run, hc]
theorem res2k {t b t' b' : Nat} {ty ty' : TypeId} {v v' : Value} (hF : Fr N F a) (hr : fn.results = #[.cell t ty, .cell t' ty']) (ht : F.lookup t = some (.pointer (some ⟨b, 0, none⟩))) (ht' : F.lookup t' = some (.pointer (some ⟨b', 0, none⟩)))
    (hg : ∀ w, (isAgg ty).run P w = .ok false w) (hg' : ∀ w, (isAgg ty').run P w = .ok false w) (hc : w.cell? ⟨b, 0, none⟩ = some v) (hc' : w.cell? ⟨b', 0, none⟩ = some v') : (results fn a.tmps).run P w = .ok (.tuple #[v, v']) w := by
  have e1 := hF.slots t _ ht
  have e2 := hF.slots t' _ ht'
  simp [results, hr, e1, e2, asAddr, loadVar, hg, hg', load, Sem.run, hc, hc']
end
end Go.LM
namespace Go.LM
open Go Go.LL Go.MD
section
variable {P : Program} {w w' w0 : World} {M : Nat → Prop} {H H' : PH} {L L' : List HA} {A A' : HA}
theorem ExtM.nil (h : ExtM w0 Nil H H') : Ext w0 H H' := ⟨h.sub, fun b hb => (h.new b hb).imp id fun h => h.resolve_right id⟩
theorem St.ds0 (hS : St w0 M [H] L w) : St w0 M [H] (dsA [] :: L) w := hS.add (.refl _ _) ⟨fun x hx => (nomatch hx), .nil⟩ (fun b ⟨x, hx, _⟩ => (nomatch hx))
theorem sep1_ok {h : PH} (ho : A.ok h) : (sepA [A]).ok h := ⟨fun x hx => by simp only [List.mem_cons, List.not_mem_nil, or_false] at hx; subst hx; exact ho, List.pairwise_singleton _ _⟩
theorem sep1_fp {b : Nat} : (sepA [A]).fp b ↔ A.fp b := ⟨fun ⟨x, hx, hb⟩ => by simp only [List.mem_cons, List.not_mem_nil, or_false] at hx; subst hx; exact hb, fun h => ⟨A, .head _, h⟩⟩
theorem sep1_dis (hd : ∀ b, A.fp b → H b = none) : ∀ b, (sepA [A]).fp b → H b = none := fun b hb => hd b (sep1_fp.1 hb)
/-- an iterator's contract, as the law of the loop wants it -/
theorem hit_of {τ : Type} {C : τ → PH → List HA → Prop} {r : τ} {Lc : List HA} {f : FuncId} {args : Array Value} {v0 : Value}
    (h : Tot P f args w (fun v w' => ∃ (H' : PH) (Lcq : List HA), v = v0 ∧ C r H' Lcq ∧ ExtM w (sepA [sepA Lc]).fp H H' ∧ H'.le w' ∧ (∀ b, (sepA [sepA Lcq]).fp b → H' b = none) ∧ Mut w (sepA [sepA Lc]) (sepA [sepA Lcq]) w')) :
    Tot P f args w fun _ w' => ∃ H' Lc', C r H' Lc' ∧ MutH w (sepA Lc) H w' (sepA Lc') H' := by
  refine h.mono ?_
  rintro v w' ⟨H', Lq, -, hC, hx, hl, hd, hm⟩
  refine ⟨H', Lq, hC, ⟨⟨?_, ?_, ?_⟩, ⟨hx.sub, fun b hb => (hx.new b hb).imp id fun h => h.imp id fun h => sep1_fp.1 h⟩, hl, fun b hb => hd b (sep1_fp.2 hb)⟩⟩
  · exact hm.keep.mono fun x hx => sep1_fp.1 hx
  · exact hm.ok.1 _ (.head _)
  · intro b hb
    exact (hm.fp b (sep1_fp.2 hb)).imp (fun h => sep1_fp.1 h) id
end
end Go.LM
