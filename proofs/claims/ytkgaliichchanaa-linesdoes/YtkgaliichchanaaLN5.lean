/- Walks over the layer of lines: New. No condition beyond each theorem's own premises. -/
import Derived.Test.YtkgaliichchanaaLN4
namespace Go.LL
open Go Go.Proofs


theorem ofChk_append (l m : List Int) : ∀ (last : Int) (b : Bool), ofChk last b (l ++ m) = (ofChk last b l && ofChk (l.getLastD last) (b && l.isEmpty) m) := by
  induction l with
  | nil => intro last b; simp [ofChk]
  | cons x r ih =>
    intro last b
    simp only [List.cons_append, ofChk, ih, List.getLastD_cons, List.isEmpty_cons, Bool.and_false, Bool.false_and, Bool.and_assoc]
def lastOf (l : List Int) (k : Nat) : Int := (l.take k).getLastD (-1)
theorem ofChk_take {l : List Int} {i j : Nat} (hij : i ≤ j) (h : ofChk (-1) true (l.take j) = true) : ofChk (-1) true (l.take i) = true := by
  have : l.take j = l.take i ++ (l.take j).drop i := by
    conv => lhs; rw [← List.take_append_drop i (l.take j)]
    rw [List.take_take, Nat.min_eq_left hij]
  rw [this, ofChk_append] at h
  exact (Bool.and_eq_true _ _ ▸ h).1
theorem ofChk_succ {l : List Int} {k : Nat} (hk : k < l.length) : ofChk (-1) true (l.take (k + 1)) = (ofChk (-1) true (l.take k) && (decide (l[k] = lastOf l k + 1) || (!decide (k = 0) && decide (l[k] = lastOf l k)))) := by
  rw [List.take_succ_eq_append_getElem hk, ofChk_append]
  have : (l.take k).isEmpty = decide (k = 0) := by
    cases l with
    | nil => simp at hk
    | cons x r => cases k <;> simp
  simp only [ofChk, Bool.and_true, Bool.true_and, this, lastOf]
  rfl
theorem lastOf_succ {l : List Int} {k : Nat} (hk : k < l.length) : lastOf l (k + 1) = l[k] := by
  unfold lastOf
  rw [List.take_succ_eq_append_getElem hk, List.getLastD_eq_getLast?, List.getLast?_concat]
  rfl
theorem lastOf_bd {l : List Int} {k : Nat} (h : ofChk (-1) true (l.take k) = true) : -1 ≤ lastOf l k ∧ lastOf l k ≤ k := by
  unfold lastOf
  rw [List.getLastD_eq_getLast?]
  cases hx : (l.take k).getLast? with
  | none => simp only [Option.getD_none]; omega
  | some x =>
    have := ofChk_ge h x (List.mem_of_getLast? hx)
    have h2 : (l.take k).length ≤ k := by simp; omega
    simp only [Option.getD_some]
    omega
def newOk (of : List Int) (stays : Int) (firsts : List Int) : Prop := of.length = firsts.length ∧ of.length ≤ 20 ∧ 0 ≤ stays ∧ stays ≤ of.length ∧ ofChk (-1) true (of.take stays.toNat) = true
def newM (of : List Int) (stays : Int) (firsts : List Int) : MS := { of := of.take stays.toNat, firsts := firsts, l := firsts, kept := firsts.take stays.toNat, pend := fun _ => [] }
def newS (g : MG) (m : MS) : HA := sepA [sla 3 1 g.oo m.of.length g.co (ints m.of), sla 3 1 g.fo m.firsts.length g.cf (ints m.firsts)]
theorem newBad {of firsts : List Int} {stays : Int} {k : Nat} (hk : k < of.length) (hs : k < stays.toNat) (h1 : of[k] ≠ lastOf of k + 1) (h2 : k = 0 ∨ of[k] ≠ lastOf of k) : ¬ newOk of stays firsts := fun h => by
  have h3 := ofChk_take (i := k + 1) (by omega) h.2.2.2.2
  rw [ofChk_succ hk] at h3
  simp only [Bool.and_eq_true, Bool.or_eq_true, decide_eq_true_eq, Bool.not_eq_eq_eq_not, Bool.not_true, decide_eq_false_iff_not] at h3
  rcases h2 with h2 | h2
  · rcases h3.2 with h | h
    · exact h1 h
    · exact h.1 h2
  · rcases h3.2 with h | h
    · exact h1 h
    · exact h2 h.2
theorem MInv.new {of firsts : List Int} {stays : Int} (h : newOk of stays firsts) : MInv (newM of stays firsts) := by
  obtain ⟨h1, h2, h3, h4, h5⟩ := h
  refine ⟨h5, ?_, rfl, ?_, by simp only [newM]; omega, fun k x hx => by simp [newM] at hx, fun k => by simp [newM]⟩
  · simp [newM]; omega
  · simp [newM]; omega
theorem cloneN (w0 : World) (oa : Option Addr) (c n : Nat) (xs : List Int) (hr : Rd (hp w0) oa (ints xs)) (hn : n = xs.length) (hx : xs.length ≤ 1000000) :
    Tot Try.prog 32 #[.slice oa n c] w0 (fun v w' => ∃ oa' c', v = .slice oa' n c' ∧ Fresh w0 (sla 3 1 oa' n c' (ints xs)) w') := by
  subst hn; exact cloneI w0 oa c xs hr hx
theorem Rd.take {h : PH} {oa : Option Addr} {l : List Int} (hr : Rd h oa (ints l)) (k : Nat) : Rd h oa (ints (l.take k)) := by
  have e : ints (l.take k) = (ints l).take k := by simp [ints, List.map_take]
  rw [e]
  refine ⟨fun hne => hr.some (fun e => hne (by rw [e]; simp)), fun j v hj => hr.cell j v ?_⟩
  rw [List.getElem?_take] at hj
  split at hj
  · exact hj
  · cases hj

theorem Fresh.cut2 {w0 w : World} {A B : HA} {L : List HA} (h : Fresh w0 (sepA (A :: B :: L)) w) : Fresh w0 (sepA [sepA [A, B], sepA L]) w := by
  obtain ⟨h1, h2, h3⟩ := h
  obtain ⟨h4, h5⟩ := sepA_ok.1 h2
  obtain ⟨h6, h7⟩ := List.pairwise_cons.1 h5
  obtain ⟨h8, h9⟩ := List.pairwise_cons.1 h7
  refine ⟨h1, ⟨?_, ?_⟩, ?_⟩
  · intro X hX
    simp only [List.mem_cons, List.not_mem_nil, or_false] at hX
    rcases hX with rfl | rfl
    · exact ⟨fun Y hY => h4 Y (by simp only [List.mem_cons, List.not_mem_nil, or_false] at hY; rcases hY with rfl | rfl; exact .head _; exact .tail _ (.head _)), List.pairwise_cons.2 ⟨fun Y hY => by simp only [List.mem_cons, List.not_mem_nil, or_false] at hY; subst hY; exact h6 _ (.head _), List.pairwise_cons.2 ⟨fun Y hY => (nomatch hY), .nil⟩⟩⟩
    · exact ⟨fun Y hY => h4 Y (.tail _ (.tail _ hY)), h9⟩
  · refine List.pairwise_cons.2 ⟨fun Y hY => ?_, List.pairwise_cons.2 ⟨fun Y hY => (nomatch hY), .nil⟩⟩
    simp only [List.mem_cons, List.not_mem_nil, or_false] at hY
    subst hY
    rintro b ⟨X, hX, hb⟩ ⟨Z, hZ, hb2⟩
    simp only [List.mem_cons, List.not_mem_nil, or_false] at hX
    rcases hX with rfl | rfl
    · exact h6 Z (.tail _ hZ) b hb hb2
    · exact h8 Z hZ b hb hb2
  · rintro b ⟨X, hX, hb⟩
    simp only [List.mem_cons, List.not_mem_nil, or_false] at hX
    rcases hX with rfl | rfl
    · obtain ⟨Y, hY, hb⟩ := hb
      refine h3 b ⟨Y, ?_, hb⟩
      simp only [List.mem_cons, List.not_mem_nil, or_false] at hY
      rcases hY with rfl | rfl
      · exact .head _
      · exact .tail _ (.head _)
    · obtain ⟨Y, hY, hb⟩ := hb
      exact h3 b ⟨Y, .tail _ (.tail _ hY), hb⟩

set_option maxRecDepth 100000 in
theorem new_c (w0 : World) (oo fo : Option Addr) (cof cff : Nat) (of firsts : List Int) (stays : Int) (hro : Rd (hp w0) oo (ints of)) (hrf : Rd (hp w0) fo (ints firsts)) (hco : of.length ≤ cof) (hcf : firsts.length ≤ cff) :
    Tot Try.prog 17 #[.slice oo of.length cof, .int .i64 stays, .slice fo firsts.length cff] w0 (fun v w' => (¬ newOk of stays firsts ∧ v = .tuple #[.pointer none, .int .i64 1] ∧ Keep Nil w0 w') ∨ (newOk of stays firsts ∧ ∃ p g, v = .tuple #[.pointer (some ⟨p, 0, none⟩), .int .i64 0] ∧ g.pm = [] ∧ Fresh w0 (sepA [newS g (newM of stays firsts), memA p g (newM of stays firsts)]) w')) := by
  refine fn0 (args := [.slice oo of.length cof, .int .i64 stays, .slice fo firsts.length cff]) (F := [(0, .slice oo of.length cof), (1, .int .i64 stays), (2, .slice fo firsts.length cff)]) Try.func17 rfl Try.ntmps17 rfl rfl fun a hF => ?_
  have hS : St w0 Nil [hp w0] [] w0 := .start (by simp [hp_le])
  refine th <| rg <| ls <| q1 hF rfl (e_asg hF rfl) fun a hF =>
    ls <| q1 hF rfl (e_asg hF rfl) fun a hF =>
    re <| tn <| ?_
  refine th <| th <| rg <| ls <| q1 hF rfl (e_move hF rfl) fun a hF =>
    ls <| q1 hF rfl (e_lenS hF Try.runUnderlying26 rfl) fun a hF =>
    ls <| q1 hF rfl (e_move hF rfl) fun a hF =>
    ls <| q1 hF rfl (e_lenS hF Try.runUnderlying26 rfl) fun a hF =>
    ls <| q1 hF rfl (e_neq hF rfl rfl) fun a hF =>
    ls <| q1 hF rfl (e_move hF rfl) fun a hF =>
    Fr.split hF (t := 17) rfl (fun hb hF => ?_) (fun hb hF => ?_)
  ·
    replace hb := of_decide_eq_true hb
    refine ls <| gn hF rfl rfl rfl rfl fun a hF =>
      ls <| gn hF rfl rfl rfl rfl fun a hF =>
      ls <| gn hF rfl rfl rfl rfl fun a hF =>
      ls <| q1 hF rfl (e_pickT hF rfl rfl) fun a hF =>
      ls <| q1 hF rfl (e_move hF rfl) fun a hF =>
      ls <| gn hF rfl rfl rfl rfl fun a hF =>
      ls <| gn hF rfl rfl rfl rfl fun a hF =>
      ls <| q1 hF rfl (e_pickT hF rfl rfl) fun a hF =>
      ls <| q1 hF rfl (e_move hF rfl) fun a hF =>
      ls <| gn hF rfl rfl rfl rfl fun a hF =>
      ls <| gn hF rfl rfl rfl rfl fun a hF =>
      ls <| gn hF rfl rfl rfl rfl fun a hF =>
      ls <| gn hF rfl rfl rfl rfl fun a hF =>
      ls <| q1 hF rfl (e_pickT hF rfl rfl) fun a hF =>
      re <| tn <| ?_
    refine ct hF rfl <| th <| rg <| ls <| q1 hF rfl (e_asg hF rfl) fun a hF =>
      ls <| q1 hF rfl (e_asg hF rfl) fun a hF =>
      re <| tn <| ?_
    refine wr <| tr <| ?_
    exact r2 hF Try.results17 rfl rfl (.inl ⟨fun h => by have h1 := h.1; have h2 := h.2.1; have h3 := h.2.2.1; have h4 := h.2.2.2.1; omega, rfl, hS.keep⟩)
  ·
    replace hb := Classical.not_not.1 (of_decide_eq_false hb)
    refine ls <| gy hF rfl rfl <| q1 hF rfl (e_move hF rfl) fun a hF =>
      ls <| gy hF rfl rfl <| q1 hF rfl (e_lenS hF Try.runUnderlying26 rfl) fun a hF =>
      ls <| gy hF rfl rfl <| q1 hF rfl (e_gtr hF rfl rfl) fun a hF =>
      ls <| q1 hF rfl (e_pickF hF rfl rfl) fun a hF =>
      ls <| q1 hF rfl (e_move hF rfl) fun a hF =>
      Fr.split hF (t := 22) rfl (fun hb hF => ?_) (fun hb hF => ?_)
    ·
      replace hb := of_decide_eq_true hb
      refine ls <| gn hF rfl rfl rfl rfl fun a hF =>
        ls <| gn hF rfl rfl rfl rfl fun a hF =>
        ls <| q1 hF rfl (e_pickT hF rfl rfl) fun a hF =>
        ls <| q1 hF rfl (e_move hF rfl) fun a hF =>
        ls <| gn hF rfl rfl rfl rfl fun a hF =>
        ls <| gn hF rfl rfl rfl rfl fun a hF =>
        ls <| gn hF rfl rfl rfl rfl fun a hF =>
        ls <| gn hF rfl rfl rfl rfl fun a hF =>
        ls <| q1 hF rfl (e_pickT hF rfl rfl) fun a hF =>
        re <| tn <| ?_
      refine ct hF rfl <| th <| rg <| ls <| q1 hF rfl (e_asg hF rfl) fun a hF =>
        ls <| q1 hF rfl (e_asg hF rfl) fun a hF =>
        re <| tn <| ?_
      refine wr <| tr <| ?_
      exact r2 hF Try.results17 rfl rfl (.inl ⟨fun h => by have h1 := h.1; have h2 := h.2.1; have h3 := h.2.2.1; have h4 := h.2.2.2.1; omega, rfl, hS.keep⟩)
    ·
      replace hb := Int.not_lt.1 (of_decide_eq_false hb)
      refine ls <| gy hF rfl rfl <| q1 hF rfl (e_move hF rfl) fun a hF =>
        ls <| gy hF rfl rfl <| q1 hF rfl (e_lss hF rfl rfl) fun a hF =>
        ls <| q1 hF rfl (e_pickF hF rfl rfl) fun a hF =>
        ls <| q1 hF rfl (e_move hF rfl) fun a hF =>
        Fr.split hF (t := 26) rfl (fun hb hF => ?_) (fun hb hF => ?_)
      ·
        replace hb := of_decide_eq_true hb
        refine ls <| gn hF rfl rfl rfl rfl fun a hF =>
          ls <| gn hF rfl rfl rfl rfl fun a hF =>
          ls <| gn hF rfl rfl rfl rfl fun a hF =>
          ls <| gn hF rfl rfl rfl rfl fun a hF =>
          ls <| q1 hF rfl (e_pickT hF rfl rfl) fun a hF =>
          re <| tn <| ?_
        refine ct hF rfl <| th <| rg <| ls <| q1 hF rfl (e_asg hF rfl) fun a hF =>
          ls <| q1 hF rfl (e_asg hF rfl) fun a hF =>
          re <| tn <| ?_
        refine wr <| tr <| ?_
        exact r2 hF Try.results17 rfl rfl (.inl ⟨fun h => by have h1 := h.1; have h2 := h.2.1; have h3 := h.2.2.1; have h4 := h.2.2.2.1; omega, rfl, hS.keep⟩)
      ·
        replace hb := Int.not_lt.1 (of_decide_eq_false hb)
        refine ls <| gy hF rfl rfl <| q1 hF rfl (e_move hF rfl) fun a hF =>
          ls <| gy hF rfl rfl <| q1 hF rfl (e_move hF rfl) fun a hF =>
          ls <| gy hF rfl rfl <| q1 hF rfl (e_lenS hF Try.runUnderlying26 rfl) fun a hF =>
          ls <| gy hF rfl rfl <| q1 hF rfl (e_gtr hF rfl rfl) fun a hF =>
          ls <| q1 hF rfl (e_pickF hF rfl rfl) fun a hF =>
          re <| tn <| ?_
        refine cs hF rfl (fun hb => ?_) (fun hb => ?_)
        ·
          replace hb := of_decide_eq_true hb
          refine th <| rg <| ls <| q1 hF rfl (e_asg hF rfl) fun a hF =>
            ls <| q1 hF rfl (e_asg hF rfl) fun a hF =>
            re <| tn <| ?_
          refine wr <| tr <| ?_
          exact r2 hF Try.results17 rfl rfl (.inl ⟨fun h => by have h1 := h.1; have h2 := h.2.1; have h3 := h.2.2.1; have h4 := h.2.2.2.1; omega, rfl, hS.keep⟩)
        ·
          replace hb := Int.not_lt.1 (of_decide_eq_false hb)
          refine wk <| tn <| ?_
          refine th <| rg <| ls <| q1 hF rfl (e_asg hF rfl) fun a hF =>
            re <| tn <| ?_
          refine th <| th <| rg <| ls <| q1 hF rfl (e_move hF rfl) fun a hF =>
            ls <| q1 hF rfl (e_move hF rfl) fun a hF =>
            ls <| q1 hF rfl (e_slHi (h := stays.toNat) hF Try.runUnderlying26 Try.sizeOf3 rfl rfl (by omega) (by omega)) fun a hF =>
            ls <| q1 hF rfl (e_lenS hF Try.runUnderlying26 rfl) fun a hF =>
            ls <| q1 hF rfl (e_move hF rfl) fun a hF =>
            re <| tn <| ?_
          refine wb <| lp (α := Nat) (fun (gh : Nat) a w => match gh with | k => Fr 75 [(0, .slice oo of.length cof), (1, .int .i64 stays), (2, .slice fo firsts.length cff), (8, .int .i64 (lastOf of k)), (34, .slice oo stays.toNat cof), (35, .int .i64 ((stays.toNat : Nat) : Int)), (36, .int .i64 (k : Int))] a ∧ St w0 Nil [hp w0] [] w ∧ (k ≤ stays.toNat ∧ ofChk (-1) true (of.take k) = true)) (fun (gh : Nat) => match gh with | k => stays.toNat - k) 0 ⟨hF.has ⟨rfl, rfl, rfl, rfl, rfl, rfl, rfl, trivial⟩, hS, ⟨Nat.zero_le _, rfl⟩⟩ ?_
          clear hF hS
          rintro k a w ⟨hF, hS, hk, hchk⟩
          have hlb := lastOf_bd hchk
          refine th <| rg <| ls <| q1 hF rfl (e_lss hF rfl rfl) fun a hF =>
            re <| tn <| ?_
          refine th <| cs hF rfl (fun hb => ?_) (fun hb => ?_)
          ·
            replace hb := of_decide_eq_true hb
            refine wk <| tn <| ?_
            refine th <| wb <| th <| rg <| ls <| q1 hF rfl (e_move hF rfl) fun a hF =>
              ls <| q1 hF rfl (e_ia hF Try.runUnderlying26 Try.sizeOf3 rfl rfl rfl (by omega) (hro.some (ints_ne (l := of) (by omega)))) fun a hF =>
              ls <| q1 hF rfl (e_ld hF Try.isAgg3 rfl ((St.ld hS).elH (.head _) hro (ints_get (l := of) (k := k) (by omega)))) fun a hF =>
              ls <| q1 hF rfl (e_asg hF rfl) fun a hF =>
              ls <| q1 hF rfl (e_asg hF rfl) fun a hF =>
              re <| tn <| ?_
            refine th <| th <| rg <| ls <| q1 hF rfl (e_move hF rfl) fun a hF =>
              ls <| q1 hF rfl (e_move hF rfl) fun a hF =>
              ls <| q1 hF rfl (e_addI hF rfl rfl rfl (by omega)) fun a hF =>
              ls <| q1 hF rfl (e_neq hF rfl rfl) fun a hF =>
              ls <| q1 hF rfl (e_move hF rfl) fun a hF =>
              Fr.split hF (t := 45) rfl (fun hb hF => ?_) (fun hb hF => ?_)
            ·
              replace hb := of_decide_eq_true hb
              refine ls <| gy hF rfl rfl <| q1 hF rfl (e_move hF rfl) fun a hF =>
                ls <| gy hF rfl rfl <| q1 hF rfl (e_eql hF rfl rfl) fun a hF =>
                ls <| gy hF rfl rfl <| q1 hF rfl (e_move hF rfl) fun a hF =>
                Fr.split hF (t := 48) rfl (fun hb hF => ?_) (fun hb hF => ?_)
              ·
                replace hb := of_decide_eq_true hb
                refine ls <| gn hF rfl rfl rfl rfl fun a hF =>
                  ls <| gn hF rfl rfl rfl rfl fun a hF =>
                  ls <| gn hF rfl rfl rfl rfl fun a hF =>
                  ls <| gy hF rfl rfl <| q1 hF rfl (e_pickT hF rfl rfl) fun a hF =>
                  ls <| q1 hF rfl (e_pickT hF rfl rfl) fun a hF =>
                  re <| tn <| ?_
                refine ct hF rfl <| th <| rg <| ls <| q1 hF rfl (e_asg hF rfl) fun a hF =>
                  ls <| q1 hF rfl (e_asg hF rfl) fun a hF =>
                  re <| tn <| ?_
                refine wr <| tr <| br <| tr <| tr <| br <| tr <| ?_
                exact r2 hF Try.results17 rfl rfl (.inl ⟨newBad (k := k) (by omega) (by omega) (by omega) (by omega), rfl, hS.keep⟩)
              ·
                replace hb := of_decide_eq_false hb
                refine ls <| gy hF rfl rfl <| q1 hF rfl (e_move hF rfl) fun a hF =>
                  ls <| gy hF rfl rfl <| q1 hF rfl (e_move hF rfl) fun a hF =>
                  ls <| gy hF rfl rfl <| q1 hF rfl (e_neq hF rfl rfl) fun a hF =>
                  ls <| gy hF rfl rfl <| q1 hF rfl (e_pickF hF rfl rfl) fun a hF =>
                  ls <| q1 hF rfl (e_pickT hF rfl rfl) fun a hF =>
                  re <| tn <| ?_
                refine cs hF rfl (fun hb => ?_) (fun hb => ?_)
                ·
                  replace hb := of_decide_eq_true hb
                  refine th <| rg <| ls <| q1 hF rfl (e_asg hF rfl) fun a hF =>
                    ls <| q1 hF rfl (e_asg hF rfl) fun a hF =>
                    re <| tn <| ?_
                  refine wr <| tr <| br <| tr <| tr <| br <| tr <| ?_
                  exact r2 hF Try.results17 rfl rfl (.inl ⟨newBad (k := k) (by omega) (by omega) (by omega) (by omega), rfl, hS.keep⟩)
                ·
                  replace hb := Classical.not_not.1 (of_decide_eq_false hb)
                  refine wk <| tn <| ?_
                  refine rg <| ls <| q1 hF rfl (e_move hF rfl) fun a hF =>
                    ls <| q1 hF rfl (e_asg hF rfl) fun a hF =>
                    re <| bn <| tn <| ?_
                  refine rg <| ls <| q1 hF rfl (e_addI (r := (((k + 1) : Nat) : Int)) hF rfl rfl rfl (by omega)) fun a hF =>
                    ls <| q1 hF rfl (e_move hF rfl) fun a hF =>
                    re <| tn <| ?_
                  have hkl : k < of.length := by omega
                  have hcs : ofChk (-1) true (of.take (k + 1)) = true := by
                    rw [ofChk_succ hkl, hchk]
                    simp only [Bool.true_and, Bool.or_eq_true, Bool.and_eq_true, decide_eq_true_eq, Bool.not_eq_eq_eq_not, Bool.not_true, decide_eq_false_iff_not]
                    first | exact .inl (by omega) | exact .inr ⟨by omega, by omega⟩
                  rw [← lastOf_succ hkl] at hF
                  exact ⟨k + 1, ⟨hF.has ⟨rfl, rfl, rfl, rfl, rfl, rfl, rfl, trivial⟩, hS, ⟨by omega, hcs⟩⟩, (by dsimp only; omega)⟩
            ·
              replace hb := Classical.not_not.1 (of_decide_eq_false hb)
              refine ls <| gn hF rfl rfl rfl rfl fun a hF =>
                ls <| gn hF rfl rfl rfl rfl fun a hF =>
                ls <| gn hF rfl rfl rfl rfl fun a hF =>
                ls <| gnu hF rfl rfl rfl fun a hF =>
                ls <| gnu hF rfl rfl rfl fun a hF =>
                ls <| gnu hF rfl rfl rfl fun a hF =>
                ls <| gn hF rfl rfl rfl rfl fun a hF =>
                ls <| q1 hF rfl (e_pickF hF rfl rfl) fun a hF =>
                re <| tn <| ?_
              refine cf hF rfl <| wk <| tn <| ?_
              refine rg <| ls <| q1 hF rfl (e_move hF rfl) fun a hF =>
                ls <| q1 hF rfl (e_asg hF rfl) fun a hF =>
                re <| bn <| tn <| ?_
              refine rg <| ls <| q1 hF rfl (e_addI (r := (((k + 1) : Nat) : Int)) hF rfl rfl rfl (by omega)) fun a hF =>
                ls <| q1 hF rfl (e_move hF rfl) fun a hF =>
                re <| tn <| ?_
              have hkl : k < of.length := by omega
              have hcs : ofChk (-1) true (of.take (k + 1)) = true := by
                rw [ofChk_succ hkl, hchk]
                simp only [Bool.true_and, Bool.or_eq_true, Bool.and_eq_true, decide_eq_true_eq, Bool.not_eq_eq_eq_not, Bool.not_true, decide_eq_false_iff_not]
                first | exact .inl (by omega) | exact .inr ⟨by omega, by omega⟩
              rw [← lastOf_succ hkl] at hF
              exact ⟨k + 1, ⟨hF.has ⟨rfl, rfl, rfl, rfl, rfl, rfl, rfl, trivial⟩, hS, ⟨by omega, hcs⟩⟩, (by dsimp only; omega)⟩
          ·
            replace hb := Int.not_lt.1 (of_decide_eq_false hb)
            refine we <| tx <| tx <| bx <| tn <| ?_
            refine th <| rg <| ls <| q1 hF rfl (e_move hF rfl) fun a hF =>
              ls <| q1 hF rfl (e_move hF rfl) fun a hF =>
              ls <| q1 hF rfl (e_slHi (h := stays.toNat) hF Try.runUnderlying26 Try.sizeOf3 rfl rfl (by omega) (by omega)) fun a hF =>
              ls <| c1 hF rfl Try.call32 (cloneN _ _ _ _ ((of.take stays.toNat)) (hS.rdH (.head _) (hro.take stays.toNat)) (by first | rfl | (simp only [List.length_take]; omega)) (by (try simp only [List.length_take]); omega)) ⟨rfl, trivial⟩ (fun v w a hR hF => ?_)
            obtain ⟨oa1, cc1, rfl, hfr⟩ := hR
            replace hS := hS.fresh hfr
            clear hfr
            refine ls <| q1 hF rfl (e_move hF rfl) fun a hF =>
              ls <| c1 hF rfl Try.call32 (cloneN _ _ _ _ (firsts) (hS.rdH (.head _) hrf) (by first | rfl | (simp only [List.length_take]; omega)) (by (try simp only [List.length_take]); omega)) ⟨rfl, trivial⟩ (fun v w a hR hF => ?_)
            obtain ⟨oa2, cc2, rfl, hfr⟩ := hR
            replace hS := hS.fresh hfr
            clear hfr
            refine ls <| q1 hF rfl (e_move hF rfl) fun a hF =>
              ls <| c1 hF rfl Try.call32 (cloneN _ _ _ _ (firsts) (hS.rdH (.head _) hrf) (by first | rfl | (simp only [List.length_take]; omega)) (by (try simp only [List.length_take]); omega)) ⟨rfl, trivial⟩ (fun v w a hR hF => ?_)
            obtain ⟨oa3, cc3, rfl, hfr⟩ := hR
            replace hS := hS.fresh hfr
            clear hfr
            refine ls <| a_map hF rfl hS fun bm w a hS hF => ?_
            refine ls <| q1 hF rfl (e_bldZ [_, _, _, _] [none, none, none, some (.slice none 0 0), none] hF ⟨rfl, rfl, rfl, rfl, trivial⟩ (fun w => by kernel_rfl)) fun a hF =>
              ls <| a_box hF rfl hS rfl rfl fun b w a hS hF => ?_
            refine ls <| q1 hF rfl (e_asg hF rfl) fun a hF =>
              re <| tn <| ?_
            refine th <| rg <| ls <| q1 hF rfl (e_move hF rfl) fun a hF =>
              ls <| q1 hF rfl (e_move hF rfl) fun a hF =>
              ls <| q1 hF rfl (e_move hF rfl) fun a hF =>
              ls <| q1 hF rfl (e_slHi (h := stays.toNat) hF Try.runUnderlying26 Try.sizeOf3 rfl rfl (by omega) (by omega)) fun a hF =>
              ls <| c1 hF rfl Try.call32 (cloneN _ _ _ _ ((firsts.take stays.toNat)) (hS.rdH (.head _) (hrf.take stays.toNat)) (by first | rfl | (simp only [List.length_take]; omega)) (by (try simp only [List.length_take]); omega)) ⟨rfl, trivial⟩ (fun v w a hR hF => ?_)
            obtain ⟨oa4, cc4, rfl, hfr⟩ := hR
            replace hS := hS.fresh hfr
            clear hfr
            refine ls <| q1 hF rfl (e_nilp hF rfl) fun a hF =>
              ls <| q1 hF rfl (e_fa hF fa60_3 rfl) fun a hF =>
              ls <| s_blk hF hS Try.sizeOf26 rfl rfl rfl rfl (.tail .head) (.succ (.succ (.succ .zero))) fun w hS => ?_
            refine re <| tn <| ?_
            refine th <| rg <| ls <| q1 hF rfl (e_move hF rfl) fun a hF =>
              ls <| q1 hF rfl (e_asg hF rfl) fun a hF =>
              ls <| q1 hF rfl (e_asg hF rfl) fun a hF =>
              re <| tn <| ?_
            refine wr <| ?_
            obtain rfl : k = stays.toNat := by omega
            have e1 : (of.take stays.toNat).length = stays.toNat := by simp only [List.length_take]; omega
            have e2 : (firsts.take stays.toNat).length = stays.toNat := by simp only [List.length_take]; omega
            have h5 := hS.keep
            replace hS := (hS.nilBig pmA).pickL (.cons (.tail (.tail (.tail (.tail (.tail (.tail .head)))))) (.cons (.tail (.tail (.tail (.tail (.tail .head))))) (.cons (.tail (.tail .head)) (.cons (.tail (.tail (.tail .head))) (.cons (.tail .head) (.cons (.tail .head) (.cons .head .nil)))))))
            refine r2 hF Try.results17 rfl rfl (.inr ⟨⟨by omega, by omega, by omega, by omega, hchk⟩, _, { oo := oa1, fo := oa2, lo := oa3, ko := oa4, co := cc1, cf := cc2, cl := cc3, ck := cc4, mb := bm, clk := 0, pm := [] }, rfl, rfl, ?_⟩)
            have e3 := Fresh.cut2 hS.endFreshL
            simp only [newS, memA, memL, newM, e1, e2]
            exact e3

end Go.LL
