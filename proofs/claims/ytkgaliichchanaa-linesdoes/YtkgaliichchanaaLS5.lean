/- The document's memory: New, told of the program's memory. No condition beyond the theorems' own premises. -/
import Derived.Test.YtkgaliichchanaaLS4
import Derived.Test.YtkgaliichchanaaLN9
set_option linter.unusedSectionVars false
namespace Go.MD.LINES
open Go Go.MD Go.LL
theorem new_l2 {N : Nat} {of : List Int} {st : Int} {kk : Option ((Option Rm) × Int)} (h20 : of.length ≤ 20) (h0 : 0 ≤ st) (h1 : st ≤ of.length) : ∀ (d n i : Nat), i + d = st.toNat → d < n → ofChk (-1) true (of.take i) = true →
    leadlineref11_New_l2 N kk of st n (i : Int) = if ofChk (-1) true (of.take st.toNat) = true then kk else some (none, 1) := by
  intro d
  induction d with
  | zero =>
    intro n i hi hn hc
    obtain ⟨n, rfl⟩ : ∃ q, n = q + 1 := ⟨n - 1, by omega⟩
    rw [leadlineref11_New_l2, if_neg (by omega), ← hi, Nat.add_zero, if_pos hc]
  | succ d ih =>
    intro n i hi hn hc
    obtain ⟨n, rfl⟩ : ∃ q, n = q + 1 := ⟨n - 1, by omega⟩
    have hl : i < of.length := by omega
    have hs := ofChk_succ hl
    rw [hc, Bool.true_and] at hs
    have hb := lastOf_bd hc
    have good : ofChk (-1) true (of.take (i + 1)) = true → leadlineref11_New_j3 (leadlineref11_New_l2 N kk of st n) (i : Int) false = if ofChk (-1) true (of.take st.toNat) = true then kk else some (none, 1) := by
      intro hg
      rw [leadlineref11_New_j3, if_neg (by decide), wsucc hl (by omega)]
      exact ih n (i + 1) (by omega) (by omega) hg
    have bad : ofChk (-1) true (of.take (i + 1)) = false → leadlineref11_New_j3 (leadlineref11_New_l2 N kk of st n) (i : Int) true = if ofChk (-1) true (of.take st.toNat) = true then kk else some (none, 1) := by
      intro hg
      rw [leadlineref11_New_j3, if_pos rfl, if_neg]
      intro h
      rw [ofChk_take (i := i + 1) (by omega) h] at hg
      cases hg
    have both : ∀ b, ofChk (-1) true (of.take (i + 1)) = !b → leadlineref11_New_j3 (leadlineref11_New_l2 N kk of st n) (i : Int) b = if ofChk (-1) true (of.take st.toNat) = true then kk else some (none, 1) := fun b hb => by
      cases b
      · exact good hb
      · exact bad hb
    rw [leadlineref11_New_l2, if_pos (by omega)]
    by_cases e : i = 0
    · subst e
      rw [show ((0 : Nat) : Int) = 0 from rfl] at good bad ⊢
      rw [if_pos rfl, getI_at (i := 0) (j := 0) rfl hl]
      simp only [Option.bind_some]
      have hlast : lastOf of 0 = -1 := rfl
      rw [hlast] at hs
      by_cases e : of[0] = 0
      · rw [if_neg (fun h => h e), if_neg (by decide)]
        exact good (by rw [hs, e]; rfl)
      · rw [if_pos e]
        exact bad (by rw [hs]; simp [e])
    · have hp : lastOf of i = of[i - 1] := by
        have := lastOf_succ (l := of) (k := i - 1) (by omega)
        rwa [show i - 1 + 1 = i by omega] at this
      rw [if_neg (by omega), if_pos (by omega), getI_at rfl hl]
      simp only [Option.bind_some]
      rw [w64 (n := (i : Int) - 1) (by omega) (by omega), getI_at (j := i - 1) (by omega) (by omega)]
      simp only [Option.bind_some]
      rw [← hp, w64 (n := lastOf of i + 1) (by omega) (by omega)]
      refine both _ ?_
      rw [hs]
      by_cases e1 : of[i] = lastOf of i <;> by_cases e2 : of[i] = lastOf of i + 1 <;> simp [e, e1, e2]
theorem New_no {of fi : List Int} {st : Int} (h : ¬ newOk of st fi) : leadlineref11_New 2000 of st fi = some (none, 1) := by
  unfold leadlineref11_New
  split
  · rfl
  · rename_i hc
    simp only [Bool.or_eq_true, decide_eq_true_eq, not_or, Classical.not_not, Int.not_lt] at hc
    obtain ⟨⟨⟨c1, c2⟩, c3⟩, c4⟩ := hc
    have := new_l2 (N := 2000) (kk := leadlineref11_New_j1 of st fi) (of := of) (by omega) c3 c4 st.toNat 2000 0 (by omega) (by omega) rfl
    rw [show ((0 : Nat) : Int) = 0 from rfl] at this
    rw [this, if_neg]
    exact fun hk => h ⟨by omega, by omega, c3, c4, hk⟩
theorem New_yes {of fi : List Int} {st : Int} (h : newOk of st fi) : ∃ k, leadlineref11_New 2000 of st fi = some (some k, 0) ∧ Sim (newM of st fi) k ∧ k.W = [] := by
  obtain ⟨h1, h2, h3, h4, h5⟩ := h
  unfold leadlineref11_New
  rw [if_neg (by simp; omega)]
  have := new_l2 (N := 2000) (kk := leadlineref11_New_j1 of st fi) (of := of) (by omega) h3 h4 st.toNat 2000 0 (by omega) (by omega) rfl
  rw [show ((0 : Nat) : Int) = 0 from rfl] at this
  rw [this, if_pos h5]
  unfold leadlineref11_New_j1
  have t1 : (of.take st.toNat).length ≤ 20 := by rw [List.length_take]; omega
  have t2 : (fi.take st.toNat).length ≤ 20 := by rw [List.length_take]; omega
  rw [subI_ok (by omega) h3 h4]
  simp only [Option.bind_some, Int.toNat_zero, List.drop_zero]
  rw [appG_ok (by simp; omega) (by decide)]
  simp only [Option.bind_some, List.nil_append]
  rw [appG_ok (by simp; omega) (by decide)]
  simp only [Option.bind_some, List.nil_append]
  rw [subI_ok (by omega) h3 (by omega)]
  simp only [Option.bind_some, Int.toNat_zero, List.drop_zero]
  rw [appG_ok (by simp; omega) (by decide)]
  simp only [Option.bind_some, List.nil_append]
  exact ⟨_, rfl, ⟨rfl, rfl, rfl, rfl, fun j => rfl, fun w hw => nomatch hw⟩, rfl⟩
end Go.MD.LINES
namespace Go.LM.LINES
open Go Go.LL Go.MD Go.LM Go.Proofs Go.MD.LINES
theorem knewN {w0 : World} {h : PH} (hl : h.le w0) {oo fo : Option Addr} {co cf : Nat} {of fi : List Int} {st : Int} (h1 : of.length ≤ co) (r1 : SR h oo of) (h2 : fi.length ≤ cf) (r2 : SR h fo fi) (hn : ¬ newOk of st fi) :
    Tot Try.prog 21 #[.slice oo of.length co, .int .i64 st, .slice fo fi.length cf] w0 (fun v w' => v = .tuple #[.pointer none, .int .i64 1] ∧ Keep Nil w0 w') :=
  (leadlineref11_New_c hl h1 r1 h2 r2 (New_no hn)).mono fun v w' hR => by
    obtain ⟨vm, A, rfl, hp, hf⟩ := hR
    rcases hp with ⟨rfl, rfl, _⟩ | ⟨_, _, _, _, _, _, _, _, _, _, _, _, _, _, _, _, k, _, _, e, _⟩
    · exact ⟨rfl, hf.keep⟩
    · cases e
/-- what a new one shares, and itself -/
def kS (g : KG) (k : Rm) : HA := sepA [sla 3 1 g.oo k.Of.length g.co (ints k.Of), sla 3 1 g.fo k.Firsts.length g.cf (ints k.Firsts)]
theorem knewY {w0 : World} {h : PH} (hl : h.le w0) {oo fo : Option Addr} {co cf : Nat} {of fi : List Int} {st : Int} (h1 : of.length ≤ co) (r1 : SR h oo of) (h2 : fi.length ≤ cf) (r2 : SR h fo fi) (hn : newOk of st fi) :
    Tot Try.prog 21 #[.slice oo of.length co, .int .i64 st, .slice fo fi.length cf] w0 (fun v w' => ∃ p g k, v = .tuple #[.pointer (some ⟨p, 0, none⟩), .int .i64 0] ∧ Sim (newM of st fi) k ∧ k.W = [] ∧ Fresh w0 (sepA [kS g k, kA p g k]) w') := by
  obtain ⟨k, e, s, hW⟩ := New_yes hn
  refine (leadlineref11_New_c hl h1 r1 h2 r2 e).mono fun v w' hR => ?_
  obtain ⟨vm, A, rfl, hp, hf⟩ := hR
  rcases hp with ⟨_, _, e⟩ | ⟨b, o0, c0, v0, o1, c1, v1, o2, c2, v2, o3, c3, v3, o4, c4, v4, k', rfl, rfl, e, q0, q1, q2, q3, q4⟩
  · cases e
  · obtain rfl := Option.some.inj e
    have e0 := ints_rows (q0 h); have e1 := ints_rows (q1 h); have e2 := ints_rows (q2 h); have e3 := ints_rows (q3 h); have e4 := put_rows (q4 h)
    subst e0; subst e1; subst e2; subst e3; subst e4
    refine ⟨b, ⟨o0, c0, o1, c1, o2, c2, o3, c3, o4, c4⟩, k, rfl, s, hW, ?_⟩
    have hS : St w0 Nil [h] [] w0 := start1 hl
    have h3 := hS.fresh hf
    have h4 : St w0 Nil [h] _ w' := h3.unsep
    have h5 := h4.pickL (L' := [sla 3 1 o0 k.Of.length c0 (ints k.Of), sla 3 1 o1 k.Firsts.length c1 (ints k.Firsts), blk b (.cells [.slice o0 k.Of.length c0, .slice o1 k.Firsts.length c1, .slice o2 k.L.length c2, .slice o3 k.K.length c3, .slice o4 k.W.length c4].toArray 71 (0, 0)), sla 3 1 o2 k.L.length c2 (ints k.L), sla 3 1 o3 k.K.length c3 (ints k.K), sla 73 3 o4 k.W.length c4 (putCs k.W)])
      (.cons (.tail .head) (.cons (.tail .head) (.cons .head (.cons .head (.cons .head (.cons .head .nil))))))
    exact Fresh.cut2 h5.endFreshL
theorem knewF {h : PH} {g : KG} {k : Rm} (ho : (kS g k).ok h) : KF h g k := by
  have h1 := (sepA_ok.1 ho).1
  have a := h1 (sla 3 1 g.oo k.Of.length g.co (ints k.Of)) (.head _)
  have b := h1 (sla 3 1 g.fo k.Firsts.length g.cf (ints k.Firsts)) (.tail _ (.head _))
  exact ⟨SlOk.cap a, SR_ints (SlOk.rd a), SlOk.cap b, SR_ints (SlOk.rd b)⟩
end Go.LM.LINES
