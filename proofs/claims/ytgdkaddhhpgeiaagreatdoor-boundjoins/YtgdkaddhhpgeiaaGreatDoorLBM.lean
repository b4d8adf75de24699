/- What is cut; joins of statements. No condition: plain lemmas. -/
import Derived.Test.YtgdkaddhhpgeiaaGreatDoorLBL
import Derived.Test.YtgdkaddhhpgeiaaGreatDoorLBF
namespace Go.MD.LB
open Go Go.MD
theorem CutN_loop (p : List api_Node) : ∀ (d j n : Nat) (out : List api_Node), j + d = 60 → d < n → out.length ≤ j →
    ∃ r, Z13 1001 Z12 p n out (j : Int) = some r ∧ r.length ≤ 60 := by
  intro d
  induction d with
  | zero =>
    intro j n out hj hn ho
    obtain ⟨n, rfl⟩ : ∃ m, n = m + 1 := ⟨n - 1, by omega⟩
    rw [Z13, if_neg (by simp; omega)]
    exact ⟨out, rfl, by omega⟩
  | succ d ih =>
    intro j n out hj hn ho
    obtain ⟨n, rfl⟩ : ∃ m, n = m + 1 := ⟨n - 1, by omega⟩
    by_cases h1 : j < p.length
    · rw [Z13, if_pos (by simp; omega), getI_at rfl h1]
      simp only [Option.bind_some]
      rw [subI_ok (by omega) (by omega) (by omega)]
      simp only [Option.bind_some]
      rw [appG_ok (by simp; omega) (by decide)]
      simp only [Option.bind_some]
      rw [wsucc (n := 60) (by omega) (by decide)]
      exact ih (j + 1) n _ (by omega) (by omega) (by simp; omega)
    · rw [Z13, if_neg (by simp; omega)]
      exact ⟨out, rfl, by omega⟩
theorem CutN (p : List api_Node) : ∃ r, Z11 1001 p = some r ∧ r.length ≤ 60 := CutN_loop p 60 0 1001 [] (by decide) (by decide) (Nat.le_refl _)
theorem CutS_loop (p : List api_Stmt) : ∀ (d j n : Nat) (out : List api_Stmt), j + d = 50 → d < n → out.length ≤ j → (∀ x ∈ out, smallS x) →
    ∃ r, Z16 1001 Z15 p n out (j : Int) = some r ∧ r.length ≤ 50 ∧ ∀ x ∈ r, smallS x := by
  intro d
  induction d with
  | zero =>
    intro j n out hj hn ho hs
    obtain ⟨n, rfl⟩ : ∃ m, n = m + 1 := ⟨n - 1, by omega⟩
    rw [Z16, if_neg (by simp; omega)]
    exact ⟨out, rfl, by omega, hs⟩
  | succ d ih =>
    intro j n out hj hn ho hs
    obtain ⟨n, rfl⟩ : ∃ m, n = m + 1 := ⟨n - 1, by omega⟩
    by_cases h1 : j < p.length
    · rw [Z16, if_pos (by simp; omega), getI_at rfl h1]
      simp only [Option.bind_some]
      rw [subI_ok (by omega) (by omega) (by omega)]
      simp only [Option.bind_some]
      rw [subI_ok (by omega) (by omega) (by omega)]
      simp only [Option.bind_some]
      obtain ⟨e, he, hel⟩ := CutN p[j].E
      obtain ⟨g, hg, hgl⟩ := CutN p[j].F
      rw [he, hg]
      simp only [Option.bind_some]
      rw [appG_ok (by simp; omega) (by decide)]
      simp only [Option.bind_some]
      rw [wsucc (n := 50) (by omega) (by decide)]
      refine ih (j + 1) n _ (by omega) (by omega) (by simp; omega) ?_
      intro x hx
      rcases List.mem_append.1 hx with hx | hx
      · exact hs x hx
      · simp only [List.mem_cons, List.not_mem_nil, or_false] at hx
        subst hx; exact ⟨hel, hgl⟩
    · rw [Z16, if_neg (by simp; omega)]
      exact ⟨out, rfl, by omega, hs⟩
theorem CutS (p : List api_Stmt) : ∃ r, Z14 1001 p = some r ∧ r.length ≤ 50 ∧ ∀ x ∈ r, smallS x := CutS_loop p 50 0 1001 [] (by decide) (by decide) (Nat.le_refl _) (fun x hx => nomatch hx)
theorem fix_b : ((Z18 1001).bind fun r => some r) = some true := by rw [fixed07]; rfl
theorem Steps_spec {l : List api_Stmt} (hl : l.length ≤ 1000) (hs : ∀ x ∈ l, smallS x) : (∃ t, RB l t ∧ Z8 1001 l = some (t.steps : Int)) ∨ ((¬ ∃ t, RB l t) ∧ Z8 1001 l = some (-1)) := by
  obtain ⟨b, h1, h2, h3⟩ := SRight hl hs
  unfold Z8
  rw [h1]
  simp only [Option.bind_some]
  cases b with
  | false => exact .inr ⟨fun h => (by cases h3.2 h), rfl⟩
  | true =>
    obtain ⟨t, ht⟩ := h3.1 rfl
    refine .inl ⟨t, ht, ?_⟩
    rw [if_pos rfl, ht.flat, steps_eq 1001 t ht.ok (by have := ht.ok.size; omega)]
    rfl
def B.app : B → B → B
  | .nil, c => c
  | .cons x a b r, c => .cons x a b (r.app c)
theorem B.app_flat : ∀ b c : B, (b.app c).flat = b.flat ++ c.flat
  | .nil, c => rfl
  | .cons x a b r, c => by simp [B.app, B.flat, r.app_flat c]
theorem B.app_good {p : Nat} {c : B} (hc : c.good p) : ∀ b : B, b.good p → (b.app c).good p
  | .nil, _ => hc
  | .cons x a b r, ⟨h1, h2, h3, h4, h5, h6, h7, h8⟩ => ⟨h1, h2, h3, h4, h5, h6, h7, B.app_good hc r h8⟩
theorem B.app_steps : ∀ b c : B, (b.app c).steps = b.steps + c.steps
  | .nil, c => by simp [B.app, B.steps]
  | .cons x a b r, c => by simp only [B.app, B.steps, r.app_steps c]; omega
theorem B.good_up : ∀ (b : B) {p q : Nat}, p ≤ q → b.good p → b.good q
  | .nil, _, _, _, _ => trivial
  | .cons x a b r, p, q, hpq, ⟨h1, h2, h3, h4, h5, h6, h7, h8⟩ =>
    have hin : inL x p ≤ inL x q := by unfold inL; split <;> omega
    ⟨h1, h2, h3, h4, fun h => h5 ⟨h.1, by omega⟩, a.good_up hin h6, b.good_up hin h7, r.good_up hpq h8⟩
theorem iand_in {x : Int} {m : Nat} (hm : m ≤ 4611686018427387904) : 0 ≤ iand .i64 x (m : Int) ∧ iand .i64 x (m : Int) ≤ (m : Int) := by
  unfold iand
  have h1 : (BitVec.ofInt (IntKind.bits .i64) x &&& BitVec.ofInt (IntKind.bits .i64) (m : Int)).toNat ≤ m := by
    rw [BitVec.toNat_and]
    refine Nat.le_trans Nat.and_le_right ?_
    rw [BitVec.ofInt_natCast, BitVec.toNat_ofNat]
    exact Nat.mod_le _ _
  rw [w64 (by omega) (by omega)]
  omega
theorem BoundJoins_eq (p1 p6 : List api_Stmt) (p11 : Int) : Z17 1001 p1 p6 p11 = some true := by
  unfold Z17
  obtain ⟨l, hl, ll, sl⟩ := CutS p1
  obtain ⟨m, hm, lm, sm⟩ := CutS p6
  rw [hl, hm]
  simp only [Option.bind_some]
  obtain ⟨hk1, hk2⟩ := iand_in (x := p11) (m := 7) (by decide)
  rw [show ((7 : Nat) : Int) = 7 from rfl] at hk1 hk2
  generalize iand .i64 p11 7 = k at hk1 hk2
  have e1 : appG 120 ([] : List api_Stmt) l = some l := by rw [appG_ok (by simp; omega) (by decide)]; rfl
  have e2 : appG 120 l m = some (l ++ m) := appG_ok (by omega) (by decide)
  have slm : ∀ x ∈ l ++ m, smallS x := fun x hx => (List.mem_append.1 hx).elim (sl x) (sm x)
  rw [e1]
  simp only [Option.bind_some, e2]
  have wk : IntKind.i64.wrap (1 + k) = 1 + k := w64 (by omega) (by omega)
  rw [wk]
  generalize hx : (api_Stmt.mk 12 [] [] [] [] (1 + k) (l.length : Int) 0 0) = x
  have e3 : appG 120 [x] l = some (x :: l) := by rw [appG_ok (by simp; omega) (by decide)]; rfl
  have sxl : ∀ y ∈ x :: l, smallS y := by
    intro y hy
    rcases List.mem_cons.1 hy with rfl | hy
    · subst hx; exact ⟨Nat.zero_le _, Nat.zero_le _⟩
    · exact sl y hy
  rcases Steps_spec (by omega) sl with ⟨t, ht, hts⟩ | ⟨_, hts⟩
  · rcases Steps_spec (by omega) sm with ⟨u, hu, hus⟩ | ⟨_, hus⟩
    · rcases Steps_spec (l := l ++ m) (by simp; omega) slm with ⟨v, hv, hvs⟩ | ⟨_, hvs⟩
      · rw [hts, hus, hvs]
        simp only [Option.bind_some]
        rw [if_neg (by simp only [Bool.or_eq_true, decide_eq_true_eq]; omega), e3]
        simp only [Option.bind_some]
        have ev : v = t.app u := B.uniq hv.good (B.app_good hu.good t ht.good) (by rw [B.app_flat, ← hv.flat, ht.flat, hu.flat])
        have bt := ht.ok.big
        have bu := hu.ok.big
        have bv := hv.ok.big
        unfold BIG at bt bu bv
        have c1 : ((v.steps : Int) = IntKind.i64.wrap ((t.steps : Int) + (u.steps : Int))) := by
          rw [w64 (by omega) (by omega), ev, B.app_steps]; omega
        rcases Steps_spec (l := x :: l) (by simp; omega) sxl with ⟨w, hw, hws⟩ | ⟨_, hws⟩
        · rw [hws]
          simp only [Option.bind_some]
          have ew : w = .cons x t .nil .nil := B.uniq (q := 0) hw.good (by
            subst hx
            have hlen := congrArg List.length ht.flat
            rw [B.flat_len] at hlen
            refine ⟨by simp only; omega, rfl, fun h => absurd (.inr rfl) h, fun _ => rfl, ?_, t.good_up (Nat.zero_le _) ht.good, trivial, trivial⟩
            rintro ⟨h, _⟩; exact absurd (show (12 : Int) = 13 from h) (by decide)) (by rw [← hw.flat, ht.flat]; simp [B.flat])
          have c2 : (w.steps : Int) = IntKind.i64.wrap ((1 + k) * (t.steps : Int)) := by
            have bw := hw.ok.big
            unfold BIG at bw
            have : w.steps = (1 + k).toNat * t.steps := by
              rw [ew]; subst hx
              simp [B.steps]
            obtain ⟨q, hq⟩ : ∃ q : Nat, 1 + k = (q : Int) := ⟨(1 + k).toNat, by omega⟩
            rw [hq, Int.toNat_natCast] at this
            rw [hq, ← Int.natCast_mul, ← this, w64 (by omega) (by omega)]
          rw [if_pos (by simp only [Bool.and_eq_true, Bool.or_eq_true, decide_eq_true_eq]; exact ⟨c1, .inr c2⟩)]
          exact fix_b
        · rw [hws]
          simp only [Option.bind_some]
          rw [if_pos (by simp only [Bool.and_eq_true, Bool.or_eq_true, decide_eq_true_eq]; exact ⟨c1, .inl (by decide)⟩)]
          exact fix_b
      · rw [hts, hus, hvs]
        simp only [Option.bind_some]
        rw [if_pos (by simp)]
        exact fix_b
    · rw [hts, hus]
      simp only [Option.bind_some]
      rcases Steps_spec (l := l ++ m) (by simp; omega) slm with ⟨v, hv, hvs⟩ | ⟨_, hvs⟩ <;>
      · rw [hvs]
        simp only [Option.bind_some]
        rw [if_pos (by simp)]
        exact fix_b
  · rw [hts]
    simp only [Option.bind_some]
    rcases Steps_spec (by omega) sm with ⟨u, hu, hus⟩ | ⟨_, hus⟩ <;>
    · rw [hus]
      simp only [Option.bind_some]
      rcases Steps_spec (l := l ++ m) (by simp; omega) slm with ⟨v, hv, hvs⟩ | ⟨_, hvs⟩ <;>
      · rw [hvs]
        simp only [Option.bind_some]
        rw [if_pos (by simp)]
        exact fix_b
end Go.MD.LB
