/- The document's memory as it lies in memory; its calls, told of the program's memory. No condition beyond the theorems' own premises. -/
import Derived.Test.YtkgaliichchanaaLRW4
import Derived.Test.YtkgaliichchanaaLRW5
import Derived.Test.YtkgaliichchanaaLS3
set_option linter.unusedSectionVars false
namespace Go.LM.LINES
open Go Go.LL Go.MD Go.LM Go.Proofs Go.MD.LINES
structure KG where
  oo : Option Addr
  co : Nat
  fo : Option Addr
  cf : Nat
  lo : Option Addr
  cl : Nat
  ko : Option Addr
  ck : Nat
  wo : Option Addr
  cw : Nat
def putC (w : Rp) : List Value := [.int .i64 w.Line, .int .i64 w.Cell, .int .i64 w.N]
def putCs (l : List Rp) : List Value := l.flatMap putC
theorem rows_ints {h : PH} : ∀ xs : List Int, Rows h (ints xs) xs
  | [] => .nil
  | x :: r => .cons (c := [.int .i64 x]) rfl (rows_ints r)
theorem ints_rows {h : PH} {vs : List Value} {xs : List Int} (hr : Rows h vs xs) : vs = ints xs := by
  induction hr with
  | nil => rfl
  | cons hc _ ih => rw [ih, show _ = _ from hc]; rfl
theorem rows_put {h : PH} : ∀ xs : List Rp, Rows h (putCs xs) xs
  | [] => .nil
  | x :: r => .cons (c := putC x) ⟨[.int .i64 x.Line], _, rfl, rfl, [.int .i64 x.Cell], _, rfl, rfl, rfl⟩ (rows_put r)
theorem put_rows {h : PH} {vs : List Value} {xs : List Rp} (hr : Rows h vs xs) : vs = putCs xs := by
  induction hr with
  | nil => rfl
  | cons hc _ ih => rw [ih, leadlineref11_Put_open hc]; rfl
def kL (p : Nat) (g : KG) (k : Rm) : List HA :=
  [blk p (.cells [.slice g.oo k.Of.length g.co, .slice g.fo k.Firsts.length g.cf, .slice g.lo k.L.length g.cl, .slice g.ko k.K.length g.ck, .slice g.wo k.W.length g.cw].toArray 71 (0, 0)),
   sla 3 1 g.lo k.L.length g.cl (ints k.L), sla 3 1 g.ko k.K.length g.ck (ints k.K), sla 73 3 g.wo k.W.length g.cw (putCs k.W)]
def kA (p : Nat) (g : KG) (k : Rm) : HA := sepA (kL p g k)
structure KF (h : PH) (g : KG) (k : Rm) : Prop where
  co : k.Of.length ≤ g.co
  ro : SR h g.oo k.Of
  cf : k.Firsts.length ≤ g.cf
  rf : SR h g.fo k.Firsts
theorem KF.mono {h h' : PH} {g : KG} {k : Rm} (hf : KF h g k) (hm : ∀ b o, h b = some o → h' b = some o) : KF h' g k := ⟨hf.co, hf.ro.mono hm, hf.cf, hf.rf.mono hm⟩
theorem SR_ints {h : PH} {oa : Option Addr} {xs : List Int} (hr : Rd h oa (ints xs)) : SR h oa xs := ⟨ints xs, hr, rows_ints xs⟩
theorem apart_sep {K : List HA} {B : HA} (h : ∀ A ∈ K, Apart A B) : Apart (sepA K) B := fun b ⟨A, hA, hb⟩ => h A hA b hb
/-- a list with one more at its end, as two -/
theorem Mut.tail {w w' : World} {A : HA} {K : List HA} {B : HA} (h : Mut w A (sepA (K ++ [B])) w') : Mut w A (sepA [sepA K, B]) w' := by
  obtain ⟨o1, o2⟩ := h.ok
  obtain ⟨d1, _, d3⟩ := List.pairwise_append.1 o2
  refine ⟨h.keep, ⟨fun C hC => ?_, ?_⟩, fun b hb => h.fp b ?_⟩
  · rcases List.mem_cons.1 hC with rfl | hC
    · exact ⟨fun D hD => o1 D (List.mem_append_left _ hD), d1⟩
    · rw [List.mem_singleton] at hC; subst hC; exact o1 C (List.mem_append_right _ (.head _))
  · exact List.pairwise_cons.2 ⟨fun D hD => by rw [List.mem_singleton] at hD; subst hD; exact apart_sep fun A hA => d3 A hA D (.head _), List.pairwise_singleton _ _⟩
  · obtain ⟨C, hC, hb⟩ := hb
    rcases List.mem_cons.1 hC with rfl | hC
    · obtain ⟨D, hD, hb⟩ := hb
      exact ⟨D, List.mem_append_left _ hD, hb⟩
    · rw [List.mem_singleton] at hC; subst hC
      exact ⟨C, List.mem_append_right _ (.head _), hb⟩
/-- rows that are frozen, one by one -/
theorem rows_of {H : PH} {vs : List Value} {l : List (List Int)} (hr : Rows H vs l) : ∃ rs : List Row, vs = rowsV rs ∧ rs.map (·.xs) = l ∧ ∀ r ∈ rs, Rd H r.oa (ints r.xs) := by
  induction hr with
  | nil => exact ⟨[], rfl, rfl, fun r hr => nomatch hr⟩
  | cons hc _ ih =>
    obtain ⟨rs, e1, e2, e3⟩ := ih
    obtain ⟨oa, cap, ec, _, vs', hrd, hrr⟩ := hc
    have e4 := ints_rows hrr
    subst e4
    refine ⟨⟨oa, cap, _⟩ :: rs, by rw [ec, e1]; rfl, by rw [List.map_cons, e2], fun r hr => ?_⟩
    rcases List.mem_cons.1 hr with rfl | hr
    · exact hrd
    · exact e3 r hr
section
variable {w0 : World} {h : PH} (hl : h.le w0) {p : Nat} {g : KG} {m : MS} {k : Rm} (ho : (kA p g k).ok (hp w0)) (hd : ∀ b, (kA p g k).fp b → h b = none) (hf : KF h g k) (hi : MInv m) (hs : Sim m k) (hw : k.W.length ≤ 1000)
include hl ho hd hf hi hs hw
theorem kwrite_c (cell n : Int) : Tot Try.prog 22 #[.pointer (some ⟨p, 0, none⟩), .int .i64 cell, .int .i64 n] w0 (fun v w' => ∃ g' k', v = .int .i64 (if 0 ≤ cell ∧ cell < (m.l.length : Int) then 0 else 1) ∧ KF h g' k' ∧ Sim (writeM m cell n) k' ∧ k'.W.length ≤ k.W.length + 1 ∧ Mut w0 (kA p g k) (kA p g' k') w') := by
  obtain ⟨k', e, s, c⟩ := Write_eq (N := 2000) hi hs hw cell n
  refine (leadlineref11_Mem_Write__m0_71_ffooo_c hl hf.co hf.ro hf.cf hf.rf (rows_ints _) (rows_ints _) (rows_put _) ho hd e).mono fun v w' hR => ?_
  obtain ⟨o1, c1, o2, c2, o3, c3, v3, o4, c4, v4, o5, c5, v5, rfl, q1, q2, q3, q4, q5, q6, q7, hm⟩ := hR
  have e3 := ints_rows (q5 h); have e4 := ints_rows (q6 h); have e5 := put_rows (q7 h)
  subst e3; subst e4; subst e5
  exact ⟨⟨o1, c1, o2, c2, o3, c3, o4, c4, o5, c5⟩, k', rfl, ⟨q1, q2, q3, q4⟩, s, c, hm⟩
theorem kout_c (line : Int) : Tot Try.prog 23 #[.pointer (some ⟨p, 0, none⟩), .int .i64 line] w0 (fun v w' => ∃ g' k', v = .int .i64 (if 0 ≤ line ∧ line < (nlines m : Int) then 0 else 1) ∧ KF h g' k' ∧ Sim (outM m line) k' ∧ k'.W.length ≤ k.W.length ∧ Mut w0 (kA p g k) (kA p g' k') w') := by
  obtain ⟨k', e, s, c⟩ := Out_eq (N := 2000) hi hs hw (by decide) line
  refine (leadlineref11_Mem_Out__m0_71_ffooo_c hl hf.co hf.ro hf.cf hf.rf (rows_ints _) (rows_ints _) (rows_put _) ho hd e).mono fun v w' hR => ?_
  obtain ⟨o1, c1, o2, c2, o3, c3, v3, o4, c4, v4, o5, c5, v5, rfl, q1, q2, q3, q4, q5, q6, q7, hm⟩ := hR
  have e3 := ints_rows (q5 h); have e4 := ints_rows (q6 h); have e5 := put_rows (q7 h)
  subst e3; subst e4; subst e5
  exact ⟨⟨o1, c1, o2, c2, o3, c3, o4, c4, o5, c5⟩, k', rfl, ⟨q1, q2, q3, q4⟩, s, c, hm⟩
theorem kcrash_c {oc : Option Addr} {cc : Nat} {cut : List Int} (hc : cut.length ≤ cc) (hr : SR h oc cut) : Tot Try.prog 24 #[.pointer (some ⟨p, 0, none⟩), .slice oc cut.length cc] w0 (fun v w' => ∃ g' k', v = .int .i64 (if cutOk m cut then 0 else 1) ∧ KF h g' k' ∧ Sim (crashM m cut) k' ∧ k'.W.length ≤ k.W.length ∧ Mut w0 (kA p g k) (kA p g' k') w') := by
  obtain ⟨k', e, s, c⟩ := Crash_eq (N := 2000) hi hs hw (by decide) cut
  refine (leadlineref11_Mem_Crash__m0_71_ffooo_c hl hf.co hf.ro hf.cf hf.rf (rows_ints _) (rows_ints _) (rows_put _) hc hr ho hd e).mono fun v w' hR => ?_
  obtain ⟨o1, c1, o2, c2, o3, c3, v3, o4, c4, v4, o5, c5, v5, rfl, q1, q2, q3, q4, q5, q6, q7, hm⟩ := hR
  have e3 := ints_rows (q5 h); have e4 := ints_rows (q6 h); have e5 := put_rows (q7 h)
  subst e3; subst e4; subst e5
  exact ⟨⟨o1, c1, o2, c2, o3, c3, o4, c4, o5, c5⟩, k', rfl, ⟨q1, q2, q3, q4⟩, s, c, hm⟩
theorem kread_c (cell : Int) : Tot Try.prog 28 #[.pointer (some ⟨p, 0, none⟩), .int .i64 cell] w0 (fun v w' => ∃ g', v = readM m cell ∧ KF h g' k ∧ Mut w0 (kA p g k) (kA p g' k) w') := by
  obtain ⟨a, b, e, s⟩ := Read_eq (N := 2000) hs cell
  refine (leadlineref11_Mem_Read__m0_71_ffooo_c hl hf.co hf.ro hf.cf hf.rf (rows_ints _) (rows_ints _) (rows_put _) ho hd e).mono fun v w' hR => ?_
  obtain ⟨o1, c1, o2, c2, o3, c3, v3, o4, c4, v4, o5, c5, v5, rfl, q1, q2, q3, q4, q5, q6, q7, hm⟩ := hR
  have e3 := ints_rows (q5 h); have e4 := ints_rows (q6 h); have e5 := put_rows (q7 h)
  subst e3; subst e4; subst e5
  exact ⟨⟨o1, c1, o2, c2, o3, c3, o4, c4, o5, c5⟩, s.symm, ⟨q1, q2, q3, q4⟩, hm⟩
theorem kpending_c : Tot Try.prog 36 #[.pointer (some ⟨p, 0, none⟩)] w0 (fun v w' => ∃ g' oa c, v = .slice oa (nlines m) c ∧ KF h g' k ∧ Mut w0 (kA p g k) (sepA [kA p g' k, sla 3 1 oa (nlines m) c (ints (pendL m (nlines m)))]) w') := by
  have e := Pending_eq (N := 2000) hi hs hw (by decide)
  refine (leadlineref11_Mem_Pending__m0_71_ffooo_c hl hf.co hf.ro hf.cf hf.rf (rows_ints _) (rows_ints _) (rows_put _) ho hd e).mono fun v w' hR => ?_
  obtain ⟨oa, ca, va, o1, c1, o2, c2, o3, c3, v3, o4, c4, v4, o5, c5, v5, rfl, q0, q1, q2, q3, q4, q5, q6, q7, hm⟩ := hR
  have e0 := ints_rows (q0 h); have e3 := ints_rows (q5 h); have e4 := ints_rows (q6 h); have e5 := put_rows (q7 h)
  subst e0; subst e3; subst e4; subst e5
  have hn : (pendL m (nlines m)).length = nlines m := pendL_len m _
  refine ⟨⟨o1, c1, o2, c2, o3, c3, o4, c4, o5, c5⟩, oa, ca, by show Value.slice oa (pendL m (nlines m)).length ca = _; rw [hn], ⟨q1, q2, q3, q4⟩, ?_⟩
  have := Mut.tail (K := kL p ⟨o1, c1, o2, c2, o3, c3, o4, c4, o5, c5⟩ k) (B := sla 3 1 oa (pendL m (nlines m)).length ca (ints (pendL m (nlines m)))) hm
  rwa [hn] at this
theorem kimage_c {oc : Option Addr} {cc : Nat} {cut : List Int} (hc : cut.length ≤ cc) (hr : SR h oc cut) : Tot Try.prog 26 #[.pointer (some ⟨p, 0, none⟩), .slice oc cut.length cc] w0 (fun v w' => ∃ g' oa c xs, v = .tuple #[.slice oa xs.length c, .int .i64 (if cutOk m cut then 0 else 1)] ∧ xs = (if cutOk m cut then imgUp m cut (nlines m) else []) ∧ KF h g' k ∧ Mut w0 (kA p g k) (sepA [kA p g' k, sla 3 1 oa xs.length c (ints xs)]) w') := by
  have e : leadlineref11_Mem_Image__m0_71_ffooo 2000 k cut = some ((if cutOk m cut then imgUp m cut (nlines m) else []), (if cutOk m cut then 0 else 1), k) := by
    rw [Image_eq hi hs hw (by decide)]; split <;> rfl
  refine (leadlineref11_Mem_Image__m0_71_ffooo_c hl hf.co hf.ro hf.cf hf.rf (rows_ints _) (rows_ints _) (rows_put _) hc hr ho hd e).mono fun v w' hR => ?_
  obtain ⟨oa, ca, va, o1, c1, o2, c2, o3, c3, v3, o4, c4, v4, o5, c5, v5, rfl, q0, q1, q2, q3, q4, q5, q6, q7, hm⟩ := hR
  have e0 := ints_rows (q0 h); have e3 := ints_rows (q5 h); have e4 := ints_rows (q6 h); have e5 := put_rows (q7 h)
  subst e0; subst e3; subst e4; subst e5
  exact ⟨⟨o1, c1, o2, c2, o3, c3, o4, c4, o5, c5⟩, oa, ca, _, rfl, rfl, ⟨q1, q2, q3, q4⟩, Mut.tail (K := kL p ⟨o1, c1, o2, c2, o3, c3, o4, c4, o5, c5⟩ k) hm⟩
theorem kcuts_c (ht : tot m (nlines m) ≤ 200) : Tot Try.prog 37 #[.pointer (some ⟨p, 0, none⟩)] w0 (fun v w' => ∃ g' H' oo co rows, v = .slice oo rows.length co ∧ rows.map (·.xs) = cutsM m ∧ Rd H' oo (rowsV rows) ∧ (∀ r ∈ rows, Rd H' r.oa (ints r.xs)) ∧ ExtM w0 (kA p g k).fp h H' ∧ H'.le w' ∧ (∀ b, (kA p g' k).fp b → H' b = none) ∧ KF H' g' k ∧ Mut w0 (kA p g k) (kA p g' k) w') := by
  have e := Cuts_eq (N := 2000) hi hs hw (by decide) ht
  refine (leadlineref11_Mem_Cuts__m0_71_ffooo_c hl hf.co hf.ro hf.cf hf.rf (rows_ints _) (rows_ints _) (rows_put _) ho hd e).mono fun v w' hR => ?_
  obtain ⟨H', oa, ca, o1, c1, o2, c2, o3, c3, v3, o4, c4, v4, o5, c5, v5, rfl, _, ⟨vs, r1, r2⟩, q1, q2, q3, q4, q5, q6, q7, x1, x2, x3, hm⟩ := hR
  have e3 := ints_rows (q5 h); have e4 := ints_rows (q6 h); have e5 := put_rows (q7 h)
  subst e3; subst e4; subst e5
  obtain ⟨rs, f1, f2, f3⟩ := rows_of r2
  subst f1
  have hlen : rs.length = (cutsM m).length := by have := congrArg List.length f2; simpa using this
  exact ⟨⟨o1, c1, o2, c2, o3, c3, o4, c4, o5, c5⟩, H', oa, ca, rs, by rw [hlen], f2, r1, f3, x1, x2, x3, ⟨q1, q2, q3, q4⟩, hm⟩
end
end Go.LM.LINES
