/- A walk: a script over a memory of two lines. No condition beyond the theorem's own premises. -/
import Derived.Test.YtkgaliichchanaaLN9
import Derived.Test.YtkgaliichchanaaLLh
namespace Go.LL
open Go Go.Proofs

theorem fa44_0 (ad : Addr) (w : World) : (Instr.fieldAt 44 (.pointer (some ad)) 0).run Try.prog w = .ok (.pointer (some (ad.add 0))) w := by kernel_rfl
theorem fa44_1 (ad : Addr) (w : World) : (Instr.fieldAt 44 (.pointer (some ad)) 1).run Try.prog w = .ok (.pointer (some (ad.add 1))) w := by kernel_rfl
theorem fa44_2 (ad : Addr) (w : World) : (Instr.fieldAt 44 (.pointer (some ad)) 2).run Try.prog w = .ok (.pointer (some (ad.add 2))) w := by kernel_rfl

/-! ### a script's calls, as they lie in memory -/
structure OpV where
  kind : Int
  cell : Int
  n : Int
  oa : Option Addr
  cap : Nat
  xs : List Int
def opcell (o : OpV) : List Value := [.int .i64 o.kind, .int .i64 o.cell, .int .i64 o.n, .slice o.oa o.xs.length o.cap]
def opcells (l : List OpV) : List Value := l.flatMap opcell
theorem opcell_len (x : OpV) : (opcell x).length = 4 := rfl
theorem opcells_len (l : List OpV) : (opcells l).length = l.length * 4 := flat_len opcell_len l
theorem opcells_ne {l : List OpV} (h : 0 < l.length) : opcells l ≠ [] := flat_ne opcell_len (by omega) h
theorem opcells_get0 {l : List OpV} {k : Nat} (h : k < l.length) : (opcells l)[k * 4 + 0]? = some (.int .i64 l[k].kind) := flat_get opcell_len h (by omega)
theorem opcells_get1 {l : List OpV} {k : Nat} (h : k < l.length) : (opcells l)[k * 4 + 1]? = some (.int .i64 l[k].cell) := flat_get opcell_len h (by omega)
theorem opcells_get2 {l : List OpV} {k : Nat} (h : k < l.length) : (opcells l)[k * 4 + 2]? = some (.int .i64 l[k].n) := flat_get opcell_len h (by omega)
theorem opcells_get3 {l : List OpV} {k : Nat} (h : k < l.length) : (opcells l)[k * 4 + 3]? = some (.slice l[k].oa l[k].xs.length l[k].cap) := flat_get opcell_len h (by omega)

/-! ### two lines of two cells each, and one more -/
def stepM (m : MS) (o : OpV) : MS :=
  if o.kind = 1 then outM (writeM m ((lo 3 o.cell : Nat) : Int) ((lo 7 o.n : Nat) : Int)) ((lo 1 o.n : Nat) : Int) else writeM m ((lo 3 o.cell : Nat) : Int) ((lo 7 o.n : Nat) : Int)
def someM (ops : List OpV) (j : Nat) : MS := (ops.take j).foldl stepM (newM [0, 0, 1, 1, 2] 4 [0, 0, 0, 0, 0])
theorem someM_succ {ops : List OpV} {j : Nat} (h : j < ops.length) : someM ops (j + 1) = stepM (someM ops j) ops[j] := by
  unfold someM
  rw [List.take_succ_eq_append_getElem h, List.foldl_append]
  rfl
theorem someM_yes {ops : List OpV} {j : Nat} (h : j < ops.length) (hk : ops[j].kind = 1) : outM (writeM (someM ops j) ((lo 3 ops[j].cell : Nat) : Int) ((lo 7 ops[j].n : Nat) : Int)) ((lo 1 ops[j].n : Nat) : Int) = someM ops (j + 1) := by
  rw [someM_succ h, stepM, if_pos hk]
theorem someM_no {ops : List OpV} {j : Nat} (h : j < ops.length) (hk : ¬ ops[j].kind = 1) : writeM (someM ops j) ((lo 3 ops[j].cell : Nat) : Int) ((lo 7 ops[j].n : Nat) : Int) = someM ops (j + 1) := by
  rw [someM_succ h, stepM, if_neg hk]

theorem St.freshH {w0 w w' : World} {M : Nat → Prop} {Hs : List PH} {L : List HA} {A : HA} {hO : PH} (hS : St w0 M Hs L w) (hfr : Fresh w A w') (hl : hO.le w') (hn : ∀ b, hO b ≠ none → w.heap.size ≤ b) (hd : ∀ b, A.fp b → hO b = none) : St w0 M (hO :: Hs) (A :: L) w' := by
  refine (hS.fresh hfr).addH hl fun b hb => .inr fun B hB hb2 => ?_
  rcases List.mem_cons.1 hB with rfl | hB
  · exact hb (hd b hb2)
  · have := hS.fpLt hB hb2
    have := hn b hb
    omega

set_option maxRecDepth 100000 in
theorem some_c (w0 : World) (oo : Option Addr) (co : Nat) (ops : List OpV) (hr : Rd (hp w0) oo (opcells ops)) :
    Tot Try.prog 8 #[.slice oo ops.length co] w0 (fun v w' => ∃ p g hO, v = .pointer (some ⟨p, 0, none⟩) ∧ PH.le hO w' ∧ (∀ b, hO b ≠ none → w0.heap.size ≤ b) ∧ MemF hO g (someM ops (min ops.length 12)) ∧ (∀ b, (memA p g (someM ops (min ops.length 12))).fp b → hO b = none) ∧ MInv (someM ops (min ops.length 12)) ∧ (∀ k, ((someM ops (min ops.length 12)).pend k).length ≤ 12) ∧ Fresh w0 (memA p g (someM ops (min ops.length 12))) w') := by
  refine fn0 (args := [.slice oo ops.length co]) (F := [(0, .slice oo ops.length co)]) Try.func8 rfl Try.ntmps8 rfl rfl fun a hF => ?_
  have hS : St w0 Nil [hp w0] [] w0 := .start (by simp [hp_le])
  refine th <| rg <| ls <| q1 hF rfl (e_asg hF rfl) fun a hF =>
    re <| tn <| ?_
  refine th <| rg <| ls <| a_bsl (e := 3) (sz := 1) (ints [(0 : Int), (0 : Int), (1 : Int), (1 : Int), (2 : Int)]) hF rfl hS rfl rfl rfl (fun w => by kernel_rfl) fun bkbs1 w a hS hF => ?_
  refine ls <| a_bsl (e := 3) (sz := 1) (ints [(0 : Int), (0 : Int), (0 : Int), (0 : Int), (0 : Int)]) hF rfl hS rfl rfl rfl (fun w => by kernel_rfl) fun bkbs2 w a hS hF => ?_
  have hnk : newOk [(0 : Int), (0 : Int), (1 : Int), (1 : Int), (2 : Int)] (4 : Int) [(0 : Int), (0 : Int), (0 : Int), (0 : Int), (0 : Int)] := of_decide_eq_true (by kernel_rfl)
  refine ls <| c1 hF rfl Try.call17 (newY _ _ _ _ _ _ _ _ (hS.rdO (.tail _ (.head _))) (hS.rdO (.head _)) (Nat.le_refl _) (Nat.le_refl _) hnk) ⟨rfl, rfl, rfl, trivial⟩ (fun v w a hR hF => ?_)
  obtain ⟨p, g, rfl, hg, hfr⟩ := hR
  have hnw : ∀ b, (newS g (newM [(0 : Int), (0 : Int), (1 : Int), (1 : Int), (2 : Int)] (4 : Int) [(0 : Int), (0 : Int), (0 : Int), (0 : Int), (0 : Int)])).fp b → w0.heap.size ≤ b := fun b hb => Nat.le_trans hS.keep.size (hfr.fp b ⟨_, .head _, hb⟩)
  replace hS := (hS.fresh hfr).unsep2
  clear hfr
  obtain ⟨hO, hOk, hOd, hS⟩ := hS.freeze .head
  have hf := newF hOk hg
  have hi := MInv.new hnk
  have hpl := pl_new [(0 : Int), (0 : Int), (1 : Int), (1 : Int), (2 : Int)] (4 : Int) [(0 : Int), (0 : Int), (0 : Int), (0 : Int), (0 : Int)]
  have hOn : ∀ b, hO b ≠ none → w0.heap.size ≤ b := fun b hb => hnw b (hOd b hb)
  refine ls <| q1 hF rfl (e_move hF rfl) fun a hF =>
    ls <| q1 hF rfl (e_ext hF rfl rfl) fun a hF =>
    ls <| q1 hF rfl (e_ext hF rfl rfl) fun a hF =>
    ls <| q1 hF rfl (e_asg hF rfl) fun a hF =>
    ls <| q1 hF rfl (e_asg hF rfl) fun a hF =>
    re <| tn <| ?_
  refine th <| th <| rg <| ls <| q1 hF rfl (e_asg hF rfl) fun a hF =>
    re <| tn <| ?_
  replace hS := hS.pickL (.cons .head .nil)
  rw [show newM [0, 0, 1, 1, 2] 4 [0, 0, 0, 0, 0] = someM ops 0 from rfl] at hf hi hpl hS
  refine wp_block <| lp (α := Nat × MG) (fun (gh : Nat × MG) a w => match gh with | (j, g) => Fr 55 [(0, .slice oo ops.length co), (3, .pointer (some ⟨p, 0, none⟩)), (5, .int .i64 ((j : Nat) : Int))] a ∧ St w0 Nil [hO, hp w0] [memA p g (someM ops j)] w ∧ (j ≤ ops.length ∧ j ≤ 12 ∧ MemF hO g (someM ops j) ∧ MInv (someM ops j) ∧ ∀ k, ((someM ops j).pend k).length ≤ j)) (fun (gh : Nat × MG) => match gh with | (j, g) => ops.length - j) (0, g) ⟨hF.has ⟨rfl, rfl, rfl, trivial⟩, hS, ⟨Nat.zero_le _, Nat.zero_le _, hf, hi, hpl⟩⟩ ?_
  clear hF hS
  rintro ⟨j, g⟩ a w ⟨hF, hS, hj, hj12, hf, hi, hpl⟩
  refine th <| th <| rg <| ls <| q1 hF rfl (e_move hF rfl) fun a hF =>
    ls <| q1 hF rfl (e_neqP hF Try.runUnderlying24 rfl rfl) fun a hF =>
    ls <| q1 hF rfl (e_move hF rfl) fun a hF =>
    ls <| gy hF rfl rfl <| q1 hF rfl (e_move hF rfl) fun a hF =>
    ls <| gy hF rfl rfl <| q1 hF rfl (e_move hF rfl) fun a hF =>
    ls <| gy hF rfl rfl <| q1 hF rfl (e_lenS hF Try.runUnderlying22 rfl) fun a hF =>
    ls <| gy hF rfl rfl <| q1 hF rfl (e_lss hF rfl rfl) fun a hF =>
    ls <| q1 hF rfl (e_pickT hF rfl rfl) fun a hF =>
    ls <| q1 hF rfl (e_move hF rfl) fun a hF =>
    Fr.split hF (t := 20) rfl (fun hb hF => ?_) (fun hb hF => ?_)
  ·
    replace hb := of_decide_eq_true hb
    refine ls <| gy hF rfl rfl <| q1 hF rfl (e_move hF rfl) fun a hF =>
      ls <| gy hF rfl rfl <| q1 hF rfl (e_lss hF rfl rfl) fun a hF =>
      ls <| q1 hF rfl (e_pickT hF rfl rfl) fun a hF =>
      re <| tn <| ?_
    refine cs hF rfl (fun hb => ?_) (fun hb => ?_)
    ·
      replace hb := of_decide_eq_true hb
      refine wp_skip <| tn <| ?_
      have hjc : j < ops.length := by omega
      refine th <| wp_block <| th <| rdL sub_nil 14 hS wide fun w hS => ?_
      refine d1 (i := 0) rfl (by kernel_rfl) (by kernel_rfl) (hS.lds (fun _ hx => hx) sub_nil) hF rfl (fun _ _ _ h => h) (fun w hl => e_move hF rfl) fun a hF =>
        d1 (i := 1) rfl (by kernel_rfl) (by kernel_rfl) (hS.lds (fun _ hx => hx) sub_nil) hF rfl (fun _ _ _ h => h) (fun w hl => e_move hF rfl) fun a hF =>
        d1 (i := 2) rfl (by kernel_rfl) (by kernel_rfl) (hS.lds (fun _ hx => hx) sub_nil) hF rfl (fun _ _ _ h => h) (fun w hl => e_move hF rfl) fun a hF =>
        d1 (i := 3) rfl (by kernel_rfl) (by kernel_rfl) (hS.lds (fun _ hx => hx) sub_nil) hF rfl (fun _ _ _ h => h) (fun w hl => e_ia hF Try.runUnderlying22 Try.sizeOf44 rfl rfl rfl (by omega) (hr.some (opcells_ne (l := ops) (by omega)))) fun a hF =>
        d1 (i := 4) rfl (by kernel_rfl) (by kernel_rfl) (hS.lds (fun _ hx => hx) sub_nil) hF rfl (fun _ _ _ h => h) (fun w hl => e_fa hF fa44_1 rfl) fun a hF =>
        d1 (i := 5) rfl (by kernel_rfl) (by kernel_rfl) (hS.lds (fun _ hx => hx) sub_nil) hF rfl (fun _ _ _ h => h) (fun w hl => e_ld hF Try.isAgg3 rfl (hl.elH2 (.tail _ (.head _)) hr (opcells_get1 (l := ops) (k := j) (by omega)))) fun a hF =>
        d1 (i := 6) rfl (by kernel_rfl) (by kernel_rfl) (hS.lds (fun _ hx => hx) sub_nil) hF rfl (fun _ _ _ h => h) (fun w hl => e_andL (n := 3) hF (by omega) rfl rfl) fun a hF =>
        d1 (i := 7) rfl (by kernel_rfl) (by kernel_rfl) (hS.lds (fun _ hx => hx) sub_nil) hF rfl (fun _ _ _ h => h) (fun w hl => e_move hF rfl) fun a hF =>
        d1 (i := 8) rfl (by kernel_rfl) (by kernel_rfl) (hS.lds (fun _ hx => hx) sub_nil) hF rfl (fun _ _ _ h => h) (fun w hl => e_move hF rfl) fun a hF =>
        d1 (i := 9) rfl (by kernel_rfl) (by kernel_rfl) (hS.lds (fun _ hx => hx) sub_nil) hF rfl (fun _ _ _ h => h) (fun w hl => e_ia hF Try.runUnderlying22 Try.sizeOf44 rfl rfl rfl (by omega) (hr.some (opcells_ne (l := ops) (by omega)))) fun a hF =>
        d1 (i := 10) rfl (by kernel_rfl) (by kernel_rfl) (hS.lds (fun _ hx => hx) sub_nil) hF rfl (fun _ _ _ h => h) (fun w hl => e_fa hF fa44_2 rfl) fun a hF =>
        d1 (i := 11) rfl (by kernel_rfl) (by kernel_rfl) (hS.lds (fun _ hx => hx) sub_nil) hF rfl (fun _ _ _ h => h) (fun w hl => e_ld hF Try.isAgg3 rfl (hl.elH2 (.tail _ (.head _)) hr (opcells_get2 (l := ops) (k := j) (by omega)))) fun a hF =>
        d1 (i := 12) rfl (by kernel_rfl) (by kernel_rfl) (hS.lds (fun _ hx => hx) sub_nil) hF rfl (fun _ _ _ h => h) (fun w hl => e_andL (n := 7) hF (by omega) rfl rfl) fun a hF =>
        da1 (i := 13) (by kernel_rfl) ?_
      refine di (i := 13) rfl <| c1 hF rfl Try.call18 (write_c _ _ (hS.hs _ (.head _)) _ _ _ (hS.ok _ (.head _)) (fun b hb => (hS.own _ (.head _) b hb).2 _ (.head _)) hf hi _ _) ⟨rfl, rfl, rfl, trivial⟩ (fun v w a hR hF => ?_)
      obtain ⟨g, rfl, hf, hmut⟩ := hR
      replace hS := hS.mut hmut .head
      clear hmut
      replace hi := hi.write (cell := (((lo 3 ops[j].cell) : Nat) : Int)) (n := (((lo 7 ops[j].n) : Nat) : Int)) (fun k => by have := hpl k; omega)
      replace hpl := pl_write (cell := (((lo 3 ops[j].cell) : Nat) : Int)) (n := (((lo 7 ops[j].n) : Nat) : Int)) hpl
      refine ⟨fun _ => (hS.lds (fun _ hx => hx) sub_nil), ?_⟩
      refine de (by kernel_rfl) <| tn <| ?_
      refine th <| rg <| ls <| q1 hF rfl (e_move hF rfl) fun a hF =>
        ls <| q1 hF rfl (e_move hF rfl) fun a hF =>
        ls <| q1 hF rfl (e_ia hF Try.runUnderlying22 Try.sizeOf44 rfl rfl rfl (by omega) (hr.some (opcells_ne (l := ops) (by omega)))) fun a hF =>
        ls <| q1 hF rfl (e_fa hF fa44_0 rfl) fun a hF =>
        ls <| q1 hF rfl (e_ld hF Try.isAgg3 rfl ((St.ld hS).elH2 (.tail _ (.head _)) hr (opcells_get0 (l := ops) (k := j) (by omega)))) fun a hF =>
        ls <| q1 hF rfl (e_eql hF rfl rfl) fun a hF =>
        re <| tn <| ?_
      refine cs hF rfl (fun hb => ?_) (fun hb => ?_)
      ·
        replace hb := of_decide_eq_true hb
        refine rg <| ls <| q1 hF rfl (e_move hF rfl) fun a hF =>
          ls <| q1 hF rfl (e_move hF rfl) fun a hF =>
          ls <| q1 hF rfl (e_move hF rfl) fun a hF =>
          ls <| q1 hF rfl (e_ia hF Try.runUnderlying22 Try.sizeOf44 rfl rfl rfl (by omega) (hr.some (opcells_ne (l := ops) (by omega)))) fun a hF =>
          ls <| q1 hF rfl (e_fa hF fa44_2 rfl) fun a hF =>
          ls <| q1 hF rfl (e_ld hF Try.isAgg3 rfl ((St.ld hS).elH2 (.tail _ (.head _)) hr (opcells_get2 (l := ops) (k := j) (by omega)))) fun a hF =>
          ls <| q1 hF rfl (e_andL (n := 1) hF (by omega) rfl rfl) fun a hF =>
          ls <| c1 hF rfl Try.call16 (out_c _ _ (hS.hs _ (.head _)) _ _ _ (hS.ok _ (.head _)) (fun b hb => (hS.own _ (.head _) b hb).2 _ (.head _)) hf hi _) ⟨rfl, rfl, trivial⟩ (fun v w a hR hF => ?_)
        obtain ⟨g, rfl, hf, hmut⟩ := hR
        replace hS := hS.mut hmut .head
        clear hmut
        replace hi := hi.out (line := (((lo 1 ops[j].n) : Nat) : Int))
        replace hpl := pl_out (line := (((lo 1 ops[j].n) : Nat) : Int)) hpl
        refine re <| bn <| tn <| ?_
        refine rg <| ls <| q1 hF rfl (e_move hF rfl) fun a hF =>
          ls <| q1 hF rfl (e_addI (r := (((j + 1) : Nat) : Int)) hF rfl rfl rfl (by omega)) fun a hF =>
          ls <| q1 hF rfl (e_asg hF rfl) fun a hF =>
          re <| tn <| ?_
        rw [someM_yes hjc hb] at hf hi hpl hS
        exact ⟨(j + 1, g), ⟨hF.has ⟨rfl, rfl, rfl, trivial⟩, hS, ⟨by omega, by omega, hf, hi, hpl⟩⟩, (by dsimp only; omega)⟩
      ·
        replace hb := of_decide_eq_false hb
        refine wp_skip <| bn <| tn <| ?_
        refine rg <| ls <| q1 hF rfl (e_move hF rfl) fun a hF =>
          ls <| q1 hF rfl (e_addI (r := (((j + 1) : Nat) : Int)) hF rfl rfl rfl (by omega)) fun a hF =>
          ls <| q1 hF rfl (e_asg hF rfl) fun a hF =>
          re <| tn <| ?_
        rw [someM_no hjc hb] at hf hi hpl hS
        exact ⟨(j + 1, g), ⟨hF.has ⟨rfl, rfl, rfl, trivial⟩, hS, ⟨by omega, by omega, hf, hi, hpl⟩⟩, (by dsimp only; omega)⟩
    ·
      replace hb := Int.not_lt.1 (of_decide_eq_false hb)
      refine wp_exit <| tx <| tx <| bx <| tn <| ?_
      refine th <| rg <| ls <| q1 hF rfl (e_move hF rfl) fun a hF =>
        ls <| q1 hF rfl (e_asg hF rfl) fun a hF =>
        re <| tn <| ?_
      refine wp_ret <| ?_
      have hjn : j = min ops.length 12 := by omega
      subst hjn
      exact r1 hF Try.results8 rfl ⟨p, g, hO, rfl, hS.hs _ (.head _), hOn, hf, fun b hb => (hS.own _ (.head _) b hb).2 _ (.head _), hi, fun k => Nat.le_trans (hpl k) (by omega), hS.endFresh (.head _)⟩
  ·
    replace hb := Int.not_lt.1 (of_decide_eq_false hb)
    refine ls <| gn hF rfl rfl rfl rfl fun a hF =>
      ls <| gn hF rfl rfl rfl rfl fun a hF =>
      ls <| q1 hF rfl (e_pickF hF rfl rfl) fun a hF =>
      re <| tn <| ?_
    refine cf hF rfl <| wp_exit <| tx <| tx <| bx <| tn <| ?_
    refine th <| rg <| ls <| q1 hF rfl (e_move hF rfl) fun a hF =>
      ls <| q1 hF rfl (e_asg hF rfl) fun a hF =>
      re <| tn <| ?_
    refine wp_ret <| ?_
    have hjn : j = min ops.length 12 := by omega
    subst hjn
    exact r1 hF Try.results8 rfl ⟨p, g, hO, rfl, hS.hs _ (.head _), hOn, hf, fun b hb => (hS.own _ (.head _) b hb).2 _ (.head _), hi, fun k => Nat.le_trans (hpl k) (by omega), hS.endFresh (.head _)⟩

end Go.LL
