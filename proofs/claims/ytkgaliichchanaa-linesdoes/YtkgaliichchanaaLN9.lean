/- A walk: what the document fixes. No condition. -/
import Derived.Test.YtkgaliichchanaaLN8
namespace Go.LL
open Go Go.Proofs


instance (of : List Int) (stays : Int) (firsts : List Int) : Decidable (newOk of stays firsts) := inferInstanceAs (Decidable (_ ∧ _ ∧ _ ∧ _ ∧ _))
theorem newY (w0 : World) (oo fo : Option Addr) (cof cff : Nat) (of firsts : List Int) (stays : Int) (hro : Rd (hp w0) oo (ints of)) (hrf : Rd (hp w0) fo (ints firsts)) (hco : of.length ≤ cof) (hcf : firsts.length ≤ cff) (h : newOk of stays firsts) :
    Tot Try.prog 17 #[.slice oo of.length cof, .int .i64 stays, .slice fo firsts.length cff] w0 (fun v w' => ∃ p g, v = .tuple #[.pointer (some ⟨p, 0, none⟩), .int .i64 0] ∧ g.pm = [] ∧ Fresh w0 (sepA [newS g (newM of stays firsts), memA p g (newM of stays firsts)]) w') :=
  (new_c w0 oo fo cof cff of firsts stays hro hrf hco hcf).mono fun v w' hv => by
    rcases hv with ⟨h1, _⟩ | ⟨_, h2⟩
    · exact absurd h h1
    · exact h2
theorem newN (w0 : World) (oo fo : Option Addr) (cof cff : Nat) (of firsts : List Int) (stays : Int) (hro : Rd (hp w0) oo (ints of)) (hrf : Rd (hp w0) fo (ints firsts)) (hco : of.length ≤ cof) (hcf : firsts.length ≤ cff) (h : ¬ newOk of stays firsts) :
    Tot Try.prog 17 #[.slice oo of.length cof, .int .i64 stays, .slice fo firsts.length cff] w0 (fun v w' => v = .tuple #[.pointer none, .int .i64 1] ∧ Keep Nil w0 w') :=
  (new_c w0 oo fo cof cff of firsts stays hro hrf hco hcf).mono fun v w' hv => by
    rcases hv with ⟨_, h1⟩ | ⟨h1, _⟩
    · exact h1
    · exact absurd h1 h
theorem newF {h : PH} {g : MG} {of firsts : List Int} {stays : Int} (ho : (newS g (newM of stays firsts)).ok h) (hg : g.pm = []) : MemF h g (newM of stays firsts) := by
  have h1 := (sepA_ok.1 ho).1
  refine ⟨SlOk.rd (h1 (sla 3 1 g.oo (newM of stays firsts).of.length g.co (ints (newM of stays firsts).of)) (.head _)), SlOk.rd (h1 (sla 3 1 g.fo (newM of stays firsts).firsts.length g.cf (ints (newM of stays firsts).firsts)) (.tail _ (.head _))), fun k => ?_, ?_, ?_⟩
  · rw [hg]; rfl
  · rw [hg]; simp [pmV, mdis]
  · rw [hg]; exact ⟨fun x hx => (nomatch hx), List.nodup_nil⟩
theorem St.unsep2 {w0 w : World} {M : Nat → Prop} {Hs : List PH} {A B : HA} {L : List HA} (hS : St w0 M Hs (sepA [A, B] :: L) w) : St w0 M Hs (A :: B :: L) w := hS.unsep
theorem pl_new (of : List Int) (stays : Int) (firsts : List Int) : ∀ k, ((newM of stays firsts).pend k).length ≤ 0 := fun k => by simp [newM]
theorem pl_write {m : MS} {j : Nat} {cell n : Int} (h : ∀ k, (m.pend k).length ≤ j) : ∀ k, ((writeM m cell n).pend k).length ≤ j + 1 := fun k => by
  unfold writeM
  have := h k
  split
  · simp only; split
    · simp; exact this
    · omega
  · omega
theorem pl_out {m : MS} {j : Nat} {line : Int} (h : ∀ k, (m.pend k).length ≤ j) : ∀ k, ((outM m line).pend k).length ≤ j := fun k => by
  unfold outM
  have := h k
  split
  · simp only; split
    · simp
    · exact this
  · exact this
theorem pl_crash {m : MS} {j : Nat} {cut : List Int} (h : ∀ k, (m.pend k).length ≤ j) : ∀ k, ((crashM m cut).pend k).length ≤ j := fun k => by
  unfold crashM
  have := h k
  split
  · simp
  · exact this
theorem St.rdRows {w0 w : World} {M : Nat → Prop} {Hs : List PH} {L : List HA} {rows : List Row} (hS : St w0 M Hs L w) (h : bigA rowA rows ∈ L) : ∀ r ∈ rows, Rd (hp w) r.oa (ints r.xs) := fun r hr => by
  have h1 : (bigA rowA rows).ok (hp w) := hS.ok _ h
  have h2 : SlOk 3 1 (.slice r.oa r.xs.length r.cap) r.xs.length (ints r.xs) (hp w) := h1.1 r hr
  exact SlOk.rd h2

theorem rowsEq (w0 : World) (oa ob : Option Addr) (ca cb : Nat) (ra rb : List Row) (h1 : Rd (hp w0) oa (rowsV ra)) (h2 : Rd (hp w0) ob (rowsV rb)) (k1 : ∀ r ∈ ra, Rd (hp w0) r.oa (ints r.xs) ∧ r.xs.length ≤ 1000000) (k2 : ∀ r ∈ rb, Rd (hp w0) r.oa (ints r.xs) ∧ r.xs.length ≤ 1000000) (hl : ra.length ≤ 1000000) (he : ra.map (·.xs) = rb.map (·.xs)) :
    Tot Try.prog 33 #[.slice oa ra.length ca, .slice ob rb.length cb] w0 (fun v w' => v = .bool true ∧ Keep Nil w0 w') := by
  have h := rows_c w0 oa ob ca cb ra rb h1 h2 k1 k2 hl
  rw [decide_eq_true he] at h
  exact h
theorem rows_small {rows : List Row} (h : rows.map (·.xs) = [[0], [1], [2]]) : ∀ r ∈ rows, r.xs.length ≤ 1000000 := fun r hr => by
  have : r.xs ∈ rows.map (·.xs) := List.mem_map_of_mem hr
  rw [h] at this
  simp only [List.mem_cons, List.not_mem_nil, or_false] at this
  rcases this with e | e | e <;> rw [e] <;> decide
theorem rows_few {rows : List Row} (h : rows.map (·.xs) = [[0], [1], [2]]) : rows.length ≤ 1000000 := by
  have := congrArg List.length h
  simp at this
  omega

set_option maxRecDepth 100000 in
theorem fixed_c (w0 : World) :
    Tot Try.prog 13 #[] w0 (fun v w' => v = .bool true ∧ Keep Nil w0 w') := by
  refine fn0 (args := []) (F := []) Try.func13 rfl Try.ntmps13 rfl rfl fun a hF => ?_
  have hS : St w0 Nil [hp w0] [] w0 := .start (by simp [hp_le])
  refine th <| rg <| ls <| q1 hF rfl (e_asg hF rfl) fun a hF =>
    re <| tn <| ?_
  refine th <| rg <| ls <| a_bsl (e := 3) (sz := 1) (ints [(0 : Int), (0 : Int), (1 : Int)]) hF rfl hS rfl rfl rfl (fun w => by kernel_rfl) fun bkbs1 w a hS hF => ?_
  refine ls <| a_bsl (e := 3) (sz := 1) (ints [(0 : Int), (0 : Int), (7 : Int)]) hF rfl hS rfl rfl rfl (fun w => by kernel_rfl) fun bkbs2 w a hS hF => ?_
  have hnk : newOk [(0 : Int), (0 : Int), (1 : Int)] (2 : Int) [(0 : Int), (0 : Int), (7 : Int)] := of_decide_eq_true (by kernel_rfl)
  refine ls <| c1 hF rfl Try.call17 (newY _ _ _ _ _ _ _ _ (hS.rdO (.tail _ (.head _))) (hS.rdO (.head _)) (Nat.le_refl _) (Nat.le_refl _) hnk) ⟨rfl, rfl, rfl, trivial⟩ (fun v w a hR hF => ?_)
  obtain ⟨p, g, rfl, hg, hfr⟩ := hR
  replace hS := (hS.fresh hfr).unsep2
  clear hfr
  obtain ⟨hO, hOk, -, hS⟩ := hS.freeze .head
  have hf := newF hOk hg
  have hi := MInv.new hnk
  have hpl := pl_new [(0 : Int), (0 : Int), (1 : Int)] (2 : Int) [(0 : Int), (0 : Int), (7 : Int)]
  refine ls <| q1 hF rfl (e_move hF rfl) fun a hF =>
    ls <| q1 hF rfl (e_ext hF rfl rfl) fun a hF =>
    ls <| q1 hF rfl (e_ext hF rfl rfl) fun a hF =>
    ls <| q1 hF rfl (e_asg hF rfl) fun a hF =>
    ls <| q1 hF rfl (e_asg hF rfl) fun a hF =>
    re <| tn <| ?_
  refine th <| rg <| ls <| a_bsl (e := 3) (sz := 1) (ints [(1 : Int)]) hF rfl hS rfl rfl rfl (fun w => by kernel_rfl) fun bkbs3 w a hS hF => ?_
  refine ls <| a_bsl (e := 3) (sz := 1) (ints [(0 : Int)]) hF rfl hS rfl rfl rfl (fun w => by kernel_rfl) fun bkbs4 w a hS hF => ?_
  refine ls <| c1 hF rfl Try.call17 (newN _ _ _ _ _ _ _ _ (hS.rdO (.tail _ (.head _))) (hS.rdO (.head _)) (Nat.le_refl _) (Nat.le_refl _) (of_decide_eq_true (by kernel_rfl))) ⟨rfl, rfl, rfl, trivial⟩ (fun v w a hR hF => ?_)
  obtain ⟨rfl, hk⟩ := hR
  replace hS := hS.pass hk
  clear hk
  refine ls <| q1 hF rfl (e_move hF rfl) fun a hF =>
    ls <| q1 hF rfl (e_ext hF rfl rfl) fun a hF =>
    ls <| q1 hF rfl (e_ext hF rfl rfl) fun a hF =>
    ls <| q1 hF rfl (e_asg hF rfl) fun a hF =>
    ls <| q1 hF rfl (e_asg hF rfl) fun a hF =>
    re <| tn <| ?_
  refine th <| th <| rg <| ls <| q1 hF rfl (e_move hF rfl) fun a hF =>
    ls <| q1 hF rfl (e_eqlP hF Try.runUnderlying24 rfl rfl) fun a hF =>
    ls <| q1 hF rfl (e_move hF rfl) fun a hF =>
    ls <| gy hF rfl rfl <| q1 hF rfl (e_move hF rfl) fun a hF =>
    ls <| gy hF rfl rfl <| q1 hF rfl (e_neq hF rfl rfl) fun a hF =>
    ls <| q1 hF rfl (e_pickF hF rfl rfl) fun a hF =>
    re <| tn <| ?_
  refine cf hF rfl <| wk <| tn <| ?_
  refine th <| rg <| ls <| q1 hF rfl (e_move hF rfl) fun a hF =>
    ls <| c1 hF rfl Try.call18 (write_c _ _ (hS.hs _ (.head _)) _ _ _ (hS.ok _ (.tail _ (.tail _ (.head _)))) (fun b hb => (hS.own _ (.tail _ (.tail _ (.head _))) b hb).2 _ (.head _)) hf hi _ _) ⟨rfl, rfl, rfl, trivial⟩ (fun v w a hR hF => ?_)
  obtain ⟨g, rfl, hf, hmut⟩ := hR
  rw [if_pos (of_decide_eq_true (by kernel_rfl))] at hF
  replace hS := hS.mut hmut (.tail (.tail .head))
  clear hmut
  replace hi := hi.write (cell := (0 : Int)) (n := (1 : Int)) (fun k => by have := hpl k; omega)
  replace hpl := pl_write (cell := (0 : Int)) (n := (1 : Int)) hpl
  refine ls <| q1 hF rfl (e_move hF rfl) fun a hF =>
    ls <| c1 hF rfl Try.call18 (write_c _ _ (hS.hs _ (.head _)) _ _ _ (hS.ok _ (.tail _ (.tail _ (.head _)))) (fun b hb => (hS.own _ (.tail _ (.tail _ (.head _))) b hb).2 _ (.head _)) hf hi _ _) ⟨rfl, rfl, rfl, trivial⟩ (fun v w a hR hF => ?_)
  obtain ⟨g, rfl, hf, hmut⟩ := hR
  rw [if_pos (of_decide_eq_true (by kernel_rfl))] at hF
  replace hS := hS.mut hmut (.tail (.tail .head))
  clear hmut
  replace hi := hi.write (cell := (1 : Int)) (n := (2 : Int)) (fun k => by have := hpl k; omega)
  replace hpl := pl_write (cell := (1 : Int)) (n := (2 : Int)) hpl
  refine ls <| q1 hF rfl (e_move hF rfl) fun a hF =>
    ls <| c1 hF rfl Try.call18 (write_c _ _ (hS.hs _ (.head _)) _ _ _ (hS.ok _ (.tail _ (.tail _ (.head _)))) (fun b hb => (hS.own _ (.tail _ (.tail _ (.head _))) b hb).2 _ (.head _)) hf hi _ _) ⟨rfl, rfl, rfl, trivial⟩ (fun v w a hR hF => ?_)
  obtain ⟨g, rfl, hf, hmut⟩ := hR
  rw [if_pos (of_decide_eq_true (by kernel_rfl))] at hF
  replace hS := hS.mut hmut (.tail (.tail .head))
  clear hmut
  replace hi := hi.write (cell := (2 : Int)) (n := (9 : Int)) (fun k => by have := hpl k; omega)
  replace hpl := pl_write (cell := (2 : Int)) (n := (9 : Int)) hpl
  refine ls <| q1 hF rfl (e_asg hF rfl) fun a hF =>
    ls <| q1 hF rfl (e_asg hF rfl) fun a hF =>
    ls <| q1 hF rfl (e_asg hF rfl) fun a hF =>
    re <| tn <| ?_
  refine th <| rg <| ls <| q1 hF rfl (e_move hF rfl) fun a hF =>
    ls <| c1 hF rfl Try.call10 (cuts_c _ _ _ _ (memA_read (hS.ok _ (.tail _ (.tail _ (.head _)))) (hS.hs _ (.head _)) hf) hi (Nat.le_of_ble_eq_true (by kernel_rfl))) ⟨rfl, trivial⟩ (fun v w a hR hF => ?_)
  obtain ⟨_, _, rows, rfl, hrows, hfr⟩ := hR
  replace hS := (hS.fresh hfr).unsep2
  clear hfr
  rw [show cutsM (writeM (writeM (writeM (newM [(0 : Int), (0 : Int), (1 : Int)] (2 : Int) [(0 : Int), (0 : Int), (7 : Int)]) (0 : Int) (1 : Int)) (1 : Int) (2 : Int)) (2 : Int) (9 : Int)) = [[0], [1], [2]] by kernel_rfl] at hrows
  refine ls <| q1 hF rfl (e_asg hF rfl) fun a hF =>
    re <| tn <| ?_
  refine th <| rg <| ls <| q1 hF rfl (e_move hF rfl) fun a hF =>
    ls <| a_bsl (e := 3) (sz := 1) (ints [(1 : Int)]) hF rfl hS rfl rfl rfl (fun w => by kernel_rfl) fun bkbs7 w a hS hF => ?_
  refine ls <| c1 hF rfl Try.call11 (image_c _ _ _ _ (memA_read (hS.ok _ (.tail _ (.tail _ (.tail _ (.tail _ (.tail _ (.head _))))))) (hS.hs _ (.head _)) hf) hi _ _ _ (hS.rdO (.head _)) (Nat.le_of_ble_eq_true rfl)) ⟨rfl, rfl, trivial⟩ (fun v w a hR hF => ?_)
  replace hR := hR.resolve_left (fun h => h.1 (of_decide_eq_true (by kernel_rfl)))
  obtain ⟨hyes, _, _, rfl, hfr⟩ := hR
  replace hS := hS.fresh hfr
  clear hfr
  refine ls <| q1 hF rfl (e_move hF rfl) fun a hF =>
    ls <| q1 hF rfl (e_ext hF rfl rfl) fun a hF =>
    ls <| q1 hF rfl (e_ext hF rfl rfl) fun a hF =>
    ls <| q1 hF rfl (e_asg hF rfl) fun a hF =>
    ls <| q1 hF rfl (e_asg hF rfl) fun a hF =>
    re <| tn <| ?_
  refine th <| rg <| ls <| q1 hF rfl (e_move hF rfl) fun a hF =>
    ls <| a_bsl (e := 3) (sz := 1) (ints [(3 : Int)]) hF rfl hS rfl rfl rfl (fun w => by kernel_rfl) fun bkbs9 w a hS hF => ?_
  refine ls <| c1 hF rfl Try.call11 (image_c _ _ _ _ (memA_read (hS.ok _ (.tail _ (.tail _ (.tail _ (.tail _ (.tail _ (.tail _ (.tail _ (.head _))))))))) (hS.hs _ (.head _)) hf) hi _ _ _ (hS.rdO (.head _)) (Nat.le_of_ble_eq_true rfl)) ⟨rfl, rfl, trivial⟩ (fun v w a hR hF => ?_)
  replace hR := hR.resolve_right (fun h => absurd h.1 (of_decide_eq_true (by kernel_rfl)))
  obtain ⟨hno, rfl, hk⟩ := hR
  replace hS := hS.pass hk
  clear hk
  refine ls <| q1 hF rfl (e_move hF rfl) fun a hF =>
    ls <| q1 hF rfl (e_ext hF rfl rfl) fun a hF =>
    ls <| q1 hF rfl (e_ext hF rfl rfl) fun a hF =>
    ls <| q1 hF rfl (e_asg hF rfl) fun a hF =>
    ls <| q1 hF rfl (e_asg hF rfl) fun a hF =>
    re <| tn <| ?_
  refine th <| rg <| ls <| q1 hF rfl (e_move hF rfl) fun a hF =>
    ls <| c1 hF rfl Try.call9 (pending_c _ _ _ _ (memA_read (hS.ok _ (.tail _ (.tail _ (.tail _ (.tail _ (.tail _ (.tail _ (.tail _ (.head _))))))))) (hS.hs _ (.head _)) hf) hi) ⟨rfl, trivial⟩ (fun v w a hR hF => ?_)
  obtain ⟨_, _, rfl, hfr⟩ := hR
  replace hS := hS.fresh hfr
  clear hfr
  refine ls <| q1 hF rfl (e_move hF rfl) fun a hF =>
    ls <| c1 hF rfl Try.call15 (kept_c _ _ _ _ (memA_read (hS.ok _ (.tail _ (.tail _ (.tail _ (.tail _ (.tail _ (.tail _ (.tail _ (.tail _ (.head _)))))))))) (hS.hs _ (.head _)) hf) hi) ⟨rfl, trivial⟩ (fun v w a hR hF => ?_)
  obtain ⟨_, _, rfl, hfr⟩ := hR
  replace hS := hS.fresh hfr
  clear hfr
  refine ls <| q1 hF rfl (e_asg hF rfl) fun a hF =>
    ls <| q1 hF rfl (e_asg hF rfl) fun a hF =>
    re <| tn <| ?_
  refine th <| rg <| ls <| q1 hF rfl (e_move hF rfl) fun a hF =>
    ls <| c1 hF rfl Try.call27 (read_c _ _ _ _ (memA_read (hS.ok _ (.tail _ (.tail _ (.tail _ (.tail _ (.tail _ (.tail _ (.tail _ (.tail _ (.tail _ (.head _))))))))))) (hS.hs _ (.head _)) hf) hi (1 : Int)) ⟨rfl, rfl, trivial⟩ (fun v w a hR hF => ?_)
  obtain ⟨rfl, hk⟩ := hR
  rw [show readM (writeM (writeM (writeM (newM [(0 : Int), (0 : Int), (1 : Int)] (2 : Int) [(0 : Int), (0 : Int), (7 : Int)]) (0 : Int) (1 : Int)) (1 : Int) (2 : Int)) (2 : Int) (9 : Int)) (1 : Int) = .tuple #[.int .i64 2, .int .i64 0] by kernel_rfl] at hF
  replace hS := hS.pass hk
  clear hk
  refine ls <| q1 hF rfl (e_move hF rfl) fun a hF =>
    ls <| q1 hF rfl (e_ext hF rfl rfl) fun a hF =>
    ls <| q1 hF rfl (e_ext hF rfl rfl) fun a hF =>
    ls <| q1 hF rfl (e_asg hF rfl) fun a hF =>
    ls <| q1 hF rfl (e_asg hF rfl) fun a hF =>
    re <| tn <| ?_
  refine th <| rg <| ls <| q1 hF rfl (e_move hF rfl) fun a hF =>
    ls <| c1 hF rfl Try.call27 (read_c _ _ _ _ (memA_read (hS.ok _ (.tail _ (.tail _ (.tail _ (.tail _ (.tail _ (.tail _ (.tail _ (.tail _ (.tail _ (.head _))))))))))) (hS.hs _ (.head _)) hf) hi (3 : Int)) ⟨rfl, rfl, trivial⟩ (fun v w a hR hF => ?_)
  obtain ⟨rfl, hk⟩ := hR
  rw [show readM (writeM (writeM (writeM (newM [(0 : Int), (0 : Int), (1 : Int)] (2 : Int) [(0 : Int), (0 : Int), (7 : Int)]) (0 : Int) (1 : Int)) (1 : Int) (2 : Int)) (2 : Int) (9 : Int)) (3 : Int) = .tuple #[.int .i64 0, .int .i64 1] by kernel_rfl] at hF
  replace hS := hS.pass hk
  clear hk
  refine ls <| q1 hF rfl (e_move hF rfl) fun a hF =>
    ls <| q1 hF rfl (e_ext hF rfl rfl) fun a hF =>
    ls <| q1 hF rfl (e_ext hF rfl rfl) fun a hF =>
    ls <| q1 hF rfl (e_asg hF rfl) fun a hF =>
    ls <| q1 hF rfl (e_asg hF rfl) fun a hF =>
    re <| tn <| ?_
  refine th <| rg <| ls <| q1 hF rfl (e_move hF rfl) fun a hF =>
    ls <| a_bsl (e := 3) (sz := 1) (ints [(1 : Int)]) hF rfl hS rfl rfl rfl (fun w => by kernel_rfl) fun bkbs12 w a hS hF => ?_
  refine ls <| c1 hF rfl Try.call19 (crash_c _ _ (hS.hs _ (.head _)) _ _ _ (hS.ok _ (.tail _ (.tail _ (.tail _ (.tail _ (.tail _ (.tail _ (.tail _ (.tail _ (.tail _ (.tail _ (.head _)))))))))))) (fun b hb => (hS.own _ (.tail _ (.tail _ (.tail _ (.tail _ (.tail _ (.tail _ (.tail _ (.tail _ (.tail _ (.tail _ (.head _))))))))))) b hb).2 _ (.head _)) hf hi _ _ _ (hS.rdO (.head _)) (Nat.le_of_ble_eq_true rfl)) ⟨rfl, rfl, trivial⟩ (fun v w a hR hF => ?_)
  obtain ⟨g, rfl, hf, hmut⟩ := hR
  rw [if_pos (of_decide_eq_true (by kernel_rfl))] at hF
  replace hS := hS.mut hmut (.tail (.tail (.tail (.tail (.tail (.tail (.tail (.tail (.tail (.tail .head))))))))))
  clear hmut
  replace hi := hi.crash (cut := [(1 : Int)])
  replace hpl := pl_crash (cut := [(1 : Int)]) hpl
  refine ls <| q1 hF rfl (e_asg hF rfl) fun a hF =>
    re <| tn <| ?_
  refine th <| rg <| ls <| q1 hF rfl (e_move hF rfl) fun a hF =>
    ls <| c1 hF rfl Try.call14 (all_c _ _ _ _ (memA_read (hS.ok _ (.tail _ (.tail _ (.tail _ (.tail _ (.tail _ (.tail _ (.tail _ (.tail _ (.tail _ (.tail _ (.head _)))))))))))) (hS.hs _ (.head _)) hf) hi) ⟨rfl, trivial⟩ (fun v w a hR hF => ?_)
  obtain ⟨_, _, rfl, hfr⟩ := hR
  replace hS := hS.fresh hfr
  clear hfr
  refine ls <| q1 hF rfl (e_asg hF rfl) fun a hF =>
    re <| tn <| ?_
  refine th <| rg <| ls <| q1 hF rfl (e_move hF rfl) fun a hF =>
    ls <| c1 hF rfl Try.call16 (out_c _ _ (hS.hs _ (.head _)) _ _ _ (hS.ok _ (.tail _ (.tail _ (.tail _ (.tail _ (.tail _ (.tail _ (.tail _ (.tail _ (.tail _ (.tail _ (.tail _ (.head _))))))))))))) (fun b hb => (hS.own _ (.tail _ (.tail _ (.tail _ (.tail _ (.tail _ (.tail _ (.tail _ (.tail _ (.tail _ (.tail _ (.tail _ (.head _)))))))))))) b hb).2 _ (.head _)) hf hi _) ⟨rfl, rfl, trivial⟩ (fun v w a hR hF => ?_)
  obtain ⟨g, rfl, hf, hmut⟩ := hR
  rw [if_neg (of_decide_eq_true (by kernel_rfl))] at hF
  replace hS := hS.mut hmut (.tail (.tail (.tail (.tail (.tail (.tail (.tail (.tail (.tail (.tail (.tail .head)))))))))))
  clear hmut
  replace hi := hi.out (line := (1 : Int))
  replace hpl := pl_out (line := (1 : Int)) hpl
  refine ls <| q1 hF rfl (e_asg hF rfl) fun a hF =>
    re <| tn <| ?_
  refine th <| rg <| ls <| q1 hF rfl (e_move hF rfl) fun a hF =>
    ls <| q1 hF rfl (e_eql hF rfl rfl) fun a hF =>
    ls <| q1 hF rfl (e_move hF rfl) fun a hF =>
    ls <| gy hF rfl rfl <| q1 hF rfl (e_move hF rfl) fun a hF =>
    ls <| gy hF rfl rfl <| q1 hF rfl (e_eql hF rfl rfl) fun a hF =>
    ls <| q1 hF rfl (e_pickT hF rfl rfl) fun a hF =>
    ls <| q1 hF rfl (e_move hF rfl) fun a hF =>
    ls <| gy hF rfl rfl <| q1 hF rfl (e_move hF rfl) fun a hF =>
    ls <| gy hF rfl rfl <| q1 hF rfl (e_eql hF rfl rfl) fun a hF =>
    ls <| q1 hF rfl (e_pickT hF rfl rfl) fun a hF =>
    ls <| q1 hF rfl (e_move hF rfl) fun a hF =>
    ls <| gy hF rfl rfl <| q1 hF rfl (e_move hF rfl) fun a hF =>
    ls <| gy hF rfl rfl <| q1 hF rfl (e_eql hF rfl rfl) fun a hF =>
    ls <| q1 hF rfl (e_pickT hF rfl rfl) fun a hF =>
    ls <| q1 hF rfl (e_move hF rfl) fun a hF =>
    ls <| gy hF rfl rfl <| q1 hF rfl (e_move hF rfl) fun a hF =>
    ls <| gy hF rfl rfl <| a_bsl (e := 3) (sz := 1) (ints [(0 : Int)]) hF rfl hS rfl rfl rfl (fun w => by kernel_rfl) fun bkbs14 w a hS hF => ?_
  refine ls <| gy hF rfl rfl <| a_bsl (e := 3) (sz := 1) (ints [(1 : Int)]) hF rfl hS rfl rfl rfl (fun w => by kernel_rfl) fun bkbs15 w a hS hF => ?_
  refine ls <| gy hF rfl rfl <| a_bsl (e := 3) (sz := 1) (ints [(2 : Int)]) hF rfl hS rfl rfl rfl (fun w => by kernel_rfl) fun bkbs16 w a hS hF => ?_
  refine ls <| gy hF rfl rfl <| a_bsl (e := 26) (sz := 1) (rowsV [(⟨some ⟨bkbs14, 0, none⟩, 1, [(0 : Int)]⟩ : Row), (⟨some ⟨bkbs15, 0, none⟩, 1, [(1 : Int)]⟩ : Row), (⟨some ⟨bkbs16, 0, none⟩, 1, [(2 : Int)]⟩ : Row)]) hF rfl hS rfl rfl rfl (fun w => by kernel_rfl) fun bkbr17 w a hS hF => ?_
  refine ls <| gy hF rfl rfl <| c1 hF rfl Try.call33 (rowsEq _ _ _ _ _ rows [(⟨some ⟨bkbs14, 0, none⟩, 1, [(0 : Int)]⟩ : Row), (⟨some ⟨bkbs15, 0, none⟩, 1, [(1 : Int)]⟩ : Row), (⟨some ⟨bkbs16, 0, none⟩, 1, [(2 : Int)]⟩ : Row)] (hS.rdO (.tail _ (.tail _ (.tail _ (.tail _ (.tail _ (.tail _ (.tail _ (.tail _ (.tail _ (.tail _ (.tail _ (.head _))))))))))))) (hS.rdO (.head _)) (fun r hr => ⟨hS.rdRows (.tail _ (.tail _ (.tail _ (.tail _ (.tail _ (.tail _ (.tail _ (.tail _ (.tail _ (.tail _ (.tail _ (.tail _ (.head _))))))))))))) r hr, rows_small hrows r hr⟩) (fun r hr => by simp only [List.mem_cons, List.not_mem_nil, or_false] at hr; rcases hr with rfl | rfl | rfl; exact ⟨hS.rdO (.tail _ (.tail _ (.tail _ (.head _)))), Nat.le_of_ble_eq_true rfl⟩; exact ⟨hS.rdO (.tail _ (.tail _ (.head _))), Nat.le_of_ble_eq_true rfl⟩; exact ⟨hS.rdO (.tail _ (.head _)), Nat.le_of_ble_eq_true rfl⟩) (rows_few hrows) hrows) ⟨rfl, rfl, trivial⟩ (fun v w a hR hF => ?_)
  obtain ⟨rfl, hk⟩ := hR
  replace hS := hS.pass hk
  clear hk
  refine ls <| q1 hF rfl (e_pickT hF rfl rfl) fun a hF =>
    ls <| q1 hF rfl (e_move hF rfl) fun a hF =>
    ls <| gy hF rfl rfl <| q1 hF rfl (e_move hF rfl) fun a hF =>
    ls <| gy hF rfl rfl <| a_bsl (e := 3) (sz := 1) (ints [(1 : Int), (0 : Int)]) hF rfl hS rfl rfl rfl (fun w => by kernel_rfl) fun bkbs18 w a hS hF => ?_
  refine ls <| gy hF rfl rfl <| c1 hF rfl Try.call12 (intsT _ _ _ _ _ _ _ _ _ (hS.rdO (.tail _ (.tail _ (.tail _ (.tail _ (.tail _ (.tail _ (.tail _ (.tail _ (.tail _ (.tail _ (.head _)))))))))))) (hS.rdO (.head _)) (Nat.le_of_ble_eq_true (by kernel_rfl)) (by kernel_rfl) (by kernel_rfl) (by kernel_rfl)) ⟨rfl, rfl, trivial⟩ (fun v w a hR hF => ?_)
  obtain ⟨rfl, hk⟩ := hR
  replace hS := hS.pass hk
  clear hk
  refine ls <| q1 hF rfl (e_pickT hF rfl rfl) fun a hF =>
    ls <| q1 hF rfl (e_move hF rfl) fun a hF =>
    ls <| gy hF rfl rfl <| q1 hF rfl (e_move hF rfl) fun a hF =>
    ls <| gy hF rfl rfl <| q1 hF rfl (e_eql hF rfl rfl) fun a hF =>
    ls <| q1 hF rfl (e_pickT hF rfl rfl) fun a hF =>
    ls <| q1 hF rfl (e_move hF rfl) fun a hF =>
    ls <| gy hF rfl rfl <| q1 hF rfl (e_move hF rfl) fun a hF =>
    ls <| gy hF rfl rfl <| q1 hF rfl (e_eql hF rfl rfl) fun a hF =>
    ls <| q1 hF rfl (e_pickT hF rfl rfl) fun a hF =>
    ls <| q1 hF rfl (e_move hF rfl) fun a hF =>
    ls <| gy hF rfl rfl <| q1 hF rfl (e_move hF rfl) fun a hF =>
    ls <| gy hF rfl rfl <| a_bsl (e := 3) (sz := 1) (ints [(2 : Int)]) hF rfl hS rfl rfl rfl (fun w => by kernel_rfl) fun bkbs19 w a hS hF => ?_
  refine ls <| gy hF rfl rfl <| c1 hF rfl Try.call12 (intsT _ _ _ _ _ _ _ _ _ (hS.rdO (.tail _ (.tail _ (.tail _ (.tail _ (.tail _ (.tail _ (.tail _ (.tail _ (.tail _ (.head _))))))))))) (hS.rdO (.head _)) (Nat.le_of_ble_eq_true (by kernel_rfl)) (by kernel_rfl) (by kernel_rfl) (by kernel_rfl)) ⟨rfl, rfl, trivial⟩ (fun v w a hR hF => ?_)
  obtain ⟨rfl, hk⟩ := hR
  replace hS := hS.pass hk
  clear hk
  refine ls <| q1 hF rfl (e_pickT hF rfl rfl) fun a hF =>
    ls <| q1 hF rfl (e_move hF rfl) fun a hF =>
    ls <| gy hF rfl rfl <| q1 hF rfl (e_move hF rfl) fun a hF =>
    ls <| gy hF rfl rfl <| a_bsl (e := 3) (sz := 1) (ints [(0 : Int), (0 : Int)]) hF rfl hS rfl rfl rfl (fun w => by kernel_rfl) fun bkbs20 w a hS hF => ?_
  refine ls <| gy hF rfl rfl <| c1 hF rfl Try.call12 (intsT _ _ _ _ _ _ _ _ _ (hS.rdO (.tail _ (.tail _ (.tail _ (.tail _ (.tail _ (.tail _ (.tail _ (.tail _ (.tail _ (.head _))))))))))) (hS.rdO (.head _)) (Nat.le_of_ble_eq_true (by kernel_rfl)) (by kernel_rfl) (by kernel_rfl) (by kernel_rfl)) ⟨rfl, rfl, trivial⟩ (fun v w a hR hF => ?_)
  obtain ⟨rfl, hk⟩ := hR
  replace hS := hS.pass hk
  clear hk
  refine ls <| q1 hF rfl (e_pickT hF rfl rfl) fun a hF =>
    ls <| q1 hF rfl (e_move hF rfl) fun a hF =>
    ls <| gy hF rfl rfl <| q1 hF rfl (e_move hF rfl) fun a hF =>
    ls <| gy hF rfl rfl <| q1 hF rfl (e_eql hF rfl rfl) fun a hF =>
    ls <| q1 hF rfl (e_pickT hF rfl rfl) fun a hF =>
    ls <| q1 hF rfl (e_move hF rfl) fun a hF =>
    ls <| gy hF rfl rfl <| q1 hF rfl (e_move hF rfl) fun a hF =>
    ls <| gy hF rfl rfl <| q1 hF rfl (e_eql hF rfl rfl) fun a hF =>
    ls <| q1 hF rfl (e_pickT hF rfl rfl) fun a hF =>
    ls <| q1 hF rfl (e_move hF rfl) fun a hF =>
    ls <| gy hF rfl rfl <| q1 hF rfl (e_move hF rfl) fun a hF =>
    ls <| gy hF rfl rfl <| q1 hF rfl (e_eql hF rfl rfl) fun a hF =>
    ls <| q1 hF rfl (e_pickT hF rfl rfl) fun a hF =>
    ls <| q1 hF rfl (e_move hF rfl) fun a hF =>
    ls <| gy hF rfl rfl <| q1 hF rfl (e_move hF rfl) fun a hF =>
    ls <| gy hF rfl rfl <| q1 hF rfl (e_eql hF rfl rfl) fun a hF =>
    ls <| q1 hF rfl (e_pickT hF rfl rfl) fun a hF =>
    ls <| q1 hF rfl (e_move hF rfl) fun a hF =>
    ls <| gy hF rfl rfl <| q1 hF rfl (e_move hF rfl) fun a hF =>
    ls <| gy hF rfl rfl <| a_bsl (e := 3) (sz := 1) (ints [(1 : Int), (0 : Int), (7 : Int)]) hF rfl hS rfl rfl rfl (fun w => by kernel_rfl) fun bkbs21 w a hS hF => ?_
  refine ls <| gy hF rfl rfl <| c1 hF rfl Try.call12 (intsT _ _ _ _ _ _ _ _ _ (hS.rdO (.tail _ (.tail _ (.tail _ (.tail _ (.tail _ (.tail _ (.tail _ (.tail _ (.head _)))))))))) (hS.rdO (.head _)) (Nat.le_of_ble_eq_true (by kernel_rfl)) (by kernel_rfl) (by kernel_rfl) (by kernel_rfl)) ⟨rfl, rfl, trivial⟩ (fun v w a hR hF => ?_)
  obtain ⟨rfl, hk⟩ := hR
  replace hS := hS.pass hk
  clear hk
  refine ls <| q1 hF rfl (e_pickT hF rfl rfl) fun a hF =>
    ls <| q1 hF rfl (e_move hF rfl) fun a hF =>
    ls <| gy hF rfl rfl <| q1 hF rfl (e_move hF rfl) fun a hF =>
    ls <| gy hF rfl rfl <| q1 hF rfl (e_eql hF rfl rfl) fun a hF =>
    ls <| q1 hF rfl (e_pickT hF rfl rfl) fun a hF =>
    ls <| q1 hF rfl (e_move hF rfl) fun a hF =>
    ls <| gy hF rfl rfl <| q1 hF rfl (e_move hF rfl) fun a hF =>
    ls <| gy hF rfl rfl <| c1 hF rfl Try.call15 (kept_c _ _ _ _ (memA_read (hS.ok _ (.tail _ (.tail _ (.tail _ (.tail _ (.tail _ (.tail _ (.tail _ (.tail _ (.tail _ (.tail _ (.tail _ (.tail _ (.tail _ (.tail _ (.tail _ (.tail _ (.tail _ (.tail _ (.tail _ (.head _))))))))))))))))))))) (hS.hs _ (.head _)) hf) hi) ⟨rfl, trivial⟩ (fun v w a hR hF => ?_)
  obtain ⟨_, _, rfl, hfr⟩ := hR
  replace hS := hS.fresh hfr
  clear hfr
  refine ls <| gy hF rfl rfl <| a_bsl (e := 3) (sz := 1) (ints [(1 : Int), (0 : Int)]) hF rfl hS rfl rfl rfl (fun w => by kernel_rfl) fun bkbs23 w a hS hF => ?_
  refine ls <| gy hF rfl rfl <| c1 hF rfl Try.call12 (intsT _ _ _ _ _ _ _ _ _ (hS.rdO (.tail _ (.head _))) (hS.rdO (.head _)) (Nat.le_of_ble_eq_true (by kernel_rfl)) (by kernel_rfl) (by kernel_rfl) (by kernel_rfl)) ⟨rfl, rfl, trivial⟩ (fun v w a hR hF => ?_)
  obtain ⟨rfl, hk⟩ := hR
  replace hS := hS.pass hk
  clear hk
  refine ls <| q1 hF rfl (e_pickT hF rfl rfl) fun a hF =>
    ls <| q1 hF rfl (e_move hF rfl) fun a hF =>
    ls <| gy hF rfl rfl <| q1 hF rfl (e_move hF rfl) fun a hF =>
    ls <| gy hF rfl rfl <| c1 hF rfl Try.call16 (out_c _ _ (hS.hs _ (.head _)) _ _ _ (hS.ok _ (.tail _ (.tail _ (.tail _ (.tail _ (.tail _ (.tail _ (.tail _ (.tail _ (.tail _ (.tail _ (.tail _ (.tail _ (.tail _ (.tail _ (.tail _ (.tail _ (.tail _ (.tail _ (.tail _ (.tail _ (.tail _ (.head _))))))))))))))))))))))) (fun b hb => (hS.own _ (.tail _ (.tail _ (.tail _ (.tail _ (.tail _ (.tail _ (.tail _ (.tail _ (.tail _ (.tail _ (.tail _ (.tail _ (.tail _ (.tail _ (.tail _ (.tail _ (.tail _ (.tail _ (.tail _ (.tail _ (.tail _ (.head _)))))))))))))))))))))) b hb).2 _ (.head _)) hf hi _) ⟨rfl, rfl, trivial⟩ (fun v w a hR hF => ?_)
  obtain ⟨g, rfl, hf, hmut⟩ := hR
  rw [if_pos (of_decide_eq_true (by kernel_rfl))] at hF
  replace hS := hS.mut hmut (.tail (.tail (.tail (.tail (.tail (.tail (.tail (.tail (.tail (.tail (.tail (.tail (.tail (.tail (.tail (.tail (.tail (.tail (.tail (.tail (.tail .head)))))))))))))))))))))
  clear hmut
  replace hi := hi.out (line := (0 : Int))
  replace hpl := pl_out (line := (0 : Int)) hpl
  refine ls <| gy hF rfl rfl <| q1 hF rfl (e_eql hF rfl rfl) fun a hF =>
    ls <| q1 hF rfl (e_pickT hF rfl rfl) fun a hF =>
    ls <| q1 hF rfl (e_move hF rfl) fun a hF =>
    ls <| gy hF rfl rfl <| q1 hF rfl (e_move hF rfl) fun a hF =>
    ls <| gy hF rfl rfl <| c1 hF rfl Try.call18 (write_c _ _ (hS.hs _ (.head _)) _ _ _ (hS.ok _ (.tail _ (.tail _ (.tail _ (.tail _ (.tail _ (.tail _ (.tail _ (.tail _ (.tail _ (.tail _ (.tail _ (.tail _ (.tail _ (.tail _ (.tail _ (.tail _ (.tail _ (.tail _ (.tail _ (.tail _ (.tail _ (.head _))))))))))))))))))))))) (fun b hb => (hS.own _ (.tail _ (.tail _ (.tail _ (.tail _ (.tail _ (.tail _ (.tail _ (.tail _ (.tail _ (.tail _ (.tail _ (.tail _ (.tail _ (.tail _ (.tail _ (.tail _ (.tail _ (.tail _ (.tail _ (.tail _ (.tail _ (.head _)))))))))))))))))))))) b hb).2 _ (.head _)) hf hi _ _) ⟨rfl, rfl, rfl, trivial⟩ (fun v w a hR hF => ?_)
  obtain ⟨g, rfl, hf, hmut⟩ := hR
  rw [if_neg (of_decide_eq_true (by kernel_rfl))] at hF
  replace hS := hS.mut hmut (.tail (.tail (.tail (.tail (.tail (.tail (.tail (.tail (.tail (.tail (.tail (.tail (.tail (.tail (.tail (.tail (.tail (.tail (.tail (.tail (.tail .head)))))))))))))))))))))
  clear hmut
  replace hi := hi.write (cell := (9 : Int)) (n := (1 : Int)) (fun k => by have := hpl k; omega)
  replace hpl := pl_write (cell := (9 : Int)) (n := (1 : Int)) hpl
  refine ls <| gy hF rfl rfl <| q1 hF rfl (e_eql hF rfl rfl) fun a hF =>
    ls <| q1 hF rfl (e_pickT hF rfl rfl) fun a hF =>
    ls <| q1 hF rfl (e_asg hF rfl) fun a hF =>
    re <| tn <| ?_
  refine wr <| ?_
  exact r1 hF Try.results13 rfl ⟨rfl, hS.keep⟩

end Go.LL
