/- Walks over the layer of lines that only read, and make lists of their own. No condition beyond each theorem's own premises. -/
import Derived.Test.YtkgaliichchanaaLN1
namespace Go.LL
open Go Go.Proofs

theorem fa60_4 (ad : Addr) (w : World) : (Instr.fieldAt 60 (.pointer (some ad)) 4).run Try.prog w = .ok (.pointer (some (ad.add 4))) w := by kernel_rfl
theorem fa67_0 (ad : Addr) (w : World) : (Instr.fieldAt 67 (.pointer (some ad)) 0).run Try.prog w = .ok (.pointer (some (ad.add 0))) w := by kernel_rfl
theorem fa67_1 (ad : Addr) (w : World) : (Instr.fieldAt 67 (.pointer (some ad)) 1).run Try.prog w = .ok (.pointer (some (ad.add 1))) w := by kernel_rfl

set_option maxRecDepth 100000 in
theorem pending_c (w0 : World) (p : Nat) (g : MG) (m : MS) (hm : MemR (hp w0) p g m) (hi : MInv m) :
    Tot Try.prog 9 #[.pointer (some ⟨p, 0, none⟩)] w0 (fun v w' => ∃ oa c, v = .slice oa (nlines m) c ∧ Fresh w0 (sla 3 1 oa (nlines m) c (ints (pendL m (nlines m)))) w') := by
  have hl1 := hi.len1
  have hl2 := hi.len2
  have hl3 := hi.len3
  have hl4 := hi.len4
  have hnl := hi.nl
  refine fn0 (args := [.pointer (some ⟨p, 0, none⟩)]) (F := [(0, .pointer (some ⟨p, 0, none⟩))]) Try.func9 rfl Try.ntmps9 rfl rfl fun a hF => ?_
  have hS : St w0 Nil [hp w0] [] w0 := .start (by simp [hp_le])
  refine th <| rg <| ls <| q1 hF rfl (e_asg hF rfl) fun a hF =>
    re <| tn <| ?_
  refine th <| rg <| ls <| q1 hF rfl (e_asg hF rfl) fun a hF =>
    re <| tn <| ?_
  refine th <| th <| rg <| ls <| q1 hF rfl (e_move hF rfl) fun a hF =>
    ls <| c1 hF rfl Try.call30 (lines_c _ _ _ _ (hm.mono (hS.hs _ (.head _))) hi) ⟨rfl, trivial⟩ (fun v w a hR hF => ?_)
  obtain ⟨rfl, hk⟩ := hR
  replace hS := hS.pass hk
  clear hk
  refine ls <| q1 hF rfl (e_move hF rfl) fun a hF =>
    re <| tn <| ?_
  refine wb <| lp (α := Nat × Option Addr × Nat) (fun (gh : Nat × Option Addr × Nat) a w => match gh with | (k, oa, c) => Fr 22 [(0, .pointer (some ⟨p, 0, none⟩)), (3, .slice oa k c), (6, .int .i64 ((nlines m : Nat) : Int)), (7, .int .i64 (k : Int))] a ∧ St w0 Nil [hp w0] [sla 3 1 oa k c (ints (pendL m k))] w ∧ k ≤ nlines m) (fun (gh : Nat × Option Addr × Nat) => match gh with | (k, oa, c) => nlines m - k) (0, none, 0) ⟨hF.has ⟨rfl, rfl, rfl, rfl, trivial⟩, hS.nilS 3 1, Nat.zero_le _⟩ ?_
  clear hF hS
  rintro ⟨k, oa, c⟩ a w ⟨hF, hS, hk⟩
  refine th <| rg <| ls <| q1 hF rfl (e_lss hF rfl rfl) fun a hF =>
    re <| tn <| ?_
  refine th <| cs hF rfl (fun hb => ?_) (fun hb => ?_)
  ·
    replace hb := of_decide_eq_true hb
    refine wk <| tn <| ?_
    refine th <| wb <| th <| rg <| ls <| q1 hF rfl (e_move hF rfl) fun a hF =>
      ls <| q1 hF rfl (e_asg hF rfl) fun a hF =>
      re <| tn <| ?_
    obtain ⟨oak, ck, hlk, hRk, hck⟩ := hm.look (k : Int)
    have hfew := hi.few (k : Int)
    refine rg <| ls <| q1 hF rfl (e_move hF rfl) fun a hF =>
      ls <| q1 hF rfl (e_move hF rfl) fun a hF =>
      ls <| q1 hF rfl (e_nilp hF rfl) fun a hF =>
      ls <| q1 hF rfl (e_fa hF fa60_4 rfl) fun a hF =>
      ls <| q1 hF rfl (e_ld hF Try.isAgg58 rfl ((St.ld hS).cellH (.head _) (ph_cell hm.blk rfl))) fun a hF =>
      ls <| q1 hF rfl (e_move hF rfl) fun a hF =>
      ls <| q1 hF rfl (e_lookV hF (keyInt Try.runUnderlying3) Try.runUnderlying58 Try.zeroValue57 ((St.ld hS).hs _ (.head _) _ _ hm.map) rfl rfl hlk) fun a hF =>
      ls <| q1 hF rfl (e_lenS hF Try.runUnderlying57 rfl) fun a hF =>
      ls <| a_bsl (e := 3) (sz := 1) (ints [((m.pend (k : Int)).length : Int)]) hF rfl hS rfl rfl rfl (fun w => by kernel_rfl) fun b w a hS hF => ?_
    refine ls <| apI hF rfl hS Try.underlying26 info3 rfl (by decide) rfl rfl (.tail _ (.head _)) (ints_len [((m.pend (k : Int)).length : Int)]) (hS.rdO (.head _)) (ints_one [((m.pend (k : Int)).length : Int)]) (by omega) (by unfold maxLen; omega) fun oa c w a hU hF => ?_
    replace hS := hU _ (.tail .head)
    clear hU
    replace hS := hS.drop .head
    rw [ints_app] at hS
    refine ls <| q1 hF rfl (e_asg hF rfl) fun a hF =>
      re <| bn <| tn <| ?_
    refine rg <| ls <| q1 hF rfl (e_addI (r := (((k + 1) : Nat) : Int)) hF rfl rfl rfl (by omega)) fun a hF =>
      ls <| q1 hF rfl (e_move hF rfl) fun a hF =>
      re <| tn <| ?_
    rw [pendL_succ] at hS
    exact ⟨(k + 1, oa, c), ⟨hF.has ⟨rfl, rfl, rfl, rfl, trivial⟩, hS, (by omega)⟩, (by dsimp only; omega)⟩
  ·
    replace hb := Int.not_lt.1 (of_decide_eq_false hb)
    refine we <| tx <| tx <| bx <| tn <| ?_
    refine th <| rg <| ls <| q1 hF rfl (e_move hF rfl) fun a hF =>
      ls <| q1 hF rfl (e_asg hF rfl) fun a hF =>
      re <| tn <| ?_
    refine wr <| ?_
    obtain rfl : k = nlines m := by omega
    exact r1 hF Try.results9 rfl ⟨_, _, rfl, hS.endFresh (.head _)⟩

set_option maxRecDepth 100000 in
theorem image_c (w0 : World) (p : Nat) (g : MG) (m : MS) (hm : MemR (hp w0) p g m) (hi : MInv m) (ocut : Option Addr) (ccut : Nat) (cut : List Int) (hr : Rd (hp w0) ocut (ints cut)) (hcl : cut.length ≤ 1000000) :
    Tot Try.prog 11 #[.pointer (some ⟨p, 0, none⟩), .slice ocut cut.length ccut] w0 (fun v w' => (¬ cutOk m cut ∧ v = .tuple #[.slice none 0 0, .int .i64 1] ∧ Keep Nil w0 w') ∨ (cutOk m cut ∧ ∃ oa c, v = .tuple #[.slice oa m.kept.length c, .int .i64 0] ∧ Fresh w0 (sla 3 1 oa m.kept.length c (ints (imgUp m cut (nlines m)))) w')) := by
  have hl1 := hi.len1
  have hl2 := hi.len2
  have hl3 := hi.len3
  have hl4 := hi.len4
  have hnl := hi.nl
  refine fn0 (args := [.pointer (some ⟨p, 0, none⟩), .slice ocut cut.length ccut]) (F := [(0, .pointer (some ⟨p, 0, none⟩)), (1, .slice ocut cut.length ccut)]) Try.func11 rfl Try.ntmps11 rfl rfl fun a hF => ?_
  have hS : St w0 Nil [hp w0] [] w0 := .start (by simp [hp_le])
  refine th <| rg <| ls <| q1 hF rfl (e_asg hF rfl) fun a hF =>
    ls <| q1 hF rfl (e_asg hF rfl) fun a hF =>
    re <| tn <| ?_
  refine th <| th <| rg <| ls <| q1 hF rfl (e_move hF rfl) fun a hF =>
    ls <| q1 hF rfl (e_lenS hF Try.runUnderlying26 rfl) fun a hF =>
    ls <| q1 hF rfl (e_move hF rfl) fun a hF =>
    ls <| c1 hF rfl Try.call30 (lines_c _ _ _ _ (hm.mono (hS.hs _ (.head _))) hi) ⟨rfl, trivial⟩ (fun v w a hR hF => ?_)
  obtain ⟨rfl, hk⟩ := hR
  replace hS := hS.pass hk
  clear hk
  refine ls <| q1 hF rfl (e_neq hF rfl rfl) fun a hF =>
    re <| tn <| ?_
  refine cs hF rfl (fun hb => ?_) (fun hb => ?_)
  ·
    replace hb := of_decide_eq_true hb
    refine th <| rg <| ls <| q1 hF rfl (e_asg hF rfl) fun a hF =>
      ls <| q1 hF rfl (e_asg hF rfl) fun a hF =>
      re <| tn <| ?_
    refine wr <| tr <| ?_
    exact r2 hF Try.results11 rfl rfl (.inl ⟨by first | (intro e; have h1 := e.1; omega) | (intro e; have h2 := e.2 k hkc; omega), rfl, hS.keep⟩)
  ·
    replace hb := Classical.not_not.1 (of_decide_eq_false hb)
    refine wk <| tn <| ?_
    refine th <| rg <| ls <| q1 hF rfl (e_move hF rfl) fun a hF =>
      ls <| c1 hF rfl Try.call15 (kept_c _ _ _ _ (hm.mono (hS.hs _ (.head _))) hi) ⟨rfl, trivial⟩ (fun v w a hR hF => ?_)
    obtain ⟨oa, c, rfl, hf⟩ := hR
    replace hS := hS.fresh hf
    clear hf
    refine ls <| q1 hF rfl (e_asg hF rfl) fun a hF =>
      re <| tn <| ?_
    refine th <| th <| rg <| ls <| q1 hF rfl (e_move hF rfl) fun a hF =>
      ls <| q1 hF rfl (e_lenS hF Try.runUnderlying26 rfl) fun a hF =>
      ls <| q1 hF rfl (e_move hF rfl) fun a hF =>
      re <| tn <| ?_
    refine wb <| lp (α := Nat) (fun (gh : Nat) a w => match gh with | k => Fr 60 [(0, .pointer (some ⟨p, 0, none⟩)), (6, .slice oa m.kept.length c), (18, .slice ocut cut.length ccut), (19, .int .i64 ((cut.length : Nat) : Int)), (20, .int .i64 (k : Int))] a ∧ St w0 Nil [hp w0] [sla 3 1 oa m.kept.length c (ints (imgUp m cut k))] w ∧ (k ≤ cut.length ∧ ∀ i (h : i < cut.length), i < k → 0 ≤ cut[i] ∧ cut[i] ≤ ((m.pend (i : Int)).length : Int))) (fun (gh : Nat) => match gh with | k => cut.length - k) 0 ⟨hF.has ⟨rfl, rfl, rfl, rfl, rfl, trivial⟩, hS, ⟨Nat.zero_le _, fun i _ h => absurd h (Nat.not_lt_zero _)⟩⟩ ?_
    clear hF hS
    rintro k a w ⟨hF, hS, hk, hok⟩
    refine th <| rg <| ls <| q1 hF rfl (e_lss hF rfl rfl) fun a hF =>
      re <| tn <| ?_
    refine th <| cs hF rfl (fun hb => ?_) (fun hb => ?_)
    ·
      replace hb := of_decide_eq_true hb
      refine wk <| tn <| ?_
      refine th <| wb <| th <| rg <| ls <| q1 hF rfl (e_move hF rfl) fun a hF =>
        ls <| q1 hF rfl (e_ia hF Try.runUnderlying26 Try.sizeOf3 rfl rfl rfl (by omega) (hr.some (ints_ne (l := cut) (by omega)))) fun a hF =>
        ls <| q1 hF rfl (e_ld hF Try.isAgg3 rfl ((St.ld hS).elH (.head _) hr (ints_get (l := cut) (k := k) (by omega)))) fun a hF =>
        ls <| q1 hF rfl (e_asg hF rfl) fun a hF =>
        ls <| q1 hF rfl (e_asg hF rfl) fun a hF =>
        re <| tn <| ?_
      have hkc : k < cut.length := by omega
      obtain ⟨oak, ck, hlk, hRk, hck⟩ := hm.look (k : Int)
      have hfew := hi.few (k : Int)
      refine th <| th <| rg <| ls <| q1 hF rfl (e_move hF rfl) fun a hF =>
        ls <| q1 hF rfl (e_lss hF rfl rfl) fun a hF =>
        ls <| q1 hF rfl (e_move hF rfl) fun a hF =>
        Fr.split hF (t := 27) rfl (fun hb hF => ?_) (fun hb hF => ?_)
      ·
        replace hb := of_decide_eq_true hb
        refine ls <| gn hF rfl rfl rfl rfl fun a hF =>
          ls <| gn hF rfl rfl rfl rfl fun a hF =>
          ls <| gn hF rfl rfl rfl rfl fun a hF =>
          ls <| gn hF rfl rfl rfl rfl fun a hF =>
          ls <| gn hF rfl rfl rfl rfl fun a hF =>
          ls <| gn hF rfl rfl rfl rfl fun a hF =>
          ls <| gn hF rfl rfl rfl rfl fun a hF =>
          ls <| gn hF rfl rfl rfl rfl fun a hF =>
          ls <| gn hF rfl rfl rfl rfl fun a hF =>
          ls <| q1 hF rfl (e_pickT hF rfl rfl) fun a hF =>
          re <| tn <| ?_
        refine ct hF rfl <| th <| rg <| ls <| q1 hF rfl (e_asg hF rfl) fun a hF =>
          ls <| q1 hF rfl (e_asg hF rfl) fun a hF =>
          re <| tn <| ?_
        refine wr <| tr <| br <| tr <| tr <| br <| tr <| ?_
        exact r2 hF Try.results11 rfl rfl (.inl ⟨by first | (intro e; have h1 := e.1; omega) | (intro e; have h2 := e.2 k hkc; omega), rfl, hS.keep⟩)
      ·
        replace hb := Int.not_lt.1 (of_decide_eq_false hb)
        refine ls <| gy hF rfl rfl <| q1 hF rfl (e_move hF rfl) fun a hF =>
          ls <| gy hF rfl rfl <| q1 hF rfl (e_move hF rfl) fun a hF =>
          ls <| gy hF rfl rfl <| q1 hF rfl (e_nilp hF rfl) fun a hF =>
          ls <| gy hF rfl rfl <| q1 hF rfl (e_fa hF fa60_4 rfl) fun a hF =>
          ls <| gy hF rfl rfl <| q1 hF rfl (e_ld hF Try.isAgg58 rfl ((St.ld hS).cellH (.head _) (ph_cell hm.blk rfl))) fun a hF =>
          ls <| gy hF rfl rfl <| q1 hF rfl (e_move hF rfl) fun a hF =>
          ls <| gy hF rfl rfl <| q1 hF rfl (e_lookV hF (keyInt Try.runUnderlying3) Try.runUnderlying58 Try.zeroValue57 ((St.ld hS).hs _ (.head _) _ _ hm.map) rfl rfl hlk) fun a hF =>
          ls <| gy hF rfl rfl <| q1 hF rfl (e_lenS hF Try.runUnderlying57 rfl) fun a hF =>
          ls <| gy hF rfl rfl <| q1 hF rfl (e_gtr hF rfl rfl) fun a hF =>
          ls <| q1 hF rfl (e_pickF hF rfl rfl) fun a hF =>
          re <| tn <| ?_
        refine cs hF rfl (fun hb => ?_) (fun hb => ?_)
        ·
          replace hb := of_decide_eq_true hb
          refine th <| rg <| ls <| q1 hF rfl (e_asg hF rfl) fun a hF =>
            ls <| q1 hF rfl (e_asg hF rfl) fun a hF =>
            re <| tn <| ?_
          refine wr <| tr <| br <| tr <| tr <| br <| tr <| ?_
          exact r2 hF Try.results11 rfl rfl (.inl ⟨by first | (intro e; have h1 := e.1; omega) | (intro e; have h2 := e.2 k hkc; omega), rfl, hS.keep⟩)
        ·
          replace hb := Int.not_lt.1 (of_decide_eq_false hb)
          refine wk <| tn <| ?_
          refine th <| rg <| ls <| q1 hF rfl (e_move hF rfl) fun a hF =>
            ls <| q1 hF rfl (e_nilp hF rfl) fun a hF =>
            ls <| q1 hF rfl (e_fa hF fa60_4 rfl) fun a hF =>
            ls <| q1 hF rfl (e_ld hF Try.isAgg58 rfl ((St.ld hS).cellH (.head _) (ph_cell hm.blk rfl))) fun a hF =>
            ls <| q1 hF rfl (e_move hF rfl) fun a hF =>
            ls <| q1 hF rfl (e_lookV hF (keyInt Try.runUnderlying3) Try.runUnderlying58 Try.zeroValue57 ((St.ld hS).hs _ (.head _) _ _ hm.map) rfl rfl hlk) fun a hF =>
            ls <| q1 hF rfl (e_move hF rfl) fun a hF =>
            ls <| q1 hF rfl (e_slHi (h := cut[k].toNat) hF Try.runUnderlying57 Try.sizeOf67 rfl rfl (by omega) (by omega)) fun a hF =>
            ls <| q1 hF rfl (e_lenS hF Try.runUnderlying57 rfl) fun a hF =>
            ls <| q1 hF rfl (e_move hF rfl) fun a hF =>
            re <| tn <| ?_
          refine wb <| lp (α := Nat) (fun (gh : Nat) a w => match gh with | j => Fr 60 [(0, .pointer (some ⟨p, 0, none⟩)), (6, .slice oa m.kept.length c), (18, .slice ocut cut.length ccut), (19, .int .i64 ((cut.length : Nat) : Int)), (20, .int .i64 (k : Int)), (45, .slice oak cut[k].toNat ck), (46, .int .i64 ((cut[k].toNat : Nat) : Int)), (47, .int .i64 (j : Int))] a ∧ St w0 Nil [hp w0] [sla 3 1 oa m.kept.length c (ints (applyW ((m.pend (k : Int)).take j) (imgUp m cut k)))] w ∧ j ≤ cut[k].toNat) (fun (gh : Nat) => match gh with | j => cut[k].toNat - j) 0 ⟨hF.has ⟨rfl, rfl, rfl, rfl, rfl, rfl, rfl, rfl, trivial⟩, hS, Nat.zero_le _⟩ ?_
          clear hF hS
          rintro j a w ⟨hF, hS, hj⟩
          refine th <| rg <| ls <| q1 hF rfl (e_lss hF rfl rfl) fun a hF =>
            re <| tn <| ?_
          refine th <| cs hF rfl (fun hb => ?_) (fun hb => ?_)
          ·
            replace hb := of_decide_eq_true hb
            refine wk <| tn <| ?_
            have hjl : j < (m.pend (k : Int)).length := by omega
            have hxb := hi.pend (k : Int) _ (List.getElem_mem hjl)
            have hol := applyW_len ((m.pend (k : Int)).take j) (imgUp m cut k)
            have hil := imgUp_len m cut k
            refine th <| wb <| th <| rg <| ls <| q1 hF rfl (e_ia hF Try.runUnderlying57 Try.sizeOf67 rfl rfl rfl (by omega) (hRk.some (wcells_ne (l := (m.pend (k : Int))) (by omega)))) fun a hF =>
              ls <| q1 hF rfl (e_ldA hF Try.isAgg67 Try.sizeOf67 rfl rfl ((St.ld hS).elsH (.head _) hRk (wcells_sub (l := (m.pend (k : Int))) (k := j) (by omega)))) fun a hF =>
              ls <| a_alloc hF rfl hS Try.zeroValue67 rfl fun b w a hS hF => ?_
            refine ls <| s_blkA hF hS Try.sizeOf67 rfl rfl rfl rfl (one_cells rfl) .head fun w hS => ?_
            refine re <| tn <| ?_
            refine rg <| ls <| q1 hF rfl (e_move hF rfl) fun a hF =>
              ls <| q1 hF rfl (e_fa hF fa67_0 rfl) fun a hF =>
              ls <| q1 hF rfl (e_ld hF Try.isAgg3 rfl ((St.ld hS).cellB (.head _) rfl)) fun a hF =>
              ls <| q1 hF rfl (e_fa hF fa67_1 rfl) fun a hF =>
              ls <| q1 hF rfl (e_ld hF Try.isAgg3 rfl ((St.ld hS).cellB (.head _) rfl)) fun a hF =>
              ?_
            refine ls <| q1 hF rfl (e_ia (i := ((m.pend (k : Int))[j].1).toNat) hF Try.runUnderlying26 Try.sizeOf3 rfl rfl (by omega) (by omega) (((St.ld hS).rdO (.tail _ (.head _))).some (ints_ne (l := (applyW ((m.pend (k : Int)).take j) (imgUp m cut k))) (by omega)))) fun a hF =>
              ls <| s_sl hF hS Try.sizeOf3 rfl rfl rfl rfl (.tail .head) (by simp only [ints_len, List.length_set]; omega) fun w hS => ?_
            rw [ints_set] at hS
            refine re <| bn <| tn <| ?_
            refine rg <| ls <| q1 hF rfl (e_addI (r := (((j + 1) : Nat) : Int)) hF rfl rfl rfl (by omega)) fun a hF =>
              ls <| q1 hF rfl (e_move hF rfl) fun a hF =>
              re <| tn <| ?_
            replace hS := hS.drop .head
            rw [← applyW_take hjl] at hS
            exact ⟨j + 1, ⟨hF.has ⟨rfl, rfl, rfl, rfl, rfl, rfl, rfl, rfl, trivial⟩, hS, (by omega)⟩, (by dsimp only; omega)⟩
          ·
            replace hb := Int.not_lt.1 (of_decide_eq_false hb)
            refine we <| tx <| tx <| bx <| bn <| tn <| ?_
            obtain rfl : j = cut[k].toNat := by omega
            rw [show applyW ((m.pend (k : Int)).take cut[k].toNat) (imgUp m cut k) = imgUp m cut (k + 1) by rw [imgUp, getD_of_lt hkc]] at hS
            refine rg <| ls <| q1 hF rfl (e_addI (r := (((k + 1) : Nat) : Int)) hF rfl rfl rfl (by omega)) fun a hF =>
              ls <| q1 hF rfl (e_move hF rfl) fun a hF =>
              re <| tn <| ?_
            have hok2 : ∀ i (h : i < cut.length), i < k + 1 → 0 ≤ cut[i] ∧ cut[i] ≤ ((m.pend (i : Int)).length : Int) := fun i h hi2 => by
              by_cases e : i = k
              · subst e; exact ⟨by omega, by omega⟩
              · exact hok i h (by omega)
            exact ⟨k + 1, ⟨hF.has ⟨rfl, rfl, rfl, rfl, rfl, trivial⟩, hS, ⟨by omega, hok2⟩⟩, (by dsimp only; omega)⟩
    ·
      replace hb := Int.not_lt.1 (of_decide_eq_false hb)
      refine we <| tx <| tx <| bx <| tn <| ?_
      refine th <| rg <| ls <| q1 hF rfl (e_move hF rfl) fun a hF =>
        ls <| q1 hF rfl (e_asg hF rfl) fun a hF =>
        ls <| q1 hF rfl (e_asg hF rfl) fun a hF =>
        re <| tn <| ?_
      refine wr <| ?_
      obtain rfl : k = cut.length := by omega
      exact r2 hF Try.results11 rfl rfl (.inr ⟨⟨by omega, fun i h => hok i h h⟩, _, _, rfl, hS.endFresh (by rw [show nlines m = cut.length by omega]; exact .head _)⟩)

end Go.LL
