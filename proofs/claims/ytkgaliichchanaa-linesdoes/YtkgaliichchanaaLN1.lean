/- Walks over the layer of lines that only read. No condition beyond each theorem's own premises. -/
import Derived.Test.YtkgaliichchanaaLN0
namespace Go.LL
open Go Go.Proofs

theorem fa60_0 (ad : Addr) (w : World) : (Instr.fieldAt 60 (.pointer (some ad)) 0).run Try.prog w = .ok (.pointer (some (ad.add 0))) w := by kernel_rfl
theorem fa60_2 (ad : Addr) (w : World) : (Instr.fieldAt 60 (.pointer (some ad)) 2).run Try.prog w = .ok (.pointer (some (ad.add 2))) w := by kernel_rfl
theorem fa60_3 (ad : Addr) (w : World) : (Instr.fieldAt 60 (.pointer (some ad)) 3).run Try.prog w = .ok (.pointer (some (ad.add 3))) w := by kernel_rfl

set_option maxRecDepth 100000 in
theorem cloneI (w0 : World) (oa : Option Addr) (c : Nat) (xs : List Int) (hr : Rd (hp w0) oa (ints xs)) (hx : xs.length ≤ 1000000) :
    Tot Try.prog 32 #[.slice oa xs.length c] w0 (fun v w' => ∃ oa' c', v = .slice oa' xs.length c' ∧ Fresh w0 (sla 3 1 oa' xs.length c' (ints xs)) w') := by
  refine fn0 (args := [.slice oa xs.length c]) (F := [(0, .slice oa xs.length c)]) Try.func32 rfl Try.ntmps32 rfl rfl fun a hF => ?_
  have hS : St w0 Nil [hp w0] [] w0 := .start (by simp [hp_le])
  refine th <| rg <| ls <| q1 hF rfl (e_asg hF rfl) fun a hF =>
    re <| tn <| ?_
  refine th <| th <| rg <| ls <| q1 hF rfl (e_move hF rfl) fun a hF =>
    ls <| q1 hF rfl (e_eqlN hF Try.runUnderlying26 rfl rfl) fun a hF =>
    re <| tn <| ?_
  refine cs hF rfl (fun hb => ?_) (fun hb => ?_)
  ·
    refine th <| rg <| ls <| q1 hF rfl (e_asg hF rfl) fun a hF =>
      re <| tn <| ?_
    refine wr <| tr <| ?_
    have hx : xs = [] := by
      by_cases h : ints xs = []
      · cases xs with
        | nil => rfl
        | cons x r => simp [ints] at h
      · rw [hr.some h] at hb; cases hb
    subst hx
    exact r1 hF Try.results32 rfl ⟨none, 0, rfl, hS.keep, ⟨by simp [ints], .inl ⟨rfl, rfl⟩⟩, fun b hb => by simp [sl, slBlock] at hb⟩
  ·
    refine wk <| tn <| ?_
    refine th <| rg <| ls <| a_bsl (e := 3) (sz := 1) (ints []) hF rfl hS rfl rfl rfl (fun w => by kernel_rfl) fun b w a hS hF => ?_
    refine ls <| q1 hF rfl (e_move hF rfl) fun a hF =>
      ls <| apI hF rfl hS Try.underlying26 info3 rfl (by decide) rfl rfl (.head _) (ints_len xs) (hS.rdH (.head _) hr) (ints_one xs) (by omega) (by unfold maxLen; omega) fun oa' c' w a hU hF => ?_
    replace hS := hU _ .head
    rw [ints_app, List.nil_append] at hS
    rw [Nat.zero_add] at hS hF
    refine ls <| q1 hF rfl (e_asg hF rfl) fun a hF =>
      re <| tn <| ?_
    refine wr <| ?_
    exact r1 hF Try.results32 rfl ⟨_, _, rfl, hS.endFresh (.head _)⟩

set_option maxRecDepth 100000 in
theorem cloneW (w0 : World) (oa : Option Addr) (c : Nat) (xs : List (Int × Int)) (hr : Rd (hp w0) oa (wcells xs)) (hx : xs.length ≤ 1000000) :
    Tot Try.prog 35 #[.slice oa xs.length c] w0 (fun v w' => ∃ oa' c', v = .slice oa' xs.length c' ∧ Fresh w0 (sla 67 2 oa' xs.length c' (wcells xs)) w') := by
  refine fn0 (args := [.slice oa xs.length c]) (F := [(0, .slice oa xs.length c)]) Try.func35 rfl Try.ntmps35 rfl rfl fun a hF => ?_
  have hS : St w0 Nil [hp w0] [] w0 := .start (by simp [hp_le])
  refine th <| rg <| ls <| q1 hF rfl (e_asg hF rfl) fun a hF =>
    re <| tn <| ?_
  refine th <| th <| rg <| ls <| q1 hF rfl (e_move hF rfl) fun a hF =>
    ls <| q1 hF rfl (e_eqlN hF Try.runUnderlying57 rfl rfl) fun a hF =>
    re <| tn <| ?_
  refine cs hF rfl (fun hb => ?_) (fun hb => ?_)
  ·
    refine th <| rg <| ls <| q1 hF rfl (e_asg hF rfl) fun a hF =>
      re <| tn <| ?_
    refine wr <| tr <| ?_
    have hx : xs = [] := by
      by_cases h : wcells xs = []
      · cases xs with
        | nil => rfl
        | cons x r => simp [wcells, wcell] at h
      · rw [hr.some h] at hb; cases hb
    subst hx
    exact r1 hF Try.results35 rfl ⟨none, 0, rfl, hS.keep, ⟨by simp [wcells], .inl ⟨rfl, rfl⟩⟩, fun b hb => by simp [sl, slBlock] at hb⟩
  ·
    refine wk <| tn <| ?_
    refine th <| rg <| ls <| a_bsl (e := 67) (sz := 2) (wcells []) hF rfl hS rfl rfl rfl (fun w => by kernel_rfl) fun b w a hS hF => ?_
    refine ls <| q1 hF rfl (e_move hF rfl) fun a hF =>
      ls <| apI hF rfl hS Try.underlying57 info67 rfl (by decide) rfl rfl (.head _) (wcells_len xs) (hS.rdH (.head _) hr) (wcells_one xs) (by omega) (by unfold maxLen; omega) fun oa' c' w a hU hF => ?_
    replace hS := hU _ .head
    rw [wcells_app, List.nil_append] at hS
    rw [Nat.zero_add] at hS hF
    refine ls <| q1 hF rfl (e_asg hF rfl) fun a hF =>
      re <| tn <| ?_
    refine wr <| ?_
    exact r1 hF Try.results35 rfl ⟨_, _, rfl, hS.endFresh (.head _)⟩

set_option maxRecDepth 100000 in
theorem lines_c (w0 : World) (p : Nat) (g : MG) (m : MS) (hm : MemR (hp w0) p g m) (hi : MInv m) :
    Tot Try.prog 30 #[.pointer (some ⟨p, 0, none⟩)] w0 (fun v w' => v = .int .i64 (nlines m) ∧ Keep Nil w0 w') := by
  have hl3 := hi.len3
  have hl4 := hi.len4
  refine fn0 (args := [.pointer (some ⟨p, 0, none⟩)]) (F := [(0, .pointer (some ⟨p, 0, none⟩))]) Try.func30 rfl Try.ntmps30 rfl rfl fun a hF => ?_
  have hS : St w0 Nil [hp w0] [] w0 := .start (by simp [hp_le])
  refine th <| rg <| ls <| q1 hF rfl (e_asg hF rfl) fun a hF =>
    re <| tn <| ?_
  refine th <| th <| rg <| ls <| q1 hF rfl (e_move hF rfl) fun a hF =>
    ls <| q1 hF rfl (e_nilp hF rfl) fun a hF =>
    ls <| q1 hF rfl (e_fa hF fa60_0 rfl) fun a hF =>
    ls <| q1 hF rfl (e_ld hF Try.isAgg26 rfl ((St.ld hS).cellH (.head _) (ph_cell hm.blk rfl))) fun a hF =>
    ls <| q1 hF rfl (e_lenS hF Try.runUnderlying26 rfl) fun a hF =>
    ls <| q1 hF rfl (e_eql hF rfl rfl) fun a hF =>
    re <| tn <| ?_
  refine cs hF rfl (fun hb => ?_) (fun hb => ?_)
  ·
    replace hb := of_decide_eq_true hb
    refine th <| rg <| ls <| q1 hF rfl (e_asg hF rfl) fun a hF =>
      re <| tn <| ?_
    refine wr <| tr <| ?_
    exact r1 hF Try.results30 rfl ⟨by rw [show (nlines m : Int) = 0 by simp [nlines, List.eq_nil_of_length_eq_zero (show m.of.length = 0 by omega)]], hS.keep⟩
  ·
    replace hb := of_decide_eq_false hb
    refine wk <| tn <| ?_
    refine th <| rxS 14 hS wide (by kernel_rfl) fun w hS => ?_
    refine x1 (St.ld hS) hF rfl rfl (fun _ _ _ h => h) (fun w hl => e_move hF rfl) fun a hF =>
      x1 (St.ld hS) hF rfl rfl (fun _ _ _ h => h) (fun w hl => e_nilp hF rfl) fun a hF =>
      x1 (St.ld hS) hF rfl rfl (fun _ _ _ h => h) (fun w hl => e_fa hF fa60_0 rfl) fun a hF =>
      x1 (St.ld hS) hF rfl rfl (fun _ _ _ h => h) (fun w hl => e_ld hF Try.isAgg26 rfl (hl.cellH (.head _) (ph_cell hm.blk rfl))) fun a hF =>
      x1 (St.ld hS) hF rfl rfl (fun _ _ _ h => h) (fun w hl => e_move hF rfl) fun a hF =>
      x1 (St.ld hS) hF rfl rfl (fun _ _ _ h => h) (fun w hl => e_nilp hF rfl) fun a hF =>
      x1 (St.ld hS) hF rfl rfl (fun _ _ _ h => h) (fun w hl => e_fa hF fa60_0 rfl) fun a hF =>
      x1 (St.ld hS) hF rfl rfl (fun _ _ _ h => h) (fun w hl => e_ld hF Try.isAgg26 rfl (hl.cellH (.head _) (ph_cell hm.blk rfl))) fun a hF =>
      x1 (St.ld hS) hF rfl rfl (fun _ _ _ h => h) (fun w hl => e_lenS hF Try.runUnderlying26 rfl) fun a hF =>
      x1 (St.ld hS) hF rfl rfl (fun _ _ _ h => h) (fun w hl => e_subI (r := ((m.of.length - 1 : Nat) : Int)) hF rfl rfl (by omega) (by omega)) fun a hF =>
      x1 (St.ld hS) hF rfl rfl (fun _ _ _ h => h) (fun w hl => e_ia hF Try.runUnderlying26 Try.sizeOf3 rfl rfl rfl (by omega) (hm.of.some (ints_ne (l := m.of) (by omega)))) fun a hF =>
      x1 (St.ld hS) hF rfl rfl (fun _ _ _ h => h) (fun w hl => e_ld hF Try.isAgg3 rfl (hl.elH (.head _) hm.of (ints_get (l := m.of) (k := (m.of.length - 1)) (by omega)))) fun a hF =>
      x1 (St.ld hS) hF rfl rfl (fun _ _ _ h => h) (fun w hl => e_addI hF rfl rfl rfl (by have := hi.ofB (List.getElem_mem (show m.of.length - 1 < m.of.length by omega)); omega)) fun a hF =>
      x1 (St.ld hS) hF rfl rfl (fun _ _ _ h => h) (fun w hl => e_asg hF rfl) fun a hF =>
      xe <| tn <| ?_
    refine wr <| ?_
    exact r1 hF Try.results30 rfl ⟨by rw [hi.last (by omega)], hS.keep⟩

def readM (m : MS) (cell : Int) : Value := if h : 0 ≤ cell ∧ cell.toNat < m.l.length then .tuple #[.int .i64 m.l[cell.toNat], .int .i64 0] else .tuple #[.int .i64 0, .int .i64 1]

set_option maxRecDepth 100000 in
theorem read_c (w0 : World) (p : Nat) (g : MG) (m : MS) (hm : MemR (hp w0) p g m) (hi : MInv m) (cell : Int) :
    Tot Try.prog 27 #[.pointer (some ⟨p, 0, none⟩), .int .i64 cell] w0 (fun v w' => v = readM m cell ∧ Keep Nil w0 w') := by
  refine fn0 (args := [.pointer (some ⟨p, 0, none⟩), .int .i64 cell]) (F := [(0, .pointer (some ⟨p, 0, none⟩)), (1, .int .i64 cell)]) Try.func27 rfl Try.ntmps27 rfl rfl fun a hF => ?_
  have hS : St w0 Nil [hp w0] [] w0 := .start (by simp [hp_le])
  refine th <| rg <| ls <| q1 hF rfl (e_asg hF rfl) fun a hF =>
    ls <| q1 hF rfl (e_asg hF rfl) fun a hF =>
    re <| tn <| ?_
  refine th <| th <| rg <| ls <| q1 hF rfl (e_move hF rfl) fun a hF =>
    ls <| q1 hF rfl (e_lss hF rfl rfl) fun a hF =>
    ls <| q1 hF rfl (e_move hF rfl) fun a hF =>
    Fr.split hF (t := 8) rfl (fun hb hF => ?_) (fun hb hF => ?_)
  ·
    replace hb := of_decide_eq_true hb
    refine ls <| gn hF rfl rfl rfl rfl fun a hF =>
      ls <| gn hF rfl rfl rfl rfl fun a hF =>
      ls <| gn hF rfl rfl rfl rfl fun a hF =>
      ls <| gn hF rfl rfl rfl rfl fun a hF =>
      ls <| gn hF rfl rfl rfl rfl fun a hF =>
      ls <| gn hF rfl rfl rfl rfl fun a hF =>
      ls <| gn hF rfl rfl rfl rfl fun a hF =>
      ls <| q1 hF rfl (e_pickT hF rfl rfl) fun a hF =>
      re <| tn <| ?_
    refine ct hF rfl <| th <| rg <| ls <| q1 hF rfl (e_asg hF rfl) fun a hF =>
      ls <| q1 hF rfl (e_asg hF rfl) fun a hF =>
      re <| tn <| ?_
    refine wr <| tr <| ?_
    exact r2 hF Try.results27 rfl rfl ⟨by rw [readM, dif_neg (by omega)], hS.keep⟩
  ·
    replace hb := Int.not_lt.1 (of_decide_eq_false hb)
    refine ls <| gy hF rfl rfl <| q1 hF rfl (e_move hF rfl) fun a hF =>
      ls <| gy hF rfl rfl <| q1 hF rfl (e_move hF rfl) fun a hF =>
      ls <| gy hF rfl rfl <| q1 hF rfl (e_nilp hF rfl) fun a hF =>
      ls <| gy hF rfl rfl <| q1 hF rfl (e_fa hF fa60_2 rfl) fun a hF =>
      ls <| gy hF rfl rfl <| q1 hF rfl (e_ld hF Try.isAgg26 rfl ((St.ld hS).cellH (.head _) (ph_cell hm.blk rfl))) fun a hF =>
      ls <| gy hF rfl rfl <| q1 hF rfl (e_lenS hF Try.runUnderlying26 rfl) fun a hF =>
      ls <| gy hF rfl rfl <| q1 hF rfl (e_geq hF rfl rfl) fun a hF =>
      ls <| q1 hF rfl (e_pickF hF rfl rfl) fun a hF =>
      re <| tn <| ?_
    refine cs hF rfl (fun hb => ?_) (fun hb => ?_)
    ·
      replace hb := of_decide_eq_true hb
      refine th <| rg <| ls <| q1 hF rfl (e_asg hF rfl) fun a hF =>
        ls <| q1 hF rfl (e_asg hF rfl) fun a hF =>
        re <| tn <| ?_
      refine wr <| tr <| ?_
      exact r2 hF Try.results27 rfl rfl ⟨by rw [readM, dif_neg (by omega)], hS.keep⟩
    ·
      replace hb := Int.not_le.1 (of_decide_eq_false hb)
      refine wk <| tn <| ?_
      refine th <| rg <| ls <| q1 hF rfl (e_move hF rfl) fun a hF =>
        ls <| q1 hF rfl (e_nilp hF rfl) fun a hF =>
        ls <| q1 hF rfl (e_fa hF fa60_2 rfl) fun a hF =>
        ls <| q1 hF rfl (e_ld hF Try.isAgg26 rfl ((St.ld hS).cellH (.head _) (ph_cell hm.blk rfl))) fun a hF =>
        ls <| q1 hF rfl (e_move hF rfl) fun a hF =>
        ?_
      refine ls <| q1 hF rfl (e_ia (i := (cell).toNat) hF Try.runUnderlying26 Try.sizeOf3 rfl rfl (by omega) (by omega) (hm.l.some (ints_ne (l := m.l) (by omega)))) fun a hF =>
        ls <| q1 hF rfl (e_ld hF Try.isAgg3 rfl ((St.ld hS).elH (.head _) hm.l (ints_get (l := m.l) (k := (cell).toNat) (by omega)))) fun a hF =>
        ls <| q1 hF rfl (e_asg hF rfl) fun a hF =>
        ls <| q1 hF rfl (e_asg hF rfl) fun a hF =>
        re <| tn <| ?_
      refine wr <| ?_
      exact r2 hF Try.results27 rfl rfl ⟨by rw [readM, dif_pos (by omega)], hS.keep⟩

set_option maxRecDepth 100000 in
theorem all_c (w0 : World) (p : Nat) (g : MG) (m : MS) (hm : MemR (hp w0) p g m) (hi : MInv m) :
    Tot Try.prog 14 #[.pointer (some ⟨p, 0, none⟩)] w0 (fun v w' => ∃ oa c, v = .slice oa m.l.length c ∧ Fresh w0 (sla 3 1 oa m.l.length c (ints m.l)) w') := by
  have hl1 := hi.len1
  have hl2 := hi.len2
  have hl3 := hi.len3
  have hl4 := hi.len4
  refine fn0 (args := [.pointer (some ⟨p, 0, none⟩)]) (F := [(0, .pointer (some ⟨p, 0, none⟩))]) Try.func14 rfl Try.ntmps14 rfl rfl fun a hF => ?_
  have hS : St w0 Nil [hp w0] [] w0 := .start (by simp [hp_le])
  refine th <| rg <| ls <| q1 hF rfl (e_asg hF rfl) fun a hF =>
    re <| tn <| ?_
  refine th <| rg <| ls <| q1 hF rfl (e_move hF rfl) fun a hF =>
    ls <| q1 hF rfl (e_nilp hF rfl) fun a hF =>
    ls <| q1 hF rfl (e_fa hF fa60_2 rfl) fun a hF =>
    ls <| q1 hF rfl (e_ld hF Try.isAgg26 rfl ((St.ld hS).cellH (.head _) (ph_cell hm.blk rfl))) fun a hF =>
    ls <| c1 hF rfl Try.call32 (cloneI _ _ _ m.l (hS.rdH (.head _) hm.l) (by omega)) ⟨rfl, trivial⟩ (fun v w a hR hF => ?_)
  obtain ⟨oa, c, rfl, hf⟩ := hR
  replace hS := hS.fresh hf
  refine ls <| q1 hF rfl (e_asg hF rfl) fun a hF =>
    re <| tn <| ?_
  refine wr <| ?_
  exact r1 hF Try.results14 rfl ⟨_, _, rfl, hS.endFresh (.head _)⟩

set_option maxRecDepth 100000 in
theorem kept_c (w0 : World) (p : Nat) (g : MG) (m : MS) (hm : MemR (hp w0) p g m) (hi : MInv m) :
    Tot Try.prog 15 #[.pointer (some ⟨p, 0, none⟩)] w0 (fun v w' => ∃ oa c, v = .slice oa m.kept.length c ∧ Fresh w0 (sla 3 1 oa m.kept.length c (ints m.kept)) w') := by
  have hl1 := hi.len1
  have hl2 := hi.len2
  have hl3 := hi.len3
  have hl4 := hi.len4
  refine fn0 (args := [.pointer (some ⟨p, 0, none⟩)]) (F := [(0, .pointer (some ⟨p, 0, none⟩))]) Try.func15 rfl Try.ntmps15 rfl rfl fun a hF => ?_
  have hS : St w0 Nil [hp w0] [] w0 := .start (by simp [hp_le])
  refine th <| rg <| ls <| q1 hF rfl (e_asg hF rfl) fun a hF =>
    re <| tn <| ?_
  refine th <| rg <| ls <| q1 hF rfl (e_move hF rfl) fun a hF =>
    ls <| q1 hF rfl (e_nilp hF rfl) fun a hF =>
    ls <| q1 hF rfl (e_fa hF fa60_3 rfl) fun a hF =>
    ls <| q1 hF rfl (e_ld hF Try.isAgg26 rfl ((St.ld hS).cellH (.head _) (ph_cell hm.blk rfl))) fun a hF =>
    ls <| c1 hF rfl Try.call32 (cloneI _ _ _ m.kept (hS.rdH (.head _) hm.kept) (by omega)) ⟨rfl, trivial⟩ (fun v w a hR hF => ?_)
  obtain ⟨oa, c, rfl, hf⟩ := hR
  replace hS := hS.fresh hf
  refine ls <| q1 hF rfl (e_asg hF rfl) fun a hF =>
    re <| tn <| ?_
  refine wr <| ?_
  exact r1 hF Try.results15 rfl ⟨_, _, rfl, hS.endFresh (.head _)⟩

end Go.LL
