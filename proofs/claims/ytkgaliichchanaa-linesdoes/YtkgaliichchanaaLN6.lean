/- Walks over the layer of lines: next, Cuts. No condition beyond each theorem's own premises. -/
import Derived.Test.YtkgaliichchanaaLN5
import Derived.Test.YtkgaliichchanaaLLg
namespace Go.LL
open Go Go.Proofs


/-- the cut behind one -/
def nextI (m : MS) (xs : List Int) : Nat → Option (List Int)
  | 0 => none
  | k + 1 => if xs.getD k 0 < ((m.pend (k : Int)).length : Int) then some (xs.set k (xs.getD k 0 + 1)) else nextI m (xs.set k 0) k
theorem nextI_yes {m : MS} {xs : List Int} {k : Nat} (hk : k < xs.length) (h : xs[k] < ((m.pend (k : Int)).length : Int)) : nextI m xs (k + 1) = some (xs.set k (xs[k] + 1)) := by
  rw [nextI, getD_of_lt hk, if_pos h]
theorem nextI_no {m : MS} {xs : List Int} {k : Nat} (hk : k < xs.length) (h : ((m.pend (k : Int)).length : Int) ≤ xs[k]) : nextI m xs (k + 1) = nextI m (xs.set k 0) k := by
  rw [nextI, getD_of_lt hk, if_neg (by omega)]

set_option maxRecDepth 100000 in
theorem next_c (w0 : World) (p : Nat) (g : MG) (m : MS) (hm : MemR (hp w0) p g m) (hi : MInv m) (ocut : Option Addr) (ccut : Nat) (cut : List Int) (hr : Rd (hp w0) ocut (ints cut)) (hcl : cut.length ≤ 1000000) (hc0 : ∀ x ∈ cut, 0 ≤ x) :
    Tot Try.prog 31 #[.pointer (some ⟨p, 0, none⟩), .slice ocut cut.length ccut] w0 (fun v w' => (nextI m cut cut.length = none ∧ v = .tuple #[.slice none 0 0, .bool false] ∧ Keep Nil w0 w') ∨ (∃ c' oa cap, nextI m cut cut.length = some c' ∧ c'.length = cut.length ∧ v = .tuple #[.slice oa cut.length cap, .bool true] ∧ Fresh w0 (sla 3 1 oa cut.length cap (ints c')) w')) := by
  refine fn0 (args := [.pointer (some ⟨p, 0, none⟩), .slice ocut cut.length ccut]) (F := [(0, .pointer (some ⟨p, 0, none⟩)), (1, .slice ocut cut.length ccut)]) Try.func31 rfl Try.ntmps31 rfl rfl fun a hF => ?_
  have hS : St w0 Nil [hp w0] [] w0 := .start (by simp [hp_le])
  refine th <| rg <| ls <| q1 hF rfl (e_asg hF rfl) fun a hF =>
    ls <| q1 hF rfl (e_asg hF rfl) fun a hF =>
    re <| tn <| ?_
  refine th <| rg <| ls <| q1 hF rfl (e_move hF rfl) fun a hF =>
    ls <| c1 hF rfl Try.call32 (cloneI _ _ _ cut (hS.rdH (.head _) hr) hcl) ⟨rfl, trivial⟩ (fun v w a hR hF => ?_)
  obtain ⟨oa, c, rfl, hfr⟩ := hR
  replace hS := hS.fresh hfr
  clear hfr
  refine ls <| q1 hF rfl (e_asg hF rfl) fun a hF =>
    re <| tn <| ?_
  refine th <| th <| rg <| ls <| q1 hF rfl (e_move hF rfl) fun a hF =>
    ls <| q1 hF rfl (e_lenS hF Try.runUnderlying26 rfl) fun a hF =>
    ls <| q1 hF rfl (e_subI hF rfl rfl rfl (by omega)) fun a hF =>
    ls <| q1 hF rfl (e_asg hF rfl) fun a hF =>
    re <| tn <| ?_
  refine wb <| lp (α := Nat × List Int) (fun (gh : Nat × List Int) a w => match gh with | (kk, xs) => Fr 39 [(0, .pointer (some ⟨p, 0, none⟩)), (6, .slice oa cut.length c), (7, .int .i64 ((kk : Int) - 1))] a ∧ St w0 Nil [hp w0] [sla 3 1 oa cut.length c (ints xs)] w ∧ (kk ≤ cut.length ∧ xs.length = cut.length ∧ (∀ x ∈ xs, 0 ≤ x) ∧ nextI m xs kk = nextI m cut cut.length)) (fun (gh : Nat × List Int) => match gh with | (kk, xs) => kk) (cut.length, cut) ⟨hF.has ⟨rfl, rfl, rfl, trivial⟩, hS, ⟨Nat.le_refl _, rfl, hc0, rfl⟩⟩ ?_
  clear hF hS
  rintro ⟨kk, xs⟩ a w ⟨hF, hS, hk, hxl, hpos, hnx⟩
  refine th <| th <| rg <| ls <| q1 hF rfl (e_move hF rfl) fun a hF =>
    ls <| q1 hF rfl (e_geq hF rfl rfl) fun a hF =>
    re <| tn <| ?_
  refine cs hF rfl (fun hb => ?_) (fun hb => ?_)
  ·
    replace hb := of_decide_eq_true hb
    refine wk <| tn <| ?_
    obtain ⟨k, rfl⟩ : ∃ k', kk = k' + 1 := ⟨kk - 1, by omega⟩
    rw [show ((k + 1 : Nat) : Int) - 1 = (k : Int) by omega] at hF
    have hkl : k < xs.length := by omega
    have hx0 := hpos _ (List.getElem_mem hkl)
    obtain ⟨oak, ck, hlk, hRk, hck⟩ := hm.look (k : Int)
    have hfew := hi.few (k : Int)
    refine th <| wb <| th <| th <| rxS 12 hS wide (by kernel_rfl) fun w hS => ?_
    refine x1 (St.ld hS) hF rfl rfl (fun _ _ _ h => h) (fun w hl => e_move hF rfl) fun a hF =>
      x1 (St.ld hS) hF rfl rfl (fun _ _ _ h => h) (fun w hl => e_move hF rfl) fun a hF =>
      x1 (St.ld hS) hF rfl rfl (fun _ _ _ h => h) (fun w hl => e_ia hF Try.runUnderlying26 Try.sizeOf3 rfl rfl rfl (by omega) ((hl.rdO (.head _)).some (ints_ne (l := xs) (by omega)))) fun a hF =>
      x1 (St.ld hS) hF rfl rfl (fun _ _ _ h => h) (fun w hl => e_ld hF Try.isAgg3 rfl (hl.elO (.head _) (ints_get (l := xs) (k := k) (by omega)))) fun a hF =>
      x1 (St.ld hS) hF rfl rfl (fun _ _ _ h => h) (fun w hl => e_move hF rfl) fun a hF =>
      x1 (St.ld hS) hF rfl rfl (fun _ _ _ h => h) (fun w hl => e_nilp hF rfl) fun a hF =>
      x1 (St.ld hS) hF rfl rfl (fun _ _ _ h => h) (fun w hl => e_fa hF fa60_4 rfl) fun a hF =>
      x1 (St.ld hS) hF rfl rfl (fun _ _ _ h => h) (fun w hl => e_ld hF Try.isAgg58 rfl (hl.cellH (.head _) (ph_cell hm.blk rfl))) fun a hF =>
      x1 (St.ld hS) hF rfl rfl (fun _ _ _ h => h) (fun w hl => e_move hF rfl) fun a hF =>
      x1 (St.ld hS) hF rfl rfl (fun _ _ _ h => h) (fun w hl => e_lookV hF (keyInt Try.runUnderlying3) Try.runUnderlying58 Try.zeroValue57 (hl.hs _ (.head _) _ _ hm.map) rfl rfl hlk) fun a hF =>
      x1 (St.ld hS) hF rfl rfl (fun _ _ _ h => h) (fun w hl => e_lenS hF Try.runUnderlying57 rfl) fun a hF =>
      x1 (St.ld hS) hF rfl rfl (fun _ _ _ h => h) (fun w hl => e_lss hF rfl rfl) fun a hF =>
      xe <| tn <| ?_
    refine cs hF rfl (fun hb => ?_) (fun hb => ?_)
    ·
      replace hb := of_decide_eq_true hb
      refine th <| rg <| ls <| q1 hF rfl (e_move hF rfl) fun a hF =>
        ls <| q1 hF rfl (e_move hF rfl) fun a hF =>
        ls <| q1 hF rfl (e_ia hF Try.runUnderlying26 Try.sizeOf3 rfl rfl rfl (by omega) (((St.ld hS).rdO (.head _)).some (ints_ne (l := xs) (by omega)))) fun a hF =>
        ls <| q1 hF rfl (e_ld hF Try.isAgg3 rfl ((St.ld hS).elO (.head _) (ints_get (l := xs) (k := k) (by omega)))) fun a hF =>
        ls <| q1 hF rfl (e_addI hF rfl rfl rfl (by omega)) fun a hF =>
        ls <| q1 hF rfl (e_ia hF Try.runUnderlying26 Try.sizeOf3 rfl rfl rfl (by omega) (((St.ld hS).rdO (.head _)).some (ints_ne (l := xs) (by omega)))) fun a hF =>
        ls <| s_sl hF hS Try.sizeOf3 rfl rfl rfl rfl .head (by simp only [ints_len, List.length_set]; omega) fun w hS => ?_
      rw [ints_set] at hS
      refine re <| tn <| ?_
      refine th <| rg <| ls <| q1 hF rfl (e_move hF rfl) fun a hF =>
        ls <| q1 hF rfl (e_asg hF rfl) fun a hF =>
        ls <| q1 hF rfl (e_asg hF rfl) fun a hF =>
        re <| tn <| ?_
      refine wr <| tr <| br <| tr <| tr <| br <| tr <| ?_
      rw [nextI_yes hkl hb] at hnx
      exact r2 hF Try.results31 rfl rfl (.inr ⟨_, _, _, hnx.symm, by simpa using hxl, rfl, hS.endFresh (.head _)⟩)
    ·
      replace hb := Int.not_lt.1 (of_decide_eq_false hb)
      refine wk <| tn <| ?_
      refine rg <| ls <| q1 hF rfl (e_move hF rfl) fun a hF =>
        ls <| q1 hF rfl (e_move hF rfl) fun a hF =>
        ls <| q1 hF rfl (e_ia hF Try.runUnderlying26 Try.sizeOf3 rfl rfl rfl (by omega) (((St.ld hS).rdO (.head _)).some (ints_ne (l := xs) (by omega)))) fun a hF =>
        ls <| s_sl hF hS Try.sizeOf3 rfl rfl rfl rfl .head (by simp only [ints_len, List.length_set]; omega) fun w hS => ?_
      rw [ints_set] at hS
      refine re <| bn <| tn <| ?_
      refine rg <| ls <| q1 hF rfl (e_move hF rfl) fun a hF =>
        ls <| q1 hF rfl (e_subI hF rfl rfl rfl (by omega)) fun a hF =>
        ls <| q1 hF rfl (e_asg hF rfl) fun a hF =>
        re <| tn <| ?_
      rw [nextI_no hkl hb] at hnx
      exact ⟨(k, xs.set k 0), ⟨hF.has ⟨rfl, rfl, rfl, trivial⟩, hS, ⟨by omega, by simpa using hxl, fun x hx => by rcases List.mem_or_eq_of_mem_set hx with h | h; exact hpos x h; omega, hnx⟩⟩, (by dsimp only; omega)⟩
  ·
    replace hb := Int.not_le.1 (of_decide_eq_false hb)
    refine we <| tx <| tx <| bx <| tn <| ?_
    refine th <| rg <| ls <| q1 hF rfl (e_asg hF rfl) fun a hF =>
      ls <| q1 hF rfl (e_asg hF rfl) fun a hF =>
      re <| tn <| ?_
    refine wr <| ?_
    obtain rfl : kk = 0 := by omega
    exact r2 hF Try.results31 rfl rfl (.inl ⟨hnx.symm, rfl, hS.keep⟩)

end Go.LL
