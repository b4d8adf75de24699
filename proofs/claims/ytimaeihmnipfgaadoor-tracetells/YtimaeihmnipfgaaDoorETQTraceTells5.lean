/- Walks, lifted by program. No condition beyond each theorem's own premises. -/
import Derived.Test.YtimaeihmnipfgaaDoorETQTraceTells4
namespace Go.LM.ET
open Go Go.LL Go.MD Go.LM Go.Proofs Go.MD.ET

set_option maxRecDepth 100000 in
theorem leadlineref11_Rows_c {N : Nat} {w0 : World} {H : PH} (hH : H.le w0) {oa2 : Option Addr} {cap3 : Nat} {p1 : (List (List Int))} (hc4 : p1.length ≤ cap3) (hr5 : SR H oa2 p1) {oa7 : Option Addr} {cap8 : Nat} {p6 : (List (List Int))} (hc9 : p6.length ≤ cap8) (hr10 : SR H oa7 p6) {r : Bool} (hm : leadlineref11_Rows N p1 p6 = some r) : Tot Tryd.prog 35 #[.slice oa2 p1.length cap3, .slice oa7 p6.length cap8] w0 (fun v w' => v = .bool r ∧ Keep Nil w0 w') := by
  unfold leadlineref11_Rows at hm
  refine fn0 (args := [.slice oa2 p1.length cap3, .slice oa7 p6.length cap8]) (F := [(0, .slice oa2 p1.length cap3), (1, .slice oa7 p6.length cap8)]) Tryd.func35 rfl Tryd.ntmps35 rfl rfl fun a hF => ?_
  have hS : St w0 Nil [H] [] w0 := start1 hH
  refine th <| ?_
  refine rg <| ?_
  refine ls <| q1 hF rfl (e_asg hF rfl) fun a hF => ?_
  refine re <| ?_
  refine tn <| th <| th <| ?_
  refine rg <| ?_
  refine ls <| q1 hF rfl (e_move hF rfl) fun a hF => ?_
  refine ls <| q1 hF rfl (e_lenL (α := (List Int)) (xs := p1) hF Tryd.runUnderlying49 rfl) fun a hF => ?_
  refine ls <| q1 hF rfl (e_move hF rfl) fun a hF => ?_
  refine ls <| q1 hF rfl (e_lenL (α := (List Int)) (xs := p6) hF Tryd.runUnderlying49 rfl) fun a hF => ?_
  refine ls <| q1 hF rfl (e_neq hF rfl rfl) fun a hF => ?_
  refine re <| ?_
  rcases bdich (decide ((p1.length : Int) ≠ (p6.length : Int))) with hb11 | hb11
  ·
    replace hm := itp_t hm hb11
    refine tn <| ctv hF rfl hb11 <| th <| ?_
    refine rg <| ?_
    refine ls <| q1 hF rfl (e_asg hF rfl) fun a hF => ?_
    refine re <| ?_
    refine tn <| ?_
    refine wp_ret <| tr <| ?_
    obtain rfl := Option.some.inj hm
    exact r1 hF Tryd.results35 rfl ⟨rfl, hS.keep⟩
  ·
    replace hm := itp_f hm hb11
    refine tn <| cfv hF rfl hb11 <| wp_skip <| ?_
    refine tn <| th <| th <| ?_
    refine rg <| ?_
    refine ls <| q1 hF rfl (e_asg hF rfl) fun a hF => ?_
    refine re <| ?_
    refine tn <| midK (fun a w => ∃ (HA1 : PH), leadlineref11_Rows_j1 = some r ∧ Ext w0 H HA1 ∧ Fr 27 [] a ∧ St w0 Nil [HA1] [] w) ?_ ?_
    ·
      refine wp_block <| lp (α := Nat × Int) (fun (gh : Nat × Int) a w => match gh with | (nn2, vB10) => ∃ (HB1 : PH) (oaB2 : Option Addr) (capB3 : Nat) (oaB6 : Option Addr) (capB7 : Nat), (leadlineref11_Rows_l2 N leadlineref11_Rows_j1 p1 p6) nn2 vB10 = some r ∧ Ext w0 H HB1 ∧ Fr 27 [(0, .slice oaB2 p1.length capB3), (1, .slice oaB6 p6.length capB7), (5, .int .i64 vB10)] a ∧ St w0 Nil [HB1] [] w ∧ p1.length ≤ capB3 ∧ SR HB1 oaB2 p1 ∧ p6.length ≤ capB7 ∧ SR HB1 oaB6 p6) (fun gh => gh.1) (N, 0) ⟨H, oa2, cap3, oa7, cap8, hm, (Ext.refl _ _), hF.has ⟨rfl, rfl, rfl, trivial⟩, hS, hc4, hr5, hc9, hr10⟩ ?_
      clear hm hF hS
      rintro ⟨nn2, vB10⟩ a w ⟨HB1, oaB2, capB3, oaB6, capB7, hm, hxHB1, hF, hS, hcB4, hrB5, hcB8, hrB9⟩
      obtain _ | nn2 := nn2
      · simp [leadlineref11_Rows_l2] at hm
      rw [leadlineref11_Rows_l2] at hm
      refine th <| th <| ?_
      refine rg <| ?_
      refine ls <| q1 hF rfl (e_move hF rfl) fun a hF => ?_
      refine ls <| q1 hF rfl (e_move hF rfl) fun a hF => ?_
      refine ls <| q1 hF rfl (e_lenL (α := (List Int)) (xs := p1) hF Tryd.runUnderlying49 rfl) fun a hF => ?_
      refine ls <| q1 hF rfl (e_lss hF rfl rfl) fun a hF => ?_
      refine re <| ?_
      rcases bdich (decide (vB10 < (p1.length : Int))) with hb12 | hb12
      ·
        replace hm := itp_t hm hb12
        refine tn <| ctv hF rfl hb12 <| wp_skip <| ?_
        refine tn <| th <| wp_block <| th <| ?_
        replace hm := bind_some hm
        obtain ⟨x13, h14, hm⟩ := hm
        obtain ⟨c15, g16, hl17⟩ := SR.get hrB5 h14
        obtain ⟨oa18, cap19, rfl, hc20, hr21⟩ := g16
        replace hm := bind_some hm
        obtain ⟨x22, h23, hm⟩ := hm
        obtain ⟨c24, g25, hl26⟩ := SR.get hrB9 h23
        obtain ⟨oa27, cap28, rfl, hc29, hr30⟩ := g25
        replace hm := bind_some hm
        obtain ⟨r31, h32, hm⟩ := hm
        refine rdS 10 hS wide fun w hS => ?_
        refine d1 (i := 0) rfl (by kernel_rfl) (by kernel_rfl) (St.ld hS) hF rfl (fun _ _ _ h => h) (fun w hl => (e_move hF rfl)) fun a hF => ?_
        refine d1 (i := 1) rfl (by kernel_rfl) (by kernel_rfl) (St.ld hS) hF rfl (fun _ _ _ h => h) (fun w hl => (e_move hF rfl)) fun a hF => ?_
        refine d1 (i := 2) rfl (by kernel_rfl) (by kernel_rfl) (St.ld hS) hF rfl (fun _ _ _ h => h) (fun w hl => (e_iaI hF Tryd.runUnderlying49 Tryd.sizeOf25 rfl rfl h14 (SR.oaI hrB5 (by decide) h14))) fun a hF => ?_
        refine d1 (i := 3) rfl (by kernel_rfl) (by kernel_rfl) (St.ld hS) hF rfl (fun _ _ _ h => h) (fun w hl => (e_ld hF Tryd.isAgg25 rfl (PH.le.cell (Lds.le hl) (hl17 0 _ rfl)))) fun a hF => ?_
        refine d1 (i := 4) rfl (by kernel_rfl) (by kernel_rfl) (St.ld hS) hF rfl (fun _ _ _ h => h) (fun w hl => (e_move hF rfl)) fun a hF => ?_
        refine d1 (i := 5) rfl (by kernel_rfl) (by kernel_rfl) (St.ld hS) hF rfl (fun _ _ _ h => h) (fun w hl => (e_move hF rfl)) fun a hF => ?_
        refine d1 (i := 6) rfl (by kernel_rfl) (by kernel_rfl) (St.ld hS) hF rfl (fun _ _ _ h => h) (fun w hl => (e_iaI hF Tryd.runUnderlying49 Tryd.sizeOf25 rfl rfl h23 (SR.oaI hrB9 (by decide) h23))) fun a hF => ?_
        refine d1 (i := 7) rfl (by kernel_rfl) (by kernel_rfl) (St.ld hS) hF rfl (fun _ _ _ h => h) (fun w hl => (e_ld hF Tryd.isAgg25 rfl (PH.le.cell (Lds.le hl) (hl26 0 _ rfl)))) fun a hF => ?_
        refine da1 (i := 8) (by kernel_rfl) ?_
        refine di (i := 8) rfl <| c1 hF rfl Tryd.call58 (leadlineref06_Ints_c (hp_le _) hc20 (St.srH hS hr21) hc29 (St.srH hS hr30) h32) ⟨rfl, rfl, trivial⟩ (fun v w a hR hF => ?_)
        obtain ⟨rfl, hk⟩ := hR
        replace hS := hS.pass hk
        clear hk
        refine ⟨fun _ => (St.ld hS), ?_⟩
        refine d1 (i := 9) rfl (by kernel_rfl) (by kernel_rfl) (St.ld hS) hF rfl (fun _ _ _ h => h) (fun w hl => (e_not hF rfl)) fun a hF => ?_
        refine de (by kernel_rfl) <| ?_
        rcases bdich r31 with hb33 | hb33
        ·
          replace hm := ite_t hm hb33
          refine tn <| cfv hF rfl (by rw [hb33]; rfl) <| wp_skip <| ?_
          refine bn <| tn <| ?_
          refine rg <| ?_
          refine ls <| q1 hF rfl (e_move hF rfl) fun a hF => ?_
          refine ls <| q1 hF rfl (e_add hF rfl rfl) fun a hF => ?_
          refine ls <| q1 hF rfl (e_asg hF rfl) fun a hF => ?_
          refine re <| ?_
          refine tn <| ?_
          exact ⟨(nn2, (IntKind.i64.wrap (vB10 + 1))), ⟨HB1, oaB2, capB3, oaB6, capB7, hm, hxHB1, hF.has ⟨rfl, rfl, rfl, trivial⟩, hS, hcB4, hrB5, hcB8, hrB9⟩, Nat.lt_succ_self _⟩
        ·
          replace hm := ite_f hm hb33
          refine tn <| ctv hF rfl (by rw [hb33]; rfl) <| th <| ?_
          refine rg <| ?_
          refine ls <| q1 hF rfl (e_asg hF rfl) fun a hF => ?_
          refine re <| ?_
          refine tn <| ?_
          refine wp_ret <| br <| tr <| tr <| br <| tr <| ?_
          obtain rfl := Option.some.inj hm
          exact r1 hF Tryd.results35 rfl ⟨rfl, hS.keep⟩
      ·
        replace hm := itp_f hm hb12
        refine tn <| cfv hF rfl hb12 <| ?_
        refine wp_exit <| tx <| tx <| bx <| ?_
        refine tn <| ?_
        exact ⟨HB1, hm, hxHB1, hF.has trivial, hS⟩
    clear hm hF hS
    rintro a w ⟨HA1, hm, hxHA1, hF, hS⟩
    unfold leadlineref11_Rows_j1 at hm
    refine th <| ?_
    refine rg <| ?_
    refine ls <| q1 hF rfl (e_asg hF rfl) fun a hF => ?_
    refine re <| ?_
    refine tn <| ?_
    refine wp_ret <| ?_
    obtain rfl := Option.some.inj hm
    exact r1 hF Tryd.results35 rfl ⟨rfl, hS.keep⟩

set_option maxRecDepth 100000 in
theorem leadlinelaw17_fixed_c {N : Nat} {w0 : World} {H : PH} (hH : H.le w0) (hT : Tab H)  {r : Bool} (hm : leadlinelaw17_fixed N  = some r) : Tot Tryd.prog 38 #[] w0 (fun v w' => v = .bool r ∧ Keep Nil w0 w') := by
  unfold leadlinelaw17_fixed at hm
  refine fn0 (args := []) (F := []) Tryd.func38 rfl Tryd.ntmps38 rfl rfl fun a hF => ?_
  have hS : St w0 Nil [H] [] w0 := start1 hH
  refine th <| ?_
  refine rg <| ?_
  refine ls <| q1 hF rfl (e_asg hF rfl) fun a hF => ?_
  refine re <| ?_
  refine tn <| th <| ?_
  refine rg <| ?_
  have hv1 : Rows (α := Int) H [.int .i64 0, .int .i64 0, .int .i64 1] ([0, 0, 1] : List Int) := (.cons (c := [.int .i64 0]) rfl (.cons (c := [.int .i64 0]) rfl (.cons (c := [.int .i64 1]) rfl .nil)))
  refine ls <| a_bsl (e := 3) (sz := 1) [.int .i64 0, .int .i64 0, .int .i64 1] hF rfl hS rfl rfl rfl (fun w => by kernel_rfl) fun b2 w a hS hF => ?_
  refine ls <| q1 hF rfl (e_asg hF rfl) fun a hF => ?_
  refine re <| ?_
  refine tn <| th <| ?_
  refine rg <| ?_
  refine ls <| q1 hF rfl (e_bldK [.int .i64 12, .int .i64 1, .int .i64 1] [.int .i64 12, .int .i64 1, .int .i64 0, .int .i64 1, .int .i64 0] hF ⟨rfl, rfl, rfl, trivial⟩ (fun w => by kernel_rfl)) fun a hF => ?_
  refine ls <| q1 hF rfl (e_bldK [.int .i64 12, .int .i64 2, .int .i64 1] [.int .i64 12, .int .i64 0, .int .i64 2, .int .i64 1, .int .i64 0] hF ⟨rfl, rfl, rfl, trivial⟩ (fun w => by kernel_rfl)) fun a hF => ?_
  refine ls <| q1 hF rfl (e_bldK [.int .i64 1, .int .i64 0, .int .i64 1] [.int .i64 1, .int .i64 0, .int .i64 0, .int .i64 1, .int .i64 0] hF ⟨rfl, rfl, rfl, trivial⟩ (fun w => by kernel_rfl)) fun a hF => ?_
  refine ls <| a_alloc (cs := [.int .i64 0, .int .i64 0, .int .i64 0, .int .i64 0, .int .i64 0].toArray) hF rfl hS Tryd.zeroValue23 rfl fun b4 w a hS hF => ?_
  refine ls <| a_alloc (cs := [.int .i64 0, .int .i64 0, .int .i64 0, .int .i64 0, .int .i64 0].toArray) hF rfl hS Tryd.zeroValue23 rfl fun b5 w a hS hF => ?_
  refine ls <| a_alloc (cs := [.int .i64 0, .int .i64 0, .int .i64 0, .int .i64 0, .int .i64 0].toArray) hF rfl hS Tryd.zeroValue23 rfl fun b6 w a hS hF => ?_
  refine ls <| s_blkA hF hS Tryd.sizeOf23 rfl rfl rfl rfl (one_cells rfl) (.tail (.tail .head)) fun w hS => ?_
  refine ls <| s_blkA hF hS Tryd.sizeOf23 rfl rfl rfl rfl (one_cells rfl) (.tail .head) fun w hS => ?_
  refine ls <| s_blkA hF hS Tryd.sizeOf23 rfl rfl rfl rfl (one_cells rfl) .head fun w hS => ?_
  refine re <| ?_
  refine tn <| th <| ?_
  refine rg <| ?_
  refine ls <| q1 hF rfl (e_ldA hF Tryd.isAgg23 Tryd.sizeOf23 rfl rfl ((St.ld hS).cellsB (.tail _ (.tail _ (.head _))))) fun a hF => ?_
  refine ls <| q1 hF rfl (e_ldA hF Tryd.isAgg23 Tryd.sizeOf23 rfl rfl ((St.ld hS).cellsB (.tail _ (.head _)))) fun a hF => ?_
  refine ls <| q1 hF rfl (e_ldA hF Tryd.isAgg23 Tryd.sizeOf23 rfl rfl ((St.ld hS).cellsB (.head _))) fun a hF => ?_
  have hv7 : Rows (α := api_Event) H [.int .i64 12, .int .i64 1, .int .i64 0, .int .i64 1, .int .i64 0, .int .i64 12, .int .i64 0, .int .i64 2, .int .i64 1, .int .i64 0, .int .i64 1, .int .i64 0, .int .i64 0, .int .i64 1, .int .i64 0] ([(api_Event.mk 12 1 0 1 0), (api_Event.mk 12 0 2 1 0), (api_Event.mk 1 0 0 1 0)] : List api_Event) := (.cons (c := [.int .i64 12, .int .i64 1, .int .i64 0, .int .i64 1, .int .i64 0]) ⟨_, _, rfl, rfl, ⟨_, _, rfl, rfl, ⟨_, _, rfl, rfl, ⟨_, _, rfl, rfl, rfl⟩⟩⟩⟩ (.cons (c := [.int .i64 12, .int .i64 0, .int .i64 2, .int .i64 1, .int .i64 0]) ⟨_, _, rfl, rfl, ⟨_, _, rfl, rfl, ⟨_, _, rfl, rfl, ⟨_, _, rfl, rfl, rfl⟩⟩⟩⟩ (.cons (c := [.int .i64 1, .int .i64 0, .int .i64 0, .int .i64 1, .int .i64 0]) ⟨_, _, rfl, rfl, ⟨_, _, rfl, rfl, ⟨_, _, rfl, rfl, ⟨_, _, rfl, rfl, rfl⟩⟩⟩⟩ .nil)))
  refine ls <| a_bsl (e := 23) (sz := 5) [.int .i64 12, .int .i64 1, .int .i64 0, .int .i64 1, .int .i64 0, .int .i64 12, .int .i64 0, .int .i64 2, .int .i64 1, .int .i64 0, .int .i64 1, .int .i64 0, .int .i64 0, .int .i64 1, .int .i64 0] hF rfl hS rfl rfl rfl (fun w => by kernel_rfl) fun b8 w a hS hF => ?_
  refine ls <| q1 hF rfl (e_asg hF rfl) fun a hF => ?_
  refine re <| ?_
  refine tn <| th <| ?_
  replace hm := bind_some hm
  obtain ⟨r10, h11, hm⟩ := hm
  refine rg <| ?_
  refine ls <| q1 hF rfl (e_move hF rfl) fun a hF => ?_
  refine ls <| q1 hF rfl (e_move hF rfl) fun a hF => ?_
  refine ls <| c1 hF rfl Tryd.call26 (trace_Swap_c (hp_le _) (St.capO hS (.head _)) (St.srO hS (.head _) hv7) (St.capO hS (.tail _ (.tail _ (.tail _ (.tail _ (.head _)))))) (St.srO hS (.tail _ (.tail _ (.tail _ (.tail _ (.head _))))) hv1) h11) ⟨rfl, rfl, rfl, rfl, trivial⟩ (fun v w a hR hF => ?_)
  obtain ⟨oa12, cap13, vs14, rfl, hv15, hk⟩ := hR
  replace hS := hS.fresh hk
  clear hk
  replace hv15 := hv15 H
  refine ls <| q1 hF rfl (e_move hF rfl) fun a hF => ?_
  refine ls <| q1 hF rfl (e_ext hF rfl rfl) fun a hF => ?_
  refine ls <| q1 hF rfl (e_ext hF rfl rfl) fun a hF => ?_
  refine ls <| q1 hF rfl (e_asg hF rfl) fun a hF => ?_
  refine ls <| q1 hF rfl (e_asg hF rfl) fun a hF => ?_
  refine re <| ?_
  refine tn <| th <| ?_
  replace hm := bind_some hm
  obtain ⟨r17, h18, hm⟩ := hm
  refine rg <| ?_
  refine ls <| q1 hF rfl (e_move hF rfl) fun a hF => ?_
  refine ls <| q1 hF rfl (e_move hF rfl) fun a hF => ?_
  refine ls <| c1 hF rfl Tryd.call26 (trace_Swap_c (hp_le _) (St.capO hS (.tail _ (.head _))) (St.srO hS (.tail _ (.head _)) hv7) (St.capO hS (.tail _ (.tail _ (.tail _ (.tail _ (.tail _ (.head _))))))) (St.srO hS (.tail _ (.tail _ (.tail _ (.tail _ (.tail _ (.head _)))))) hv1) h18) ⟨rfl, rfl, rfl, rfl, trivial⟩ (fun v w a hR hF => ?_)
  obtain ⟨oa19, cap20, vs21, rfl, hv22, hk⟩ := hR
  replace hS := hS.fresh hk
  clear hk
  replace hv22 := hv22 H
  refine ls <| q1 hF rfl (e_move hF rfl) fun a hF => ?_
  refine ls <| q1 hF rfl (e_ext hF rfl rfl) fun a hF => ?_
  refine ls <| q1 hF rfl (e_ext hF rfl rfl) fun a hF => ?_
  refine ls <| q1 hF rfl (e_asg hF rfl) fun a hF => ?_
  refine ls <| q1 hF rfl (e_asg hF rfl) fun a hF => ?_
  refine re <| ?_
  refine tn <| th <| ?_
  obtain ⟨H27, hx24, hr25, hc26, hS⟩ := St.frzS hS (.tail (.tail .head)) hv7
  obtain ⟨H31, hx28, hr29, hc30, hS⟩ := St.frzS hS (.tail (.tail (.tail (.tail (.tail .head))))) (hv1.mono hx24.sub)
  replace hm := bind_some hm
  obtain ⟨r32, h33, hm⟩ := hm
  replace hm := bind_some hm
  obtain ⟨r42, h43, hm⟩ := hm
  replace hm := bind_some hm
  obtain ⟨_, hb44, hm⟩ := hm
  replace hb44 := sure_some hb44
  replace hm := bind_some hm
  obtain ⟨r45, h46, hm⟩ := hm
  replace hm := bind_some hm
  obtain ⟨_, hb47, hm⟩ := hm
  replace hb47 := sure_some hb47
  replace hm := bind_some hm
  obtain ⟨r51, h52, hm⟩ := hm
  replace hm := bind_some hm
  obtain ⟨_, hb53, hm⟩ := hm
  replace hb53 := sure_some hb53
  replace hm := bind_some hm
  obtain ⟨_, hb54, hm⟩ := hm
  replace hb54 := sure_some hb54
  replace hm := bind_some hm
  obtain ⟨_, hb55, hm⟩ := hm
  replace hb55 := sure_some hb55
  replace hm := bind_some hm
  obtain ⟨r59, h60, hm⟩ := hm
  replace hm := bind_some hm
  obtain ⟨_, hb61, hm⟩ := hm
  replace hb61 := sure_some hb61
  replace hm := bind_some hm
  obtain ⟨r62, h63, hm⟩ := hm
  replace hm := bind_some hm
  obtain ⟨_, hb64, hm⟩ := hm
  replace hb64 := sure_some hb64
  replace hm := bind_some hm
  obtain ⟨r65, h66, hm⟩ := hm
  replace hm := bind_some hm
  obtain ⟨r83, h84, hm⟩ := hm
  replace hm := bind_some hm
  obtain ⟨_, hb85, hm⟩ := hm
  replace hb85 := sure_some hb85
  replace hm := bind_some hm
  obtain ⟨r86, h87, hm⟩ := hm
  replace hm := bind_some hm
  obtain ⟨_, hb88, hm⟩ := hm
  replace hb88 := sure_some hb88
  replace hm := bind_some hm
  obtain ⟨r95, h96, hm⟩ := hm
  refine rdS 68 hS wide fun w hS => ?_
  refine d1 (i := 0) rfl (by kernel_rfl) (by kernel_rfl) (St.ld hS) hF rfl (fun _ _ _ h => h) (fun w hl => (e_move hF rfl)) fun a hF => ?_
  refine d1 (i := 1) rfl (by kernel_rfl) (by kernel_rfl) (St.ld hS) hF rfl (fun _ _ _ h => h) (fun w hl => (e_move hF rfl)) fun a hF => ?_
  refine d1 (i := 3) rfl (by kernel_rfl) (by kernel_rfl) (St.ld hS) hF rfl (fun _ _ _ h => h) (fun w hl => (e_ldA hF Tryd.isAgg23 Tryd.sizeOf23 rfl rfl (hl.cellsB (.tail _ (.tail _ (.tail _ (.head _))))))) fun a hF => ?_
  refine d1 (i := 4) rfl (by kernel_rfl) (by kernel_rfl) (St.ld hS) hF rfl (fun _ _ _ h => h) (fun w hl => (e_ldA hF Tryd.isAgg23 Tryd.sizeOf23 rfl rfl (hl.cellsB (.tail _ (.tail _ (.tail _ (.tail _ (.head _)))))))) fun a hF => ?_
  refine d1 (i := 5) rfl (by kernel_rfl) (by kernel_rfl) (St.ld hS) hF rfl (fun _ _ _ h => h) (fun w hl => (e_ldA hF Tryd.isAgg23 Tryd.sizeOf23 rfl rfl (hl.cellsB (.tail _ (.tail _ (.head _)))))) fun a hF => ?_
  have hv39 : Rows (α := api_Event) H31 [.int .i64 12, .int .i64 0, .int .i64 2, .int .i64 1, .int .i64 0, .int .i64 12, .int .i64 1, .int .i64 0, .int .i64 1, .int .i64 0, .int .i64 1, .int .i64 0, .int .i64 0, .int .i64 1, .int .i64 0] ([(api_Event.mk 12 0 2 1 0), (api_Event.mk 12 1 0 1 0), (api_Event.mk 1 0 0 1 0)] : List api_Event) := (.cons (c := [.int .i64 12, .int .i64 0, .int .i64 2, .int .i64 1, .int .i64 0]) ⟨_, _, rfl, rfl, ⟨_, _, rfl, rfl, ⟨_, _, rfl, rfl, ⟨_, _, rfl, rfl, rfl⟩⟩⟩⟩ (.cons (c := [.int .i64 12, .int .i64 1, .int .i64 0, .int .i64 1, .int .i64 0]) ⟨_, _, rfl, rfl, ⟨_, _, rfl, rfl, ⟨_, _, rfl, rfl, ⟨_, _, rfl, rfl, rfl⟩⟩⟩⟩ (.cons (c := [.int .i64 1, .int .i64 0, .int .i64 0, .int .i64 1, .int .i64 0]) ⟨_, _, rfl, rfl, ⟨_, _, rfl, rfl, ⟨_, _, rfl, rfl, ⟨_, _, rfl, rfl, rfl⟩⟩⟩⟩ .nil)))
  refine cutD (k := 2) (L := #[true, true, true, true, true, true, true, false, false, false, false, false, false, false, false, false, false, false, false, false, false, false, false, false, false, false, false, false, false, false, false, false, false, false, false, false, false, false, false, false, false, false, false, false, false, false, false, false, false, false, false, false, false, false, false, false, false, false, false, false, false, false, false, false, false, false, false, false]) (fun a w => ∃ (oa34 : Option Addr) (cap35 : Nat) (vs36 : List Value) (b40 : Nat), Fr 97 [(1, .slice (some ⟨b2, 0, none⟩) ([0, 0, 1] : List Int).length 3), (2, .pointer (some ⟨b4, 0, none⟩)), (3, .pointer (some ⟨b5, 0, none⟩)), (4, .pointer (some ⟨b6, 0, none⟩)), (5, .slice (some ⟨b8, 0, none⟩) ([(api_Event.mk 12 1 0 1 0), (api_Event.mk 12 0 2 1 0), (api_Event.mk 1 0 0 1 0)] : List api_Event).length 3), (6, .slice oa12 r10.1.length cap13), (7, .bool r10.2), (9, .bool r17.2), (30, .slice (some ⟨b8, 0, none⟩) ([(api_Event.mk 12 1 0 1 0), (api_Event.mk 12 0 2 1 0), (api_Event.mk 1 0 0 1 0)] : List api_Event).length 3), (31, .slice (some ⟨b2, 0, none⟩) ([0, 0, 1] : List Int).length 3), (32, .slice oa34 r32.length cap35), (33, .agg #[.int .i64 12, .int .i64 0, .int .i64 2, .int .i64 1, .int .i64 0]), (34, .agg #[.int .i64 12, .int .i64 1, .int .i64 0, .int .i64 1, .int .i64 0]), (35, .agg #[.int .i64 1, .int .i64 0, .int .i64 0, .int .i64 1, .int .i64 0]), (36, .slice (some ⟨b40, 0, none⟩) ([(api_Event.mk 12 0 2 1 0), (api_Event.mk 12 1 0 1 0), (api_Event.mk 1 0 0 1 0)] : List api_Event).length 3)] a ∧ St w0 Nil [H31] [sla 23 5 (some ⟨b40, 0, none⟩) ([(api_Event.mk 12 0 2 1 0), (api_Event.mk 12 1 0 1 0), (api_Event.mk 1 0 0 1 0)] : List api_Event).length 3 [.int .i64 12, .int .i64 0, .int .i64 2, .int .i64 1, .int .i64 0, .int .i64 12, .int .i64 1, .int .i64 0, .int .i64 1, .int .i64 0, .int .i64 1, .int .i64 0, .int .i64 0, .int .i64 1, .int .i64 0], sla 23 5 oa34 r32.length cap35 vs36, sla 23 5 oa19 r17.1.length cap20 vs21, sla 23 5 oa12 r10.1.length cap13 vs14, blk b6 (.cells [.int .i64 1, .int .i64 0, .int .i64 0, .int .i64 1, .int .i64 0].toArray 23 (0, 0)), blk b5 (.cells [.int .i64 12, .int .i64 0, .int .i64 2, .int .i64 1, .int .i64 0].toArray 23 (0, 0)), blk b4 (.cells [.int .i64 12, .int .i64 1, .int .i64 0, .int .i64 1, .int .i64 0].toArray 23 (0, 0))] w ∧ Rows H31 vs36 r32) ?_ ?_
  ·
    intro hJ97
    refine da2 (i := 2) (j := 6) (by kernel_rfl) ?_ ?_
    ·
      refine di (i := 2) rfl <| c1 hF rfl Tryd.call29 (trace_Form_c (hp_le _) hc26 (St.srH hS (hr25.mono hx28.sub)) hc30 (St.srH hS hr29) h33) ⟨rfl, rfl, rfl, trivial⟩ (fun v w a hR hF => ?_)
      obtain ⟨oa34, cap35, vs36, rfl, hv37, hk⟩ := hR
      replace hS := hS.fresh hk
      clear hk
      replace hv37 := hv37 H31
      refine ⟨fun _ => (St.ldsX hS (fun _ _ h => h) (fun _ h => (.tail _ h))), ?_⟩
      refine da1 (i := 6) (by kernel_rfl) ?_
      refine di (i := 6) rfl <| a_bsl (e := 23) (sz := 5) [.int .i64 12, .int .i64 0, .int .i64 2, .int .i64 1, .int .i64 0, .int .i64 12, .int .i64 1, .int .i64 0, .int .i64 1, .int .i64 0, .int .i64 1, .int .i64 0, .int .i64 0, .int .i64 1, .int .i64 0] hF rfl hS rfl rfl rfl (fun w => by kernel_rfl) fun b40 w a hS hF => ?_
      refine ⟨fun _ => (St.ldsX hS (fun _ _ h => h) (fun _ h => (.tail _ (.tail _ h)))), ?_⟩
      exact wpD_list (by kernel_rfl) (hJ97 _ _ ⟨oa34, cap35, vs36, b40, hF.has ⟨rfl, rfl, rfl, rfl, rfl, rfl, rfl, rfl, rfl, rfl, rfl, rfl, rfl, rfl, rfl, trivial⟩, hS, hv37⟩)
    ·
      refine di (i := 6) rfl <| a_bsl (e := 23) (sz := 5) [.int .i64 12, .int .i64 0, .int .i64 2, .int .i64 1, .int .i64 0, .int .i64 12, .int .i64 1, .int .i64 0, .int .i64 1, .int .i64 0, .int .i64 1, .int .i64 0, .int .i64 0, .int .i64 1, .int .i64 0] hF rfl hS rfl rfl rfl (fun w => by kernel_rfl) fun b40 w a hS hF => ?_
      refine ⟨fun _ => (St.ldsX hS (fun _ _ h => h) (fun _ h => (.tail _ h))), ?_⟩
      refine da1 (i := 2) (by kernel_rfl) ?_
      refine di (i := 2) rfl <| c1 hF rfl Tryd.call29 (trace_Form_c (hp_le _) hc26 (St.srH hS (hr25.mono hx28.sub)) hc30 (St.srH hS hr29) h33) ⟨rfl, rfl, rfl, trivial⟩ (fun v w a hR hF => ?_)
      obtain ⟨oa34, cap35, vs36, rfl, hv37, hk⟩ := hR
      replace hS := hS.fresh hk
      clear hk
      replace hv37 := hv37 H31
      refine ⟨fun _ => (St.ldsX hS (fun _ _ h => h) (fun _ h => (.tail _ (.tail _ h)))), ?_⟩
      replace hS := hS.pickL (.cons (.tail .head) (.cons .head (.cons .head (.cons .head (.cons .head (.cons .head (.cons .head .nil)))))))
      exact wpD_list (by kernel_rfl) (hJ97 _ _ ⟨oa34, cap35, vs36, b40, hF.has ⟨rfl, rfl, rfl, rfl, rfl, rfl, rfl, rfl, rfl, rfl, rfl, rfl, rfl, rfl, rfl, trivial⟩, hS, hv37⟩)
  ·
    rintro a w ⟨oa34, cap35, vs36, b40, hF, hS, hv37⟩
    refine da1 (i := 7) (by kernel_rfl) ?_
    refine di (i := 7) rfl <| c1 hF rfl Tryd.call28 (leadlineref17_Equal_c (hp_le _) (St.capO hS (.tail _ (.head _))) (St.srO hS (.tail _ (.head _)) hv37) (St.capO hS (.head _)) (St.srO hS (.head _) hv39) h43) ⟨rfl, rfl, trivial⟩ (fun v w a hR hF => ?_)
    obtain ⟨rfl, hk⟩ := hR
    replace hS := hS.pass hk
    clear hk
    refine ⟨fun _ => (St.ldsX hS (fun _ _ h => h) (fun _ h => (.tail _ (.tail _ h)))), ?_⟩
    refine d1 (i := 8) rfl (by kernel_rfl) (by kernel_rfl) (St.ldsX hS (fun _ _ h => h) (fun _ h => (.tail _ (.tail _ h)))) hF rfl (fun _ _ _ h => h) (fun w hl => (e_as (e_move hF rfl) (congrArg Value.bool hb44))) fun a hF => ?_
    refine d1g (i := 9) rfl (by kernel_rfl) (by kernel_rfl) (St.ldsX hS (fun _ _ h => h) (fun _ h => (.tail _ (.tail _ h)))) hF rfl rfl rfl (fun _ _ _ h => h) (fun w hl => (e_move hF rfl)) fun a hF => ?_
    refine d1g (i := 10) rfl (by kernel_rfl) (by kernel_rfl) (St.ldsX hS (fun _ _ h => h) (fun _ h => (.tail _ (.tail _ h)))) hF rfl rfl rfl (fun _ _ _ h => h) (fun w hl => (e_move hF rfl)) fun a hF => ?_
    refine d1g (i := 11) rfl (by kernel_rfl) (by kernel_rfl) (St.ldsX hS (fun _ _ h => h) (fun _ h => (.tail _ (.tail _ h)))) hF rfl rfl rfl (fun _ _ _ h => h) (fun w hl => (e_move hF rfl)) fun a hF => ?_
    refine da1 (i := 12) (by kernel_rfl) ?_
    refine di (i := 12) rfl <| gy hF rfl rfl <| c1 hF rfl Tryd.call31 (trace_Same_c (hp_le _) hc26 (St.srH hS (hr25.mono hx28.sub)) (St.capO hS (.tail _ (.tail _ (.tail _ (.head _))))) (St.srO hS (.tail _ (.tail _ (.tail _ (.head _)))) (hv15.mono (fun b o h => hx28.sub b o (hx24.sub b o h)))) hc30 (St.srH hS hr29) h46) ⟨rfl, rfl, rfl, rfl, trivial⟩ (fun v w a hR hF => ?_)
    obtain ⟨rfl, hk⟩ := hR
    replace hS := hS.pass hk
    clear hk
    refine ⟨fun _ => (St.ldsX hS (fun _ _ h => h) (fun _ h => (.tail _ (.tail _ h)))), ?_⟩
    refine d1 (i := 13) rfl (by kernel_rfl) (by kernel_rfl) (St.ldsX hS (fun _ _ h => h) (fun _ h => (.tail _ (.tail _ h)))) hF rfl (fun _ _ _ h => h) (fun w hl => (e_pickT hF rfl rfl)) fun a hF => ?_
    refine d1 (i := 14) rfl (by kernel_rfl) (by kernel_rfl) (St.ldsX hS (fun _ _ h => h) (fun _ h => (.tail _ (.tail _ h)))) hF rfl (fun _ _ _ h => h) (fun w hl => (e_as (e_move hF rfl) (congrArg Value.bool hb47))) fun a hF => ?_
    refine d1g (i := 15) rfl (by kernel_rfl) (by kernel_rfl) (St.ldsX hS (fun _ _ h => h) (fun _ h => (.tail _ (.tail _ h)))) hF rfl rfl rfl (fun _ _ _ h => h) (fun w hl => (e_move hF rfl)) fun a hF => ?_
    refine d1g (i := 16) rfl (by kernel_rfl) (by kernel_rfl) (St.ldsX hS (fun _ _ h => h) (fun _ h => (.tail _ (.tail _ h)))) hF rfl rfl rfl (fun _ _ _ h => h) (fun w hl => (e_ldA hF Tryd.isAgg23 Tryd.sizeOf23 rfl rfl (hl.cellsB (.tail _ (.tail _ (.tail _ (.tail _ (.head _)))))))) fun a hF => ?_
    refine d1g (i := 17) rfl (by kernel_rfl) (by kernel_rfl) (St.ldsX hS (fun _ _ h => h) (fun _ h => (.tail _ (.tail _ h)))) hF rfl rfl rfl (fun _ _ _ h => h) (fun w hl => (e_ldA hF Tryd.isAgg23 Tryd.sizeOf23 rfl rfl (hl.cellsB (.tail _ (.tail _ (.head _)))))) fun a hF => ?_
    refine d1g (i := 18) rfl (by kernel_rfl) (by kernel_rfl) (St.ldsX hS (fun _ _ h => h) (fun _ h => (.tail _ (.tail _ h)))) hF rfl rfl rfl (fun _ _ _ h => h) (fun w hl => (e_ldA hF Tryd.isAgg23 Tryd.sizeOf23 rfl rfl (hl.cellsB (.tail _ (.tail _ (.tail _ (.head _))))))) fun a hF => ?_
    refine d1g (i := 20) rfl (by kernel_rfl) (by kernel_rfl) (St.ldsX hS (fun _ _ h => h) (fun _ h => (.tail _ (.tail _ h)))) hF rfl rfl rfl (fun _ _ _ h => h) (fun w hl => (e_move hF rfl)) fun a hF => ?_
    refine da1 (i := 19) (by kernel_rfl) ?_
    have hv48 : Rows (α := api_Event) H31 [.int .i64 12, .int .i64 1, .int .i64 0, .int .i64 1, .int .i64 0, .int .i64 1, .int .i64 0, .int .i64 0, .int .i64 1, .int .i64 0, .int .i64 12, .int .i64 0, .int .i64 2, .int .i64 1, .int .i64 0] ([(api_Event.mk 12 1 0 1 0), (api_Event.mk 1 0 0 1 0), (api_Event.mk 12 0 2 1 0)] : List api_Event) := (.cons (c := [.int .i64 12, .int .i64 1, .int .i64 0, .int .i64 1, .int .i64 0]) ⟨_, _, rfl, rfl, ⟨_, _, rfl, rfl, ⟨_, _, rfl, rfl, ⟨_, _, rfl, rfl, rfl⟩⟩⟩⟩ (.cons (c := [.int .i64 1, .int .i64 0, .int .i64 0, .int .i64 1, .int .i64 0]) ⟨_, _, rfl, rfl, ⟨_, _, rfl, rfl, ⟨_, _, rfl, rfl, ⟨_, _, rfl, rfl, rfl⟩⟩⟩⟩ (.cons (c := [.int .i64 12, .int .i64 0, .int .i64 2, .int .i64 1, .int .i64 0]) ⟨_, _, rfl, rfl, ⟨_, _, rfl, rfl, ⟨_, _, rfl, rfl, ⟨_, _, rfl, rfl, rfl⟩⟩⟩⟩ .nil)))
    refine di (i := 19) rfl <| gy hF rfl rfl <| a_bsl (e := 23) (sz := 5) [.int .i64 12, .int .i64 1, .int .i64 0, .int .i64 1, .int .i64 0, .int .i64 1, .int .i64 0, .int .i64 0, .int .i64 1, .int .i64 0, .int .i64 12, .int .i64 0, .int .i64 2, .int .i64 1, .int .i64 0] hF rfl hS rfl rfl rfl (fun w => by kernel_rfl) fun b49 w a hS hF => ?_
    refine ⟨fun _ => (St.ldsX hS (fun _ _ h => h) (fun _ h => (.tail _ (.tail _ (.tail _ h))))), ?_⟩
    refine da1 (i := 21) (by kernel_rfl) ?_
    refine di (i := 21) rfl <| gy hF rfl rfl <| c1 hF rfl Tryd.call31 (trace_Same_c (hp_le _) hc26 (St.srH hS (hr25.mono hx28.sub)) (St.capO hS (.head _)) (St.srO hS (.head _) hv48) hc30 (St.srH hS hr29) h52) ⟨rfl, rfl, rfl, rfl, trivial⟩ (fun v w a hR hF => ?_)
    obtain ⟨rfl, hk⟩ := hR
    replace hS := hS.pass hk
    clear hk
    refine ⟨fun _ => (St.ldsX hS (fun _ _ h => h) (fun _ h => (.tail _ (.tail _ (.tail _ h))))), ?_⟩
    refine d1g (i := 22) rfl (by kernel_rfl) (by kernel_rfl) (St.ldsX hS (fun _ _ h => h) (fun _ h => (.tail _ (.tail _ (.tail _ h))))) hF rfl rfl rfl (fun _ _ _ h => h) (fun w hl => (e_not hF rfl)) fun a hF => ?_
    refine d1 (i := 23) rfl (by kernel_rfl) (by kernel_rfl) (St.ldsX hS (fun _ _ h => h) (fun _ h => (.tail _ (.tail _ (.tail _ h))))) hF rfl (fun _ _ _ h => h) (fun w hl => (e_pickT hF rfl rfl)) fun a hF => ?_
    refine d1 (i := 24) rfl (by kernel_rfl) (by kernel_rfl) (St.ldsX hS (fun _ _ h => h) (fun _ h => (.tail _ (.tail _ (.tail _ h))))) hF rfl (fun _ _ _ h => h) (fun w hl => (e_as (e_move hF rfl) (congrArg Value.bool hb53))) fun a hF => ?_
    refine d1g (i := 25) rfl (by kernel_rfl) (by kernel_rfl) (St.ldsX hS (fun _ _ h => h) (fun _ h => (.tail _ (.tail _ (.tail _ h))))) hF rfl rfl rfl (fun _ _ _ h => h) (fun w hl => (e_move hF rfl)) fun a hF => ?_
    refine d1 (i := 26) rfl (by kernel_rfl) (by kernel_rfl) (St.ldsX hS (fun _ _ h => h) (fun _ h => (.tail _ (.tail _ (.tail _ h))))) hF rfl (fun _ _ _ h => h) (fun w hl => (e_pickT hF rfl rfl)) fun a hF => ?_
    refine d1 (i := 27) rfl (by kernel_rfl) (by kernel_rfl) (St.ldsX hS (fun _ _ h => h) (fun _ h => (.tail _ (.tail _ (.tail _ h))))) hF rfl (fun _ _ _ h => h) (fun w hl => (e_as (e_move hF rfl) (congrArg Value.bool hb54))) fun a hF => ?_
    refine d1g (i := 28) rfl (by kernel_rfl) (by kernel_rfl) (St.ldsX hS (fun _ _ h => h) (fun _ h => (.tail _ (.tail _ (.tail _ h))))) hF rfl rfl rfl (fun _ _ _ h => h) (fun w hl => (e_move hF rfl)) fun a hF => ?_
    refine d1g (i := 29) rfl (by kernel_rfl) (by kernel_rfl) (St.ldsX hS (fun _ _ h => h) (fun _ h => (.tail _ (.tail _ (.tail _ h))))) hF rfl rfl rfl (fun _ _ _ h => h) (fun w hl => (e_not hF rfl)) fun a hF => ?_
    refine d1 (i := 30) rfl (by kernel_rfl) (by kernel_rfl) (St.ldsX hS (fun _ _ h => h) (fun _ h => (.tail _ (.tail _ (.tail _ h))))) hF rfl (fun _ _ _ h => h) (fun w hl => (e_pickT hF rfl rfl)) fun a hF => ?_
    refine d1 (i := 31) rfl (by kernel_rfl) (by kernel_rfl) (St.ldsX hS (fun _ _ h => h) (fun _ h => (.tail _ (.tail _ (.tail _ h))))) hF rfl (fun _ _ _ h => h) (fun w hl => (e_as (e_move hF rfl) (congrArg Value.bool hb55))) fun a hF => ?_
    refine d1g (i := 32) rfl (by kernel_rfl) (by kernel_rfl) (St.ldsX hS (fun _ _ h => h) (fun _ h => (.tail _ (.tail _ (.tail _ h))))) hF rfl rfl rfl (fun _ _ _ h => h) (fun w hl => (e_move hF rfl)) fun a hF => ?_
    refine d1g (i := 33) rfl (by kernel_rfl) (by kernel_rfl) (St.ldsX hS (fun _ _ h => h) (fun _ h => (.tail _ (.tail _ (.tail _ h))))) hF rfl rfl rfl (fun _ _ _ h => h) (fun w hl => (e_ldA hF Tryd.isAgg23 Tryd.sizeOf23 rfl rfl (hl.cellsB (.tail _ (.tail _ (.tail _ (.head _))))))) fun a hF => ?_
    refine d1g (i := 34) rfl (by kernel_rfl) (by kernel_rfl) (St.ldsX hS (fun _ _ h => h) (fun _ h => (.tail _ (.tail _ (.tail _ h))))) hF rfl rfl rfl (fun _ _ _ h => h) (fun w hl => (e_ldA hF Tryd.isAgg23 Tryd.sizeOf23 rfl rfl (hl.cellsB (.tail _ (.tail _ (.tail _ (.tail _ (.head _)))))))) fun a hF => ?_
    refine d1g (i := 35) rfl (by kernel_rfl) (by kernel_rfl) (St.ldsX hS (fun _ _ h => h) (fun _ h => (.tail _ (.tail _ (.tail _ h))))) hF rfl rfl rfl (fun _ _ _ h => h) (fun w hl => (e_ldA hF Tryd.isAgg23 Tryd.sizeOf23 rfl rfl (hl.cellsB (.tail _ (.tail _ (.head _)))))) fun a hF => ?_
    refine da1 (i := 36) (by kernel_rfl) ?_
    have hv56 : Rows (α := api_Event) H31 [.int .i64 12, .int .i64 0, .int .i64 2, .int .i64 1, .int .i64 0, .int .i64 12, .int .i64 1, .int .i64 0, .int .i64 1, .int .i64 0, .int .i64 1, .int .i64 0, .int .i64 0, .int .i64 1, .int .i64 0] ([(api_Event.mk 12 0 2 1 0), (api_Event.mk 12 1 0 1 0), (api_Event.mk 1 0 0 1 0)] : List api_Event) := (.cons (c := [.int .i64 12, .int .i64 0, .int .i64 2, .int .i64 1, .int .i64 0]) ⟨_, _, rfl, rfl, ⟨_, _, rfl, rfl, ⟨_, _, rfl, rfl, ⟨_, _, rfl, rfl, rfl⟩⟩⟩⟩ (.cons (c := [.int .i64 12, .int .i64 1, .int .i64 0, .int .i64 1, .int .i64 0]) ⟨_, _, rfl, rfl, ⟨_, _, rfl, rfl, ⟨_, _, rfl, rfl, ⟨_, _, rfl, rfl, rfl⟩⟩⟩⟩ (.cons (c := [.int .i64 1, .int .i64 0, .int .i64 0, .int .i64 1, .int .i64 0]) ⟨_, _, rfl, rfl, ⟨_, _, rfl, rfl, ⟨_, _, rfl, rfl, ⟨_, _, rfl, rfl, rfl⟩⟩⟩⟩ .nil)))
    refine di (i := 36) rfl <| gy hF rfl rfl <| a_bsl (e := 23) (sz := 5) [.int .i64 12, .int .i64 0, .int .i64 2, .int .i64 1, .int .i64 0, .int .i64 12, .int .i64 1, .int .i64 0, .int .i64 1, .int .i64 0, .int .i64 1, .int .i64 0, .int .i64 0, .int .i64 1, .int .i64 0] hF rfl hS rfl rfl rfl (fun w => by kernel_rfl) fun b57 w a hS hF => ?_
    refine ⟨fun _ => (St.ldsX hS (fun _ _ h => h) (fun _ h => (.tail _ (.tail _ (.tail _ (.tail _ h)))))), ?_⟩
    refine da1 (i := 37) (by kernel_rfl) ?_
    refine di (i := 37) rfl <| gy hF rfl rfl <| c1 hF rfl Tryd.call28 (leadlineref17_Equal_c (hp_le _) (St.capO hS (.tail _ (.tail _ (.tail _ (.tail _ (.tail _ (.head _))))))) (St.srO hS (.tail _ (.tail _ (.tail _ (.tail _ (.tail _ (.head _)))))) (hv15.mono (fun b o h => hx28.sub b o (hx24.sub b o h)))) (St.capO hS (.head _)) (St.srO hS (.head _) hv56) h60) ⟨rfl, rfl, trivial⟩ (fun v w a hR hF => ?_)
    obtain ⟨rfl, hk⟩ := hR
    replace hS := hS.pass hk
    clear hk
    refine ⟨fun _ => (St.ldsX hS (fun _ _ h => h) (fun _ h => (.tail _ (.tail _ (.tail _ (.tail _ h)))))), ?_⟩
    refine d1 (i := 38) rfl (by kernel_rfl) (by kernel_rfl) (St.ldsX hS (fun _ _ h => h) (fun _ h => (.tail _ (.tail _ (.tail _ (.tail _ h)))))) hF rfl (fun _ _ _ h => h) (fun w hl => (e_pickT hF rfl rfl)) fun a hF => ?_
    refine d1 (i := 39) rfl (by kernel_rfl) (by kernel_rfl) (St.ldsX hS (fun _ _ h => h) (fun _ h => (.tail _ (.tail _ (.tail _ (.tail _ h)))))) hF rfl (fun _ _ _ h => h) (fun w hl => (e_as (e_move hF rfl) (congrArg Value.bool hb61))) fun a hF => ?_
    refine d1g (i := 40) rfl (by kernel_rfl) (by kernel_rfl) (St.ldsX hS (fun _ _ h => h) (fun _ h => (.tail _ (.tail _ (.tail _ (.tail _ h)))))) hF rfl rfl rfl (fun _ _ _ h => h) (fun w hl => (e_move hF rfl)) fun a hF => ?_
    refine d1g (i := 41) rfl (by kernel_rfl) (by kernel_rfl) (St.ldsX hS (fun _ _ h => h) (fun _ h => (.tail _ (.tail _ (.tail _ (.tail _ h)))))) hF rfl rfl rfl (fun _ _ _ h => h) (fun w hl => (e_move hF rfl)) fun a hF => ?_
    refine da1 (i := 42) (by kernel_rfl) ?_
    refine di (i := 42) rfl <| gy hF rfl rfl <| c1 hF rfl Tryd.call33 (trace_Key_c (hp_le _) (Tab.mono (Tab.mono hT (fun b o h => hx28.sub b o (hx24.sub b o h))) (St.up hS)) hc26 (St.srH hS (hr25.mono hx28.sub)) hc30 (St.srH hS hr29) h63) ⟨rfl, rfl, rfl, trivial⟩ (fun v w a hR hF => ?_)
    obtain ⟨rfl, hk⟩ := hR
    replace hS := hS.pass hk
    clear hk
    refine ⟨fun _ => (St.ldsX hS (fun _ _ h => h) (fun _ h => (.tail _ (.tail _ (.tail _ (.tail _ h)))))), ?_⟩
    refine d1g (i := 43) rfl (by kernel_rfl) (by kernel_rfl) (St.ldsX hS (fun _ _ h => h) (fun _ h => (.tail _ (.tail _ (.tail _ (.tail _ h)))))) hF rfl rfl rfl (fun _ _ _ h => h) (fun w hl => (e_eqlU (m := r62) (n := [48, 32, 99, 111, 109, 101, 32, 50, 32, 49, 10, 49, 32, 99, 111, 109, 101, 32, 48, 32, 49, 10, 48, 32, 108, 111, 97, 100, 32, 48, 32, 49, 10]) hF rfl rfl)) fun a hF => ?_
    refine d1 (i := 44) rfl (by kernel_rfl) (by kernel_rfl) (St.ldsX hS (fun _ _ h => h) (fun _ h => (.tail _ (.tail _ (.tail _ (.tail _ h)))))) hF rfl (fun _ _ _ h => h) (fun w hl => (e_pickT hF rfl rfl)) fun a hF => ?_
    refine d1 (i := 45) rfl (by kernel_rfl) (by kernel_rfl) (St.ldsX hS (fun _ _ h => h) (fun _ h => (.tail _ (.tail _ (.tail _ (.tail _ h)))))) hF rfl (fun _ _ _ h => h) (fun w hl => (e_as (e_move hF rfl) (congrArg Value.bool hb64))) fun a hF => ?_
    refine d1g (i := 46) rfl (by kernel_rfl) (by kernel_rfl) (St.ldsX hS (fun _ _ h => h) (fun _ h => (.tail _ (.tail _ (.tail _ (.tail _ h)))))) hF rfl rfl rfl (fun _ _ _ h => h) (fun w hl => (e_move hF rfl)) fun a hF => ?_
    refine d1g (i := 47) rfl (by kernel_rfl) (by kernel_rfl) (St.ldsX hS (fun _ _ h => h) (fun _ h => (.tail _ (.tail _ (.tail _ (.tail _ h)))))) hF rfl rfl rfl (fun _ _ _ h => h) (fun w hl => (e_move hF rfl)) fun a hF => ?_
    have hv74 : Rows (α := Int) H31 [.int .i64 0, .int .i64 1] ([0, 1] : List Int) := (.cons (c := [.int .i64 0]) rfl (.cons (c := [.int .i64 1]) rfl .nil))
    have hv77 : Rows (α := Int) H31 [.int .i64 2] ([2] : List Int) := (.cons (c := [.int .i64 2]) rfl .nil)
    refine cutD (k := 4) (L := #[true, true, true, true, true, true, true, true, true, true, true, true, true, true, true, true, true, true, true, true, true, true, true, true, true, true, true, true, true, true, true, true, true, true, true, true, true, true, true, true, true, true, true, true, true, true, true, true, true, true, true, true, false, false, false, false, false, false, false, false, false, false, false, false, false, false, false, false]) (fun a w => ∃ (H69 : PH) (oa70 : Option Addr) (cap71 : Nat) (b75 : Nat) (b78 : Nat) (b81 : Nat), Fr 97 [(1, .slice (some ⟨b2, 0, none⟩) ([0, 0, 1] : List Int).length 3), (30, .slice (some ⟨b8, 0, none⟩) ([(api_Event.mk 12 1 0 1 0), (api_Event.mk 12 0 2 1 0), (api_Event.mk 1 0 0 1 0)] : List api_Event).length 3), (31, .slice (some ⟨b2, 0, none⟩) ([0, 0, 1] : List Int).length 3), (32, .slice oa34 r32.length cap35), (33, .agg #[.int .i64 12, .int .i64 0, .int .i64 2, .int .i64 1, .int .i64 0]), (34, .agg #[.int .i64 12, .int .i64 1, .int .i64 0, .int .i64 1, .int .i64 0]), (35, .agg #[.int .i64 1, .int .i64 0, .int .i64 0, .int .i64 1, .int .i64 0]), (36, .slice (some ⟨b40, 0, none⟩) ([(api_Event.mk 12 0 2 1 0), (api_Event.mk 12 1 0 1 0), (api_Event.mk 1 0 0 1 0)] : List api_Event).length 3), (37, .bool r42), (38, .bool true), (39, .slice (some ⟨b8, 0, none⟩) ([(api_Event.mk 12 1 0 1 0), (api_Event.mk 12 0 2 1 0), (api_Event.mk 1 0 0 1 0)] : List api_Event).length 3), (40, .slice oa12 r10.1.length cap13), (41, .slice (some ⟨b2, 0, none⟩) ([0, 0, 1] : List Int).length 3), (42, .bool r45), (43, .bool r45), (44, .bool true), (45, .slice (some ⟨b8, 0, none⟩) ([(api_Event.mk 12 1 0 1 0), (api_Event.mk 12 0 2 1 0), (api_Event.mk 1 0 0 1 0)] : List api_Event).length 3), (46, .agg #[.int .i64 12, .int .i64 1, .int .i64 0, .int .i64 1, .int .i64 0]), (47, .agg #[.int .i64 1, .int .i64 0, .int .i64 0, .int .i64 1, .int .i64 0]), (48, .agg #[.int .i64 12, .int .i64 0, .int .i64 2, .int .i64 1, .int .i64 0]), (49, .slice (some ⟨b49, 0, none⟩) ([(api_Event.mk 12 1 0 1 0), (api_Event.mk 1 0 0 1 0), (api_Event.mk 12 0 2 1 0)] : List api_Event).length 3), (50, .slice (some ⟨b2, 0, none⟩) ([0, 0, 1] : List Int).length 3), (51, .bool r51), (52, .bool (!r51)), (53, .bool (!r51)), (54, .bool true), (55, .bool r10.2), (56, .bool r10.2), (57, .bool true), (58, .bool r17.2), (59, .bool (!r17.2)), (60, .bool (!r17.2)), (61, .bool true), (62, .slice oa12 r10.1.length cap13), (63, .agg #[.int .i64 12, .int .i64 0, .int .i64 2, .int .i64 1, .int .i64 0]), (64, .agg #[.int .i64 12, .int .i64 1, .int .i64 0, .int .i64 1, .int .i64 0]), (65, .agg #[.int .i64 1, .int .i64 0, .int .i64 0, .int .i64 1, .int .i64 0]), (66, .slice (some ⟨b57, 0, none⟩) ([(api_Event.mk 12 0 2 1 0), (api_Event.mk 12 1 0 1 0), (api_Event.mk 1 0 0 1 0)] : List api_Event).length 3), (67, .bool r59), (68, .bool r59), (69, .bool true), (70, .slice (some ⟨b8, 0, none⟩) ([(api_Event.mk 12 1 0 1 0), (api_Event.mk 12 0 2 1 0), (api_Event.mk 1 0 0 1 0)] : List api_Event).length 3), (71, .slice (some ⟨b2, 0, none⟩) ([0, 0, 1] : List Int).length 3), (72, strv r62), (73, .bool (decide (r62 = [48, 32, 99, 111, 109, 101, 32, 50, 32, 49, 10, 49, 32, 99, 111, 109, 101, 32, 48, 32, 49, 10, 48, 32, 108, 111, 97, 100, 32, 48, 32, 49, 10]))), (74, .bool (decide (r62 = [48, 32, 99, 111, 109, 101, 32, 50, 32, 49, 10, 49, 32, 99, 111, 109, 101, 32, 48, 32, 49, 10, 48, 32, 108, 111, 97, 100, 32, 48, 32, 49, 10]))), (75, .bool true), (76, .slice (some ⟨b8, 0, none⟩) ([(api_Event.mk 12 1 0 1 0), (api_Event.mk 12 0 2 1 0), (api_Event.mk 1 0 0 1 0)] : List api_Event).length 3), (77, .slice (some ⟨b2, 0, none⟩) ([0, 0, 1] : List Int).length 3), (78, .slice oa70 r65.length cap71), (79, .slice (some ⟨b75, 0, none⟩) ([0, 1] : List Int).length 2), (80, .slice (some ⟨b78, 0, none⟩) ([2] : List Int).length 1), (81, .slice (some ⟨b81, 0, none⟩) ([([0, 1] : List Int), ([2] : List Int)] : List (List Int)).length 2)] a ∧ St w0 Nil [H69] [bigA (rowA 3 1) ([⟨(some ⟨b75, 0, none⟩), ([0, 1] : List Int).length, 2, [.int .i64 0, .int .i64 1]⟩, ⟨(some ⟨b78, 0, none⟩), ([2] : List Int).length, 1, [.int .i64 2]⟩] : List RowQ), sla 25 1 (some ⟨b81, 0, none⟩) ([([0, 1] : List Int), ([2] : List Int)] : List (List Int)).length 2 (([⟨(some ⟨b75, 0, none⟩), ([0, 1] : List Int).length, 2, [.int .i64 0, .int .i64 1]⟩, ⟨(some ⟨b78, 0, none⟩), ([2] : List Int).length, 1, [.int .i64 2]⟩] : List RowQ).map rowV), sla 23 5 (some ⟨b57, 0, none⟩) ([(api_Event.mk 12 0 2 1 0), (api_Event.mk 12 1 0 1 0), (api_Event.mk 1 0 0 1 0)] : List api_Event).length 3 [.int .i64 12, .int .i64 0, .int .i64 2, .int .i64 1, .int .i64 0, .int .i64 12, .int .i64 1, .int .i64 0, .int .i64 1, .int .i64 0, .int .i64 1, .int .i64 0, .int .i64 0, .int .i64 1, .int .i64 0], sla 23 5 (some ⟨b49, 0, none⟩) ([(api_Event.mk 12 1 0 1 0), (api_Event.mk 1 0 0 1 0), (api_Event.mk 12 0 2 1 0)] : List api_Event).length 3 [.int .i64 12, .int .i64 1, .int .i64 0, .int .i64 1, .int .i64 0, .int .i64 1, .int .i64 0, .int .i64 0, .int .i64 1, .int .i64 0, .int .i64 12, .int .i64 0, .int .i64 2, .int .i64 1, .int .i64 0], sla 23 5 (some ⟨b40, 0, none⟩) ([(api_Event.mk 12 0 2 1 0), (api_Event.mk 12 1 0 1 0), (api_Event.mk 1 0 0 1 0)] : List api_Event).length 3 [.int .i64 12, .int .i64 0, .int .i64 2, .int .i64 1, .int .i64 0, .int .i64 12, .int .i64 1, .int .i64 0, .int .i64 1, .int .i64 0, .int .i64 1, .int .i64 0, .int .i64 0, .int .i64 1, .int .i64 0], sla 23 5 oa34 r32.length cap35 vs36, sla 23 5 oa19 r17.1.length cap20 vs21, sla 23 5 oa12 r10.1.length cap13 vs14, blk b6 (.cells [.int .i64 1, .int .i64 0, .int .i64 0, .int .i64 1, .int .i64 0].toArray 23 (0, 0)), blk b5 (.cells [.int .i64 12, .int .i64 0, .int .i64 2, .int .i64 1, .int .i64 0].toArray 23 (0, 0)), blk b4 (.cells [.int .i64 12, .int .i64 1, .int .i64 0, .int .i64 1, .int .i64 0].toArray 23 (0, 0))] w ∧ r65.length ≤ cap71 ∧ SR H69 oa70 r65 ∧ Ext w0 H31 H69 ∧ NR (α := Int) H31 ([⟨(some ⟨b75, 0, none⟩), ([0, 1] : List Int).length, 2, [.int .i64 0, .int .i64 1]⟩, ⟨(some ⟨b78, 0, none⟩), ([2] : List Int).length, 1, [.int .i64 2]⟩] : List RowQ) ([([0, 1] : List Int), ([2] : List Int)] : List (List Int))) ?_ ?_
    ·
      intro hJ98
      refine da3 (i := 48) (j := 49) (k := 50) (by kernel_rfl) ?_ ?_ ?_
      ·
        refine di (i := 48) rfl <| gy hF rfl rfl <| c1 hF rfl Tryd.call36 (trace_Steps_c (St.le hS) hc26 (hr25.mono hx28.sub) hc30 hr29 h66) ⟨rfl, rfl, rfl, trivial⟩ (fun v w a hR hF => ?_)
        obtain ⟨H69, oa70, cap71, rfl, hc72, hr73, hx67, hl68, hk⟩ := hR
        obtain ⟨hS, hx67⟩ := And.intro (St.passH hS hk hx67 hl68) (St.extc hS hx67)
        clear hk
        refine ⟨fun _ => (St.ldsX hS hx67.sub (fun _ h => (.tail _ (.tail _ (.tail _ (.tail _ h)))))), ?_⟩
        refine da2 (i := 49) (j := 50) (by kernel_rfl) ?_ ?_
        ·
          refine di (i := 49) rfl <| gy hF rfl rfl <| a_bsl (e := 3) (sz := 1) [.int .i64 0, .int .i64 1] hF rfl hS rfl rfl rfl (fun w => by kernel_rfl) fun b75 w a hS hF => ?_
          refine ⟨fun _ => (St.ldsX hS hx67.sub (fun _ h => (.tail _ (.tail _ (.tail _ (.tail _ (.tail _ h))))))), ?_⟩
          refine da1 (i := 50) (by kernel_rfl) ?_
          refine di (i := 50) rfl <| gy hF rfl rfl <| a_bsl (e := 3) (sz := 1) [.int .i64 2] hF rfl hS rfl rfl rfl (fun w => by kernel_rfl) fun b78 w a hS hF => ?_
          refine ⟨fun _ => (St.ldsX hS hx67.sub (fun _ h => (.tail _ (.tail _ (.tail _ (.tail _ (.tail _ (.tail _ h)))))))), ?_⟩
          refine da1 (i := 51) (by kernel_rfl) ?_
          refine di (i := 51) rfl <| gy hF rfl rfl <| a_bsl (e := 25) (sz := 1) [.slice (some ⟨b75, 0, none⟩) ([0, 1] : List Int).length 2, .slice (some ⟨b78, 0, none⟩) ([2] : List Int).length 1] hF rfl hS rfl rfl rfl (fun w => by kernel_rfl) fun b81 w a hS hF => ?_
          replace hS := hS.nilBig (rowA 3 1)
          replace hS := St.bigPush (f := rowA 3 1) (x := ⟨(some ⟨b75, 0, none⟩), ([0, 1] : List Int).length, 2, [.int .i64 0, .int .i64 1]⟩) hS (.tail (.tail (.tail .head))) .head
          replace hS := St.bigPush (f := rowA 3 1) (x := ⟨(some ⟨b78, 0, none⟩), ([2] : List Int).length, 1, [.int .i64 2]⟩) hS (.tail (.tail .head)) .head
          have hn80 : NR (α := Int) H31 ([⟨(some ⟨b75, 0, none⟩), ([0, 1] : List Int).length, 2, [.int .i64 0, .int .i64 1]⟩, ⟨(some ⟨b78, 0, none⟩), ([2] : List Int).length, 1, [.int .i64 2]⟩] : List RowQ) ([([0, 1] : List Int), ([2] : List Int)] : List (List Int)) := (.cons rfl hv74 (.cons rfl hv77 .nil))
          refine ⟨fun _ => (St.ldsX hS hx67.sub (fun _ h => (.tail _ (.tail _ (.tail _ (.tail _ (.tail _ (.tail _ h)))))))), ?_⟩
          exact wpD_list (by kernel_rfl) (hJ98 _ _ ⟨H69, oa70, cap71, b75, b78, b81, hF.has ⟨rfl, rfl, rfl, rfl, rfl, rfl, rfl, rfl, rfl, rfl, rfl, rfl, rfl, rfl, rfl, rfl, rfl, rfl, rfl, rfl, rfl, rfl, rfl, rfl, rfl, rfl, rfl, rfl, rfl, rfl, rfl, rfl, rfl, rfl, rfl, rfl, rfl, rfl, rfl, rfl, rfl, rfl, rfl, rfl, rfl, rfl, rfl, rfl, rfl, rfl, rfl, rfl, rfl, trivial⟩, hS, hc72, hr73, hx67, hn80⟩)
        ·
          refine di (i := 50) rfl <| gy hF rfl rfl <| a_bsl (e := 3) (sz := 1) [.int .i64 2] hF rfl hS rfl rfl rfl (fun w => by kernel_rfl) fun b78 w a hS hF => ?_
          refine ⟨fun _ => (St.ldsX hS hx67.sub (fun _ h => (.tail _ (.tail _ (.tail _ (.tail _ (.tail _ h))))))), ?_⟩
          refine da1 (i := 49) (by kernel_rfl) ?_
          refine di (i := 49) rfl <| gy hF rfl rfl <| a_bsl (e := 3) (sz := 1) [.int .i64 0, .int .i64 1] hF rfl hS rfl rfl rfl (fun w => by kernel_rfl) fun b75 w a hS hF => ?_
          refine ⟨fun _ => (St.ldsX hS hx67.sub (fun _ h => (.tail _ (.tail _ (.tail _ (.tail _ (.tail _ (.tail _ h)))))))), ?_⟩
          refine da1 (i := 51) (by kernel_rfl) ?_
          refine di (i := 51) rfl <| gy hF rfl rfl <| a_bsl (e := 25) (sz := 1) [.slice (some ⟨b75, 0, none⟩) ([0, 1] : List Int).length 2, .slice (some ⟨b78, 0, none⟩) ([2] : List Int).length 1] hF rfl hS rfl rfl rfl (fun w => by kernel_rfl) fun b81 w a hS hF => ?_
          replace hS := hS.nilBig (rowA 3 1)
          replace hS := St.bigPush (f := rowA 3 1) (x := ⟨(some ⟨b75, 0, none⟩), ([0, 1] : List Int).length, 2, [.int .i64 0, .int .i64 1]⟩) hS (.tail (.tail .head)) .head
          replace hS := St.bigPush (f := rowA 3 1) (x := ⟨(some ⟨b78, 0, none⟩), ([2] : List Int).length, 1, [.int .i64 2]⟩) hS (.tail (.tail .head)) .head
          have hn80 : NR (α := Int) H31 ([⟨(some ⟨b75, 0, none⟩), ([0, 1] : List Int).length, 2, [.int .i64 0, .int .i64 1]⟩, ⟨(some ⟨b78, 0, none⟩), ([2] : List Int).length, 1, [.int .i64 2]⟩] : List RowQ) ([([0, 1] : List Int), ([2] : List Int)] : List (List Int)) := (.cons rfl hv74 (.cons rfl hv77 .nil))
          refine ⟨fun _ => (St.ldsX hS hx67.sub (fun _ h => (.tail _ (.tail _ (.tail _ (.tail _ (.tail _ (.tail _ h)))))))), ?_⟩
          exact wpD_list (by kernel_rfl) (hJ98 _ _ ⟨H69, oa70, cap71, b75, b78, b81, hF.has ⟨rfl, rfl, rfl, rfl, rfl, rfl, rfl, rfl, rfl, rfl, rfl, rfl, rfl, rfl, rfl, rfl, rfl, rfl, rfl, rfl, rfl, rfl, rfl, rfl, rfl, rfl, rfl, rfl, rfl, rfl, rfl, rfl, rfl, rfl, rfl, rfl, rfl, rfl, rfl, rfl, rfl, rfl, rfl, rfl, rfl, rfl, rfl, rfl, rfl, rfl, rfl, rfl, rfl, trivial⟩, hS, hc72, hr73, hx67, hn80⟩)
      ·
        refine di (i := 49) rfl <| gy hF rfl rfl <| a_bsl (e := 3) (sz := 1) [.int .i64 0, .int .i64 1] hF rfl hS rfl rfl rfl (fun w => by kernel_rfl) fun b75 w a hS hF => ?_
        refine ⟨fun _ => (St.ldsX hS (fun _ _ h => h) (fun _ h => (.tail _ (.tail _ (.tail _ (.tail _ (.tail _ h))))))), ?_⟩
        refine da2 (i := 48) (j := 50) (by kernel_rfl) ?_ ?_
        ·
          refine di (i := 48) rfl <| gy hF rfl rfl <| c1 hF rfl Tryd.call36 (trace_Steps_c (St.le hS) hc26 (hr25.mono hx28.sub) hc30 hr29 h66) ⟨rfl, rfl, rfl, trivial⟩ (fun v w a hR hF => ?_)
          obtain ⟨H69, oa70, cap71, rfl, hc72, hr73, hx67, hl68, hk⟩ := hR
          obtain ⟨hS, hx67⟩ := And.intro (St.passH hS hk hx67 hl68) (St.extc hS hx67)
          clear hk
          refine ⟨fun _ => (St.ldsX hS hx67.sub (fun _ h => (.tail _ (.tail _ (.tail _ (.tail _ (.tail _ h))))))), ?_⟩
          refine da1 (i := 50) (by kernel_rfl) ?_
          refine di (i := 50) rfl <| gy hF rfl rfl <| a_bsl (e := 3) (sz := 1) [.int .i64 2] hF rfl hS rfl rfl rfl (fun w => by kernel_rfl) fun b78 w a hS hF => ?_
          refine ⟨fun _ => (St.ldsX hS hx67.sub (fun _ h => (.tail _ (.tail _ (.tail _ (.tail _ (.tail _ (.tail _ h)))))))), ?_⟩
          refine da1 (i := 51) (by kernel_rfl) ?_
          refine di (i := 51) rfl <| gy hF rfl rfl <| a_bsl (e := 25) (sz := 1) [.slice (some ⟨b75, 0, none⟩) ([0, 1] : List Int).length 2, .slice (some ⟨b78, 0, none⟩) ([2] : List Int).length 1] hF rfl hS rfl rfl rfl (fun w => by kernel_rfl) fun b81 w a hS hF => ?_
          replace hS := hS.nilBig (rowA 3 1)
          replace hS := St.bigPush (f := rowA 3 1) (x := ⟨(some ⟨b75, 0, none⟩), ([0, 1] : List Int).length, 2, [.int .i64 0, .int .i64 1]⟩) hS (.tail (.tail (.tail .head))) .head
          replace hS := St.bigPush (f := rowA 3 1) (x := ⟨(some ⟨b78, 0, none⟩), ([2] : List Int).length, 1, [.int .i64 2]⟩) hS (.tail (.tail .head)) .head
          have hn80 : NR (α := Int) H31 ([⟨(some ⟨b75, 0, none⟩), ([0, 1] : List Int).length, 2, [.int .i64 0, .int .i64 1]⟩, ⟨(some ⟨b78, 0, none⟩), ([2] : List Int).length, 1, [.int .i64 2]⟩] : List RowQ) ([([0, 1] : List Int), ([2] : List Int)] : List (List Int)) := (.cons rfl hv74 (.cons rfl hv77 .nil))
          refine ⟨fun _ => (St.ldsX hS hx67.sub (fun _ h => (.tail _ (.tail _ (.tail _ (.tail _ (.tail _ (.tail _ h)))))))), ?_⟩
          exact wpD_list (by kernel_rfl) (hJ98 _ _ ⟨H69, oa70, cap71, b75, b78, b81, hF.has ⟨rfl, rfl, rfl, rfl, rfl, rfl, rfl, rfl, rfl, rfl, rfl, rfl, rfl, rfl, rfl, rfl, rfl, rfl, rfl, rfl, rfl, rfl, rfl, rfl, rfl, rfl, rfl, rfl, rfl, rfl, rfl, rfl, rfl, rfl, rfl, rfl, rfl, rfl, rfl, rfl, rfl, rfl, rfl, rfl, rfl, rfl, rfl, rfl, rfl, rfl, rfl, rfl, rfl, trivial⟩, hS, hc72, hr73, hx67, hn80⟩)
        ·
          refine di (i := 50) rfl <| gy hF rfl rfl <| a_bsl (e := 3) (sz := 1) [.int .i64 2] hF rfl hS rfl rfl rfl (fun w => by kernel_rfl) fun b78 w a hS hF => ?_
          refine ⟨fun _ => (St.ldsX hS (fun _ _ h => h) (fun _ h => (.tail _ (.tail _ (.tail _ (.tail _ (.tail _ (.tail _ h)))))))), ?_⟩
          refine da2 (i := 48) (j := 51) (by kernel_rfl) ?_ ?_
          ·
            refine di (i := 48) rfl <| gy hF rfl rfl <| c1 hF rfl Tryd.call36 (trace_Steps_c (St.le hS) hc26 (hr25.mono hx28.sub) hc30 hr29 h66) ⟨rfl, rfl, rfl, trivial⟩ (fun v w a hR hF => ?_)
            obtain ⟨H69, oa70, cap71, rfl, hc72, hr73, hx67, hl68, hk⟩ := hR
            obtain ⟨hS, hx67⟩ := And.intro (St.passH hS hk hx67 hl68) (St.extc hS hx67)
            clear hk
            refine ⟨fun _ => (St.ldsX hS hx67.sub (fun _ h => (.tail _ (.tail _ (.tail _ (.tail _ (.tail _ (.tail _ h)))))))), ?_⟩
            refine da1 (i := 51) (by kernel_rfl) ?_
            refine di (i := 51) rfl <| gy hF rfl rfl <| a_bsl (e := 25) (sz := 1) [.slice (some ⟨b75, 0, none⟩) ([0, 1] : List Int).length 2, .slice (some ⟨b78, 0, none⟩) ([2] : List Int).length 1] hF rfl hS rfl rfl rfl (fun w => by kernel_rfl) fun b81 w a hS hF => ?_
            replace hS := hS.nilBig (rowA 3 1)
            replace hS := St.bigPush (f := rowA 3 1) (x := ⟨(some ⟨b75, 0, none⟩), ([0, 1] : List Int).length, 2, [.int .i64 0, .int .i64 1]⟩) hS (.tail (.tail (.tail .head))) .head
            replace hS := St.bigPush (f := rowA 3 1) (x := ⟨(some ⟨b78, 0, none⟩), ([2] : List Int).length, 1, [.int .i64 2]⟩) hS (.tail (.tail .head)) .head
            have hn80 : NR (α := Int) H31 ([⟨(some ⟨b75, 0, none⟩), ([0, 1] : List Int).length, 2, [.int .i64 0, .int .i64 1]⟩, ⟨(some ⟨b78, 0, none⟩), ([2] : List Int).length, 1, [.int .i64 2]⟩] : List RowQ) ([([0, 1] : List Int), ([2] : List Int)] : List (List Int)) := (.cons rfl hv74 (.cons rfl hv77 .nil))
            refine ⟨fun _ => (St.ldsX hS hx67.sub (fun _ h => (.tail _ (.tail _ (.tail _ (.tail _ (.tail _ (.tail _ h)))))))), ?_⟩
            exact wpD_list (by kernel_rfl) (hJ98 _ _ ⟨H69, oa70, cap71, b75, b78, b81, hF.has ⟨rfl, rfl, rfl, rfl, rfl, rfl, rfl, rfl, rfl, rfl, rfl, rfl, rfl, rfl, rfl, rfl, rfl, rfl, rfl, rfl, rfl, rfl, rfl, rfl, rfl, rfl, rfl, rfl, rfl, rfl, rfl, rfl, rfl, rfl, rfl, rfl, rfl, rfl, rfl, rfl, rfl, rfl, rfl, rfl, rfl, rfl, rfl, rfl, rfl, rfl, rfl, rfl, rfl, trivial⟩, hS, hc72, hr73, hx67, hn80⟩)
          ·
            refine di (i := 51) rfl <| gy hF rfl rfl <| a_bsl (e := 25) (sz := 1) [.slice (some ⟨b75, 0, none⟩) ([0, 1] : List Int).length 2, .slice (some ⟨b78, 0, none⟩) ([2] : List Int).length 1] hF rfl hS rfl rfl rfl (fun w => by kernel_rfl) fun b81 w a hS hF => ?_
            replace hS := hS.nilBig (rowA 3 1)
            replace hS := St.bigPush (f := rowA 3 1) (x := ⟨(some ⟨b75, 0, none⟩), ([0, 1] : List Int).length, 2, [.int .i64 0, .int .i64 1]⟩) hS (.tail (.tail (.tail .head))) .head
            replace hS := St.bigPush (f := rowA 3 1) (x := ⟨(some ⟨b78, 0, none⟩), ([2] : List Int).length, 1, [.int .i64 2]⟩) hS (.tail (.tail .head)) .head
            have hn80 : NR (α := Int) H31 ([⟨(some ⟨b75, 0, none⟩), ([0, 1] : List Int).length, 2, [.int .i64 0, .int .i64 1]⟩, ⟨(some ⟨b78, 0, none⟩), ([2] : List Int).length, 1, [.int .i64 2]⟩] : List RowQ) ([([0, 1] : List Int), ([2] : List Int)] : List (List Int)) := (.cons rfl hv74 (.cons rfl hv77 .nil))
            refine ⟨fun _ => (St.ldsX hS (fun _ _ h => h) (fun _ h => (.tail _ (.tail _ (.tail _ (.tail _ (.tail _ (.tail _ h)))))))), ?_⟩
            refine da1 (i := 48) (by kernel_rfl) ?_
            refine di (i := 48) rfl <| gy hF rfl rfl <| c1 hF rfl Tryd.call36 (trace_Steps_c (St.le hS) hc26 (hr25.mono hx28.sub) hc30 hr29 h66) ⟨rfl, rfl, rfl, trivial⟩ (fun v w a hR hF => ?_)
            obtain ⟨H69, oa70, cap71, rfl, hc72, hr73, hx67, hl68, hk⟩ := hR
            obtain ⟨hS, hx67⟩ := And.intro (St.passH hS hk hx67 hl68) (St.extc hS hx67)
            clear hk
            refine ⟨fun _ => (St.ldsX hS hx67.sub (fun _ h => (.tail _ (.tail _ (.tail _ (.tail _ (.tail _ (.tail _ h)))))))), ?_⟩
            exact wpD_list (by kernel_rfl) (hJ98 _ _ ⟨H69, oa70, cap71, b75, b78, b81, hF.has ⟨rfl, rfl, rfl, rfl, rfl, rfl, rfl, rfl, rfl, rfl, rfl, rfl, rfl, rfl, rfl, rfl, rfl, rfl, rfl, rfl, rfl, rfl, rfl, rfl, rfl, rfl, rfl, rfl, rfl, rfl, rfl, rfl, rfl, rfl, rfl, rfl, rfl, rfl, rfl, rfl, rfl, rfl, rfl, rfl, rfl, rfl, rfl, rfl, rfl, rfl, rfl, rfl, rfl, trivial⟩, hS, hc72, hr73, hx67, hn80⟩)
      ·
        refine di (i := 50) rfl <| gy hF rfl rfl <| a_bsl (e := 3) (sz := 1) [.int .i64 2] hF rfl hS rfl rfl rfl (fun w => by kernel_rfl) fun b78 w a hS hF => ?_
        refine ⟨fun _ => (St.ldsX hS (fun _ _ h => h) (fun _ h => (.tail _ (.tail _ (.tail _ (.tail _ (.tail _ h))))))), ?_⟩
        refine da2 (i := 48) (j := 49) (by kernel_rfl) ?_ ?_
        ·
          refine di (i := 48) rfl <| gy hF rfl rfl <| c1 hF rfl Tryd.call36 (trace_Steps_c (St.le hS) hc26 (hr25.mono hx28.sub) hc30 hr29 h66) ⟨rfl, rfl, rfl, trivial⟩ (fun v w a hR hF => ?_)
          obtain ⟨H69, oa70, cap71, rfl, hc72, hr73, hx67, hl68, hk⟩ := hR
          obtain ⟨hS, hx67⟩ := And.intro (St.passH hS hk hx67 hl68) (St.extc hS hx67)
          clear hk
          refine ⟨fun _ => (St.ldsX hS hx67.sub (fun _ h => (.tail _ (.tail _ (.tail _ (.tail _ (.tail _ h))))))), ?_⟩
          refine da1 (i := 49) (by kernel_rfl) ?_
          refine di (i := 49) rfl <| gy hF rfl rfl <| a_bsl (e := 3) (sz := 1) [.int .i64 0, .int .i64 1] hF rfl hS rfl rfl rfl (fun w => by kernel_rfl) fun b75 w a hS hF => ?_
          refine ⟨fun _ => (St.ldsX hS hx67.sub (fun _ h => (.tail _ (.tail _ (.tail _ (.tail _ (.tail _ (.tail _ h)))))))), ?_⟩
          refine da1 (i := 51) (by kernel_rfl) ?_
          refine di (i := 51) rfl <| gy hF rfl rfl <| a_bsl (e := 25) (sz := 1) [.slice (some ⟨b75, 0, none⟩) ([0, 1] : List Int).length 2, .slice (some ⟨b78, 0, none⟩) ([2] : List Int).length 1] hF rfl hS rfl rfl rfl (fun w => by kernel_rfl) fun b81 w a hS hF => ?_
          replace hS := hS.nilBig (rowA 3 1)
          replace hS := St.bigPush (f := rowA 3 1) (x := ⟨(some ⟨b75, 0, none⟩), ([0, 1] : List Int).length, 2, [.int .i64 0, .int .i64 1]⟩) hS (.tail (.tail .head)) .head
          replace hS := St.bigPush (f := rowA 3 1) (x := ⟨(some ⟨b78, 0, none⟩), ([2] : List Int).length, 1, [.int .i64 2]⟩) hS (.tail (.tail .head)) .head
          have hn80 : NR (α := Int) H31 ([⟨(some ⟨b75, 0, none⟩), ([0, 1] : List Int).length, 2, [.int .i64 0, .int .i64 1]⟩, ⟨(some ⟨b78, 0, none⟩), ([2] : List Int).length, 1, [.int .i64 2]⟩] : List RowQ) ([([0, 1] : List Int), ([2] : List Int)] : List (List Int)) := (.cons rfl hv74 (.cons rfl hv77 .nil))
          refine ⟨fun _ => (St.ldsX hS hx67.sub (fun _ h => (.tail _ (.tail _ (.tail _ (.tail _ (.tail _ (.tail _ h)))))))), ?_⟩
          exact wpD_list (by kernel_rfl) (hJ98 _ _ ⟨H69, oa70, cap71, b75, b78, b81, hF.has ⟨rfl, rfl, rfl, rfl, rfl, rfl, rfl, rfl, rfl, rfl, rfl, rfl, rfl, rfl, rfl, rfl, rfl, rfl, rfl, rfl, rfl, rfl, rfl, rfl, rfl, rfl, rfl, rfl, rfl, rfl, rfl, rfl, rfl, rfl, rfl, rfl, rfl, rfl, rfl, rfl, rfl, rfl, rfl, rfl, rfl, rfl, rfl, rfl, rfl, rfl, rfl, rfl, rfl, trivial⟩, hS, hc72, hr73, hx67, hn80⟩)
        ·
          refine di (i := 49) rfl <| gy hF rfl rfl <| a_bsl (e := 3) (sz := 1) [.int .i64 0, .int .i64 1] hF rfl hS rfl rfl rfl (fun w => by kernel_rfl) fun b75 w a hS hF => ?_
          refine ⟨fun _ => (St.ldsX hS (fun _ _ h => h) (fun _ h => (.tail _ (.tail _ (.tail _ (.tail _ (.tail _ (.tail _ h)))))))), ?_⟩
          refine da2 (i := 48) (j := 51) (by kernel_rfl) ?_ ?_
          ·
            refine di (i := 48) rfl <| gy hF rfl rfl <| c1 hF rfl Tryd.call36 (trace_Steps_c (St.le hS) hc26 (hr25.mono hx28.sub) hc30 hr29 h66) ⟨rfl, rfl, rfl, trivial⟩ (fun v w a hR hF => ?_)
            obtain ⟨H69, oa70, cap71, rfl, hc72, hr73, hx67, hl68, hk⟩ := hR
            obtain ⟨hS, hx67⟩ := And.intro (St.passH hS hk hx67 hl68) (St.extc hS hx67)
            clear hk
            refine ⟨fun _ => (St.ldsX hS hx67.sub (fun _ h => (.tail _ (.tail _ (.tail _ (.tail _ (.tail _ (.tail _ h)))))))), ?_⟩
            refine da1 (i := 51) (by kernel_rfl) ?_
            refine di (i := 51) rfl <| gy hF rfl rfl <| a_bsl (e := 25) (sz := 1) [.slice (some ⟨b75, 0, none⟩) ([0, 1] : List Int).length 2, .slice (some ⟨b78, 0, none⟩) ([2] : List Int).length 1] hF rfl hS rfl rfl rfl (fun w => by kernel_rfl) fun b81 w a hS hF => ?_
            replace hS := hS.nilBig (rowA 3 1)
            replace hS := St.bigPush (f := rowA 3 1) (x := ⟨(some ⟨b75, 0, none⟩), ([0, 1] : List Int).length, 2, [.int .i64 0, .int .i64 1]⟩) hS (.tail (.tail .head)) .head
            replace hS := St.bigPush (f := rowA 3 1) (x := ⟨(some ⟨b78, 0, none⟩), ([2] : List Int).length, 1, [.int .i64 2]⟩) hS (.tail (.tail .head)) .head
            have hn80 : NR (α := Int) H31 ([⟨(some ⟨b75, 0, none⟩), ([0, 1] : List Int).length, 2, [.int .i64 0, .int .i64 1]⟩, ⟨(some ⟨b78, 0, none⟩), ([2] : List Int).length, 1, [.int .i64 2]⟩] : List RowQ) ([([0, 1] : List Int), ([2] : List Int)] : List (List Int)) := (.cons rfl hv74 (.cons rfl hv77 .nil))
            refine ⟨fun _ => (St.ldsX hS hx67.sub (fun _ h => (.tail _ (.tail _ (.tail _ (.tail _ (.tail _ (.tail _ h)))))))), ?_⟩
            exact wpD_list (by kernel_rfl) (hJ98 _ _ ⟨H69, oa70, cap71, b75, b78, b81, hF.has ⟨rfl, rfl, rfl, rfl, rfl, rfl, rfl, rfl, rfl, rfl, rfl, rfl, rfl, rfl, rfl, rfl, rfl, rfl, rfl, rfl, rfl, rfl, rfl, rfl, rfl, rfl, rfl, rfl, rfl, rfl, rfl, rfl, rfl, rfl, rfl, rfl, rfl, rfl, rfl, rfl, rfl, rfl, rfl, rfl, rfl, rfl, rfl, rfl, rfl, rfl, rfl, rfl, rfl, trivial⟩, hS, hc72, hr73, hx67, hn80⟩)
          ·
            refine di (i := 51) rfl <| gy hF rfl rfl <| a_bsl (e := 25) (sz := 1) [.slice (some ⟨b75, 0, none⟩) ([0, 1] : List Int).length 2, .slice (some ⟨b78, 0, none⟩) ([2] : List Int).length 1] hF rfl hS rfl rfl rfl (fun w => by kernel_rfl) fun b81 w a hS hF => ?_
            replace hS := hS.nilBig (rowA 3 1)
            replace hS := St.bigPush (f := rowA 3 1) (x := ⟨(some ⟨b75, 0, none⟩), ([0, 1] : List Int).length, 2, [.int .i64 0, .int .i64 1]⟩) hS (.tail (.tail .head)) .head
            replace hS := St.bigPush (f := rowA 3 1) (x := ⟨(some ⟨b78, 0, none⟩), ([2] : List Int).length, 1, [.int .i64 2]⟩) hS (.tail (.tail .head)) .head
            have hn80 : NR (α := Int) H31 ([⟨(some ⟨b75, 0, none⟩), ([0, 1] : List Int).length, 2, [.int .i64 0, .int .i64 1]⟩, ⟨(some ⟨b78, 0, none⟩), ([2] : List Int).length, 1, [.int .i64 2]⟩] : List RowQ) ([([0, 1] : List Int), ([2] : List Int)] : List (List Int)) := (.cons rfl hv74 (.cons rfl hv77 .nil))
            refine ⟨fun _ => (St.ldsX hS (fun _ _ h => h) (fun _ h => (.tail _ (.tail _ (.tail _ (.tail _ (.tail _ (.tail _ h)))))))), ?_⟩
            refine da1 (i := 48) (by kernel_rfl) ?_
            refine di (i := 48) rfl <| gy hF rfl rfl <| c1 hF rfl Tryd.call36 (trace_Steps_c (St.le hS) hc26 (hr25.mono hx28.sub) hc30 hr29 h66) ⟨rfl, rfl, rfl, trivial⟩ (fun v w a hR hF => ?_)
            obtain ⟨H69, oa70, cap71, rfl, hc72, hr73, hx67, hl68, hk⟩ := hR
            obtain ⟨hS, hx67⟩ := And.intro (St.passH hS hk hx67 hl68) (St.extc hS hx67)
            clear hk
            refine ⟨fun _ => (St.ldsX hS hx67.sub (fun _ h => (.tail _ (.tail _ (.tail _ (.tail _ (.tail _ (.tail _ h)))))))), ?_⟩
            exact wpD_list (by kernel_rfl) (hJ98 _ _ ⟨H69, oa70, cap71, b75, b78, b81, hF.has ⟨rfl, rfl, rfl, rfl, rfl, rfl, rfl, rfl, rfl, rfl, rfl, rfl, rfl, rfl, rfl, rfl, rfl, rfl, rfl, rfl, rfl, rfl, rfl, rfl, rfl, rfl, rfl, rfl, rfl, rfl, rfl, rfl, rfl, rfl, rfl, rfl, rfl, rfl, rfl, rfl, rfl, rfl, rfl, rfl, rfl, rfl, rfl, rfl, rfl, rfl, rfl, rfl, rfl, trivial⟩, hS, hc72, hr73, hx67, hn80⟩)
    ·
      rintro a w ⟨H69, oa70, cap71, b75, b78, b81, hF, hS, hc72, hr73, hx67, hn80⟩
      refine da1 (i := 52) (by kernel_rfl) ?_
      refine di (i := 52) rfl <| gy hF rfl rfl <| c1 hF rfl Tryd.call35 (leadlineref11_Rows_c (hp_le _) hc72 (St.srH hS hr73) (St.capO hS (.tail _ (.head _))) (St.srN (iet := 3) (isz := 1) (qs := ([⟨(some ⟨b75, 0, none⟩), ([0, 1] : List Int).length, 2, [.int .i64 0, .int .i64 1]⟩, ⟨(some ⟨b78, 0, none⟩), ([2] : List Int).length, 1, [.int .i64 2]⟩] : List RowQ)) hS (.tail _ (.head _)) (.head _) (hn80.mono hx67.sub)) h84) ⟨rfl, rfl, trivial⟩ (fun v w a hR hF => ?_)
      obtain ⟨rfl, hk⟩ := hR
      replace hS := hS.pass hk
      clear hk
      refine ⟨fun _ => (St.ldsX hS hx67.sub (fun _ h => (.tail _ (.tail _ (.tail _ (.tail _ (.tail _ (.tail _ h)))))))), ?_⟩
      refine d1 (i := 53) rfl (by kernel_rfl) (by kernel_rfl) (St.ldsX hS hx67.sub (fun _ h => (.tail _ (.tail _ (.tail _ (.tail _ (.tail _ (.tail _ h)))))))) hF rfl (fun _ _ _ h => h) (fun w hl => (e_pickT hF rfl rfl)) fun a hF => ?_
      refine d1 (i := 54) rfl (by kernel_rfl) (by kernel_rfl) (St.ldsX hS hx67.sub (fun _ h => (.tail _ (.tail _ (.tail _ (.tail _ (.tail _ (.tail _ h)))))))) hF rfl (fun _ _ _ h => h) (fun w hl => (e_as (e_move hF rfl) (congrArg Value.bool hb85))) fun a hF => ?_
      refine d1g (i := 55) rfl (by kernel_rfl) (by kernel_rfl) (St.ldsX hS hx67.sub (fun _ h => (.tail _ (.tail _ (.tail _ (.tail _ (.tail _ (.tail _ h)))))))) hF rfl rfl rfl (fun _ _ _ h => h) (fun w hl => (e_move hF rfl)) fun a hF => ?_
      refine da1 (i := 56) (by kernel_rfl) ?_
      refine di (i := 56) rfl <| gy hF rfl rfl <| c1 hF rfl Tryd.call31 (trace_Same_c (hp_le _) (Nat.le_refl _) (SR.nil _ none) (Nat.le_refl _) (SR.nil _ none) hc30 (St.srH hS (hr29.mono hx67.sub)) h87) ⟨rfl, rfl, rfl, rfl, trivial⟩ (fun v w a hR hF => ?_)
      obtain ⟨rfl, hk⟩ := hR
      replace hS := hS.pass hk
      clear hk
      refine ⟨fun _ => (St.ldsX hS hx67.sub (fun _ h => (.tail _ (.tail _ (.tail _ (.tail _ (.tail _ (.tail _ h)))))))), ?_⟩
      refine d1 (i := 57) rfl (by kernel_rfl) (by kernel_rfl) (St.ldsX hS hx67.sub (fun _ h => (.tail _ (.tail _ (.tail _ (.tail _ (.tail _ (.tail _ h)))))))) hF rfl (fun _ _ _ h => h) (fun w hl => (e_pickT hF rfl rfl)) fun a hF => ?_
      refine d1 (i := 58) rfl (by kernel_rfl) (by kernel_rfl) (St.ldsX hS hx67.sub (fun _ h => (.tail _ (.tail _ (.tail _ (.tail _ (.tail _ (.tail _ h)))))))) hF rfl (fun _ _ _ h => h) (fun w hl => (e_as (e_move hF rfl) (congrArg Value.bool hb88))) fun a hF => ?_
      refine d1g (i := 59) rfl (by kernel_rfl) (by kernel_rfl) (St.ldsX hS hx67.sub (fun _ h => (.tail _ (.tail _ (.tail _ (.tail _ (.tail _ (.tail _ h)))))))) hF rfl rfl rfl (fun _ _ _ h => h) (fun w hl => (e_bldK [.int .i64 9] [.int .i64 0, .int .i64 9, .int .i64 0, .int .i64 0, .int .i64 0] hF ⟨rfl, trivial⟩ (fun w => by kernel_rfl))) fun a hF => ?_
      refine d1g (i := 61) rfl (by kernel_rfl) (by kernel_rfl) (St.ldsX hS hx67.sub (fun _ h => (.tail _ (.tail _ (.tail _ (.tail _ (.tail _ (.tail _ h)))))))) hF rfl rfl rfl (fun _ _ _ h => h) (fun w hl => (e_bldK [.int .i64 9] [.int .i64 0, .int .i64 9, .int .i64 0, .int .i64 0, .int .i64 0] hF ⟨rfl, trivial⟩ (fun w => by kernel_rfl))) fun a hF => ?_
      refine d1g (i := 63) rfl (by kernel_rfl) (by kernel_rfl) (St.ldsX hS hx67.sub (fun _ h => (.tail _ (.tail _ (.tail _ (.tail _ (.tail _ (.tail _ h)))))))) hF rfl rfl rfl (fun _ _ _ h => h) (fun w hl => (e_move hF rfl)) fun a hF => ?_
      have hv89 : Rows (α := api_Event) H31 [.int .i64 0, .int .i64 9, .int .i64 0, .int .i64 0, .int .i64 0] ([(api_Event.mk 0 9 0 0 0)] : List api_Event) := (.cons (c := [.int .i64 0, .int .i64 9, .int .i64 0, .int .i64 0, .int .i64 0]) ⟨_, _, rfl, rfl, ⟨_, _, rfl, rfl, ⟨_, _, rfl, rfl, ⟨_, _, rfl, rfl, rfl⟩⟩⟩⟩ .nil)
      have hv92 : Rows (α := api_Event) H31 [.int .i64 0, .int .i64 9, .int .i64 0, .int .i64 0, .int .i64 0] ([(api_Event.mk 0 9 0 0 0)] : List api_Event) := (.cons (c := [.int .i64 0, .int .i64 9, .int .i64 0, .int .i64 0, .int .i64 0]) ⟨_, _, rfl, rfl, ⟨_, _, rfl, rfl, ⟨_, _, rfl, rfl, ⟨_, _, rfl, rfl, rfl⟩⟩⟩⟩ .nil)
      refine cutD (k := 2) (L := #[true, true, true, true, true, true, true, true, true, true, true, true, true, true, true, true, true, true, true, true, true, true, true, true, true, true, true, true, true, true, true, true, true, true, true, true, true, true, true, true, true, true, true, true, true, true, true, true, true, true, true, true, true, true, true, true, true, true, true, true, true, true, true, true, false, false, false, false]) (fun a w => ∃ (b90 : Nat) (b93 : Nat), Fr 97 [(30, .slice (some ⟨b8, 0, none⟩) ([(api_Event.mk 12 1 0 1 0), (api_Event.mk 12 0 2 1 0), (api_Event.mk 1 0 0 1 0)] : List api_Event).length 3), (31, .slice (some ⟨b2, 0, none⟩) ([0, 0, 1] : List Int).length 3), (32, .slice oa34 r32.length cap35), (33, .agg #[.int .i64 12, .int .i64 0, .int .i64 2, .int .i64 1, .int .i64 0]), (34, .agg #[.int .i64 12, .int .i64 1, .int .i64 0, .int .i64 1, .int .i64 0]), (35, .agg #[.int .i64 1, .int .i64 0, .int .i64 0, .int .i64 1, .int .i64 0]), (36, .slice (some ⟨b40, 0, none⟩) ([(api_Event.mk 12 0 2 1 0), (api_Event.mk 12 1 0 1 0), (api_Event.mk 1 0 0 1 0)] : List api_Event).length 3), (37, .bool r42), (38, .bool true), (39, .slice (some ⟨b8, 0, none⟩) ([(api_Event.mk 12 1 0 1 0), (api_Event.mk 12 0 2 1 0), (api_Event.mk 1 0 0 1 0)] : List api_Event).length 3), (40, .slice oa12 r10.1.length cap13), (41, .slice (some ⟨b2, 0, none⟩) ([0, 0, 1] : List Int).length 3), (42, .bool r45), (43, .bool r45), (44, .bool true), (45, .slice (some ⟨b8, 0, none⟩) ([(api_Event.mk 12 1 0 1 0), (api_Event.mk 12 0 2 1 0), (api_Event.mk 1 0 0 1 0)] : List api_Event).length 3), (46, .agg #[.int .i64 12, .int .i64 1, .int .i64 0, .int .i64 1, .int .i64 0]), (47, .agg #[.int .i64 1, .int .i64 0, .int .i64 0, .int .i64 1, .int .i64 0]), (48, .agg #[.int .i64 12, .int .i64 0, .int .i64 2, .int .i64 1, .int .i64 0]), (49, .slice (some ⟨b49, 0, none⟩) ([(api_Event.mk 12 1 0 1 0), (api_Event.mk 1 0 0 1 0), (api_Event.mk 12 0 2 1 0)] : List api_Event).length 3), (50, .slice (some ⟨b2, 0, none⟩) ([0, 0, 1] : List Int).length 3), (51, .bool r51), (52, .bool (!r51)), (53, .bool (!r51)), (54, .bool true), (55, .bool r10.2), (56, .bool r10.2), (57, .bool true), (58, .bool r17.2), (59, .bool (!r17.2)), (60, .bool (!r17.2)), (61, .bool true), (62, .slice oa12 r10.1.length cap13), (63, .agg #[.int .i64 12, .int .i64 0, .int .i64 2, .int .i64 1, .int .i64 0]), (64, .agg #[.int .i64 12, .int .i64 1, .int .i64 0, .int .i64 1, .int .i64 0]), (65, .agg #[.int .i64 1, .int .i64 0, .int .i64 0, .int .i64 1, .int .i64 0]), (66, .slice (some ⟨b57, 0, none⟩) ([(api_Event.mk 12 0 2 1 0), (api_Event.mk 12 1 0 1 0), (api_Event.mk 1 0 0 1 0)] : List api_Event).length 3), (67, .bool r59), (68, .bool r59), (69, .bool true), (70, .slice (some ⟨b8, 0, none⟩) ([(api_Event.mk 12 1 0 1 0), (api_Event.mk 12 0 2 1 0), (api_Event.mk 1 0 0 1 0)] : List api_Event).length 3), (71, .slice (some ⟨b2, 0, none⟩) ([0, 0, 1] : List Int).length 3), (72, strv r62), (73, .bool (decide (r62 = [48, 32, 99, 111, 109, 101, 32, 50, 32, 49, 10, 49, 32, 99, 111, 109, 101, 32, 48, 32, 49, 10, 48, 32, 108, 111, 97, 100, 32, 48, 32, 49, 10]))), (74, .bool (decide (r62 = [48, 32, 99, 111, 109, 101, 32, 50, 32, 49, 10, 49, 32, 99, 111, 109, 101, 32, 48, 32, 49, 10, 48, 32, 108, 111, 97, 100, 32, 48, 32, 49, 10]))), (75, .bool true), (76, .slice (some ⟨b8, 0, none⟩) ([(api_Event.mk 12 1 0 1 0), (api_Event.mk 12 0 2 1 0), (api_Event.mk 1 0 0 1 0)] : List api_Event).length 3), (77, .slice (some ⟨b2, 0, none⟩) ([0, 0, 1] : List Int).length 3), (78, .slice oa70 r65.length cap71), (79, .slice (some ⟨b75, 0, none⟩) ([0, 1] : List Int).length 2), (80, .slice (some ⟨b78, 0, none⟩) ([2] : List Int).length 1), (81, .slice (some ⟨b81, 0, none⟩) ([([0, 1] : List Int), ([2] : List Int)] : List (List Int)).length 2), (82, .bool r83), (83, .bool r83), (84, .bool true), (85, .slice (some ⟨b2, 0, none⟩) ([0, 0, 1] : List Int).length 3), (86, .bool r86), (87, .bool r86), (88, .bool true), (89, .agg #[.int .i64 0, .int .i64 9, .int .i64 0, .int .i64 0, .int .i64 0]), (90, .slice (some ⟨b90, 0, none⟩) ([(api_Event.mk 0 9 0 0 0)] : List api_Event).length 1), (91, .agg #[.int .i64 0, .int .i64 9, .int .i64 0, .int .i64 0, .int .i64 0]), (92, .slice (some ⟨b93, 0, none⟩) ([(api_Event.mk 0 9 0 0 0)] : List api_Event).length 1), (93, .slice (some ⟨b2, 0, none⟩) ([0, 0, 1] : List Int).length 3)] a ∧ St w0 Nil [H69] [sla 23 5 (some ⟨b93, 0, none⟩) ([(api_Event.mk 0 9 0 0 0)] : List api_Event).length 1 [.int .i64 0, .int .i64 9, .int .i64 0, .int .i64 0, .int .i64 0], sla 23 5 (some ⟨b90, 0, none⟩) ([(api_Event.mk 0 9 0 0 0)] : List api_Event).length 1 [.int .i64 0, .int .i64 9, .int .i64 0, .int .i64 0, .int .i64 0], bigA (rowA 3 1) ([⟨(some ⟨b75, 0, none⟩), ([0, 1] : List Int).length, 2, [.int .i64 0, .int .i64 1]⟩, ⟨(some ⟨b78, 0, none⟩), ([2] : List Int).length, 1, [.int .i64 2]⟩] : List RowQ), sla 25 1 (some ⟨b81, 0, none⟩) ([([0, 1] : List Int), ([2] : List Int)] : List (List Int)).length 2 (([⟨(some ⟨b75, 0, none⟩), ([0, 1] : List Int).length, 2, [.int .i64 0, .int .i64 1]⟩, ⟨(some ⟨b78, 0, none⟩), ([2] : List Int).length, 1, [.int .i64 2]⟩] : List RowQ).map rowV), sla 23 5 (some ⟨b57, 0, none⟩) ([(api_Event.mk 12 0 2 1 0), (api_Event.mk 12 1 0 1 0), (api_Event.mk 1 0 0 1 0)] : List api_Event).length 3 [.int .i64 12, .int .i64 0, .int .i64 2, .int .i64 1, .int .i64 0, .int .i64 12, .int .i64 1, .int .i64 0, .int .i64 1, .int .i64 0, .int .i64 1, .int .i64 0, .int .i64 0, .int .i64 1, .int .i64 0], sla 23 5 (some ⟨b49, 0, none⟩) ([(api_Event.mk 12 1 0 1 0), (api_Event.mk 1 0 0 1 0), (api_Event.mk 12 0 2 1 0)] : List api_Event).length 3 [.int .i64 12, .int .i64 1, .int .i64 0, .int .i64 1, .int .i64 0, .int .i64 1, .int .i64 0, .int .i64 0, .int .i64 1, .int .i64 0, .int .i64 12, .int .i64 0, .int .i64 2, .int .i64 1, .int .i64 0], sla 23 5 (some ⟨b40, 0, none⟩) ([(api_Event.mk 12 0 2 1 0), (api_Event.mk 12 1 0 1 0), (api_Event.mk 1 0 0 1 0)] : List api_Event).length 3 [.int .i64 12, .int .i64 0, .int .i64 2, .int .i64 1, .int .i64 0, .int .i64 12, .int .i64 1, .int .i64 0, .int .i64 1, .int .i64 0, .int .i64 1, .int .i64 0, .int .i64 0, .int .i64 1, .int .i64 0], sla 23 5 oa34 r32.length cap35 vs36, sla 23 5 oa19 r17.1.length cap20 vs21, sla 23 5 oa12 r10.1.length cap13 vs14, blk b6 (.cells [.int .i64 1, .int .i64 0, .int .i64 0, .int .i64 1, .int .i64 0].toArray 23 (0, 0)), blk b5 (.cells [.int .i64 12, .int .i64 0, .int .i64 2, .int .i64 1, .int .i64 0].toArray 23 (0, 0)), blk b4 (.cells [.int .i64 12, .int .i64 1, .int .i64 0, .int .i64 1, .int .i64 0].toArray 23 (0, 0))] w) ?_ ?_
      ·
        intro hJ99
        refine da2 (i := 60) (j := 62) (by kernel_rfl) ?_ ?_
        ·
          refine di (i := 60) rfl <| gy hF rfl rfl <| a_bsl (e := 23) (sz := 5) [.int .i64 0, .int .i64 9, .int .i64 0, .int .i64 0, .int .i64 0] hF rfl hS rfl rfl rfl (fun w => by kernel_rfl) fun b90 w a hS hF => ?_
          refine ⟨fun _ => (St.ldsX hS hx67.sub (fun _ h => (.tail _ (.tail _ (.tail _ (.tail _ (.tail _ (.tail _ (.tail _ h))))))))), ?_⟩
          refine da1 (i := 62) (by kernel_rfl) ?_
          refine di (i := 62) rfl <| gy hF rfl rfl <| a_bsl (e := 23) (sz := 5) [.int .i64 0, .int .i64 9, .int .i64 0, .int .i64 0, .int .i64 0] hF rfl hS rfl rfl rfl (fun w => by kernel_rfl) fun b93 w a hS hF => ?_
          refine ⟨fun _ => (St.ldsX hS hx67.sub (fun _ h => (.tail _ (.tail _ (.tail _ (.tail _ (.tail _ (.tail _ (.tail _ (.tail _ h)))))))))), ?_⟩
          exact wpD_list (by kernel_rfl) (hJ99 _ _ ⟨b90, b93, hF.has ⟨rfl, rfl, rfl, rfl, rfl, rfl, rfl, rfl, rfl, rfl, rfl, rfl, rfl, rfl, rfl, rfl, rfl, rfl, rfl, rfl, rfl, rfl, rfl, rfl, rfl, rfl, rfl, rfl, rfl, rfl, rfl, rfl, rfl, rfl, rfl, rfl, rfl, rfl, rfl, rfl, rfl, rfl, rfl, rfl, rfl, rfl, rfl, rfl, rfl, rfl, rfl, rfl, rfl, rfl, rfl, rfl, rfl, rfl, rfl, rfl, rfl, rfl, rfl, rfl, trivial⟩, hS⟩)
        ·
          refine di (i := 62) rfl <| gy hF rfl rfl <| a_bsl (e := 23) (sz := 5) [.int .i64 0, .int .i64 9, .int .i64 0, .int .i64 0, .int .i64 0] hF rfl hS rfl rfl rfl (fun w => by kernel_rfl) fun b93 w a hS hF => ?_
          refine ⟨fun _ => (St.ldsX hS hx67.sub (fun _ h => (.tail _ (.tail _ (.tail _ (.tail _ (.tail _ (.tail _ (.tail _ h))))))))), ?_⟩
          refine da1 (i := 60) (by kernel_rfl) ?_
          refine di (i := 60) rfl <| gy hF rfl rfl <| a_bsl (e := 23) (sz := 5) [.int .i64 0, .int .i64 9, .int .i64 0, .int .i64 0, .int .i64 0] hF rfl hS rfl rfl rfl (fun w => by kernel_rfl) fun b90 w a hS hF => ?_
          refine ⟨fun _ => (St.ldsX hS hx67.sub (fun _ h => (.tail _ (.tail _ (.tail _ (.tail _ (.tail _ (.tail _ (.tail _ (.tail _ h)))))))))), ?_⟩
          replace hS := hS.pickL (.cons (.tail .head) (.cons .head (.cons .head (.cons .head (.cons .head (.cons .head (.cons .head (.cons .head (.cons .head (.cons .head (.cons .head (.cons .head (.cons .head .nil)))))))))))))
          exact wpD_list (by kernel_rfl) (hJ99 _ _ ⟨b90, b93, hF.has ⟨rfl, rfl, rfl, rfl, rfl, rfl, rfl, rfl, rfl, rfl, rfl, rfl, rfl, rfl, rfl, rfl, rfl, rfl, rfl, rfl, rfl, rfl, rfl, rfl, rfl, rfl, rfl, rfl, rfl, rfl, rfl, rfl, rfl, rfl, rfl, rfl, rfl, rfl, rfl, rfl, rfl, rfl, rfl, rfl, rfl, rfl, rfl, rfl, rfl, rfl, rfl, rfl, rfl, rfl, rfl, rfl, rfl, rfl, rfl, rfl, rfl, rfl, rfl, rfl, trivial⟩, hS⟩)
      ·
        rintro a w ⟨b90, b93, hF, hS⟩
        refine da1 (i := 64) (by kernel_rfl) ?_
        refine di (i := 64) rfl <| gy hF rfl rfl <| c1 hF rfl Tryd.call31 (trace_Same_c (hp_le _) (St.capO hS (.tail _ (.head _))) (St.srO hS (.tail _ (.head _)) (hv89.mono hx67.sub)) (St.capO hS (.head _)) (St.srO hS (.head _) (hv92.mono hx67.sub)) hc30 (St.srH hS (hr29.mono hx67.sub)) h96) ⟨rfl, rfl, rfl, rfl, trivial⟩ (fun v w a hR hF => ?_)
        obtain ⟨rfl, hk⟩ := hR
        replace hS := hS.pass hk
        clear hk
        refine ⟨fun _ => (St.ldsX hS hx67.sub (fun _ h => (.tail _ (.tail _ (.tail _ (.tail _ (.tail _ (.tail _ (.tail _ (.tail _ h)))))))))), ?_⟩
        refine d1g (i := 65) rfl (by kernel_rfl) (by kernel_rfl) (St.ldsX hS hx67.sub (fun _ h => (.tail _ (.tail _ (.tail _ (.tail _ (.tail _ (.tail _ (.tail _ (.tail _ h)))))))))) hF rfl rfl rfl (fun _ _ _ h => h) (fun w hl => (e_not hF rfl)) fun a hF => ?_
        refine d1 (i := 66) rfl (by kernel_rfl) (by kernel_rfl) (St.ldsX hS hx67.sub (fun _ h => (.tail _ (.tail _ (.tail _ (.tail _ (.tail _ (.tail _ (.tail _ (.tail _ h)))))))))) hF rfl (fun _ _ _ h => h) (fun w hl => (e_pickT hF rfl rfl)) fun a hF => ?_
        refine d1 (i := 67) rfl (by kernel_rfl) (by kernel_rfl) (St.ldsX hS hx67.sub (fun _ h => (.tail _ (.tail _ (.tail _ (.tail _ (.tail _ (.tail _ (.tail _ (.tail _ h)))))))))) hF rfl (fun _ _ _ h => h) (fun w hl => (e_asg hF rfl)) fun a hF => ?_
        refine de (by kernel_rfl) <| ?_
        refine tn <| ?_
        refine wp_ret <| ?_
        obtain rfl := Option.some.inj hm
        exact r1 hF Tryd.results38 rfl ⟨rfl, hS.keep⟩

set_option maxRecDepth 100000 in
theorem leadlinelaw17_TraceTells_c {N : Nat} {w0 : World} {H : PH} (hH : H.le w0) (hT : Tab H) {oa2 : Option Addr} {cap3 : Nat} {p1 : (List api_Event)} (hc4 : p1.length ≤ cap3) (hr5 : SR H oa2 p1) {oa7 : Option Addr} {cap8 : Nat} {p6 : (List api_Event)} (hc9 : p6.length ≤ cap8) (hr10 : SR H oa7 p6) {p11 : Int} {p12 : Int} {r : Bool} (hm : leadlinelaw17_TraceTells N p1 p6 p11 p12 = some r) : Tot Tryd.prog 7 #[.slice oa2 p1.length cap3, .slice oa7 p6.length cap8, .agg #[.int .i64 p11, .int .i64 p12]] w0 (fun v w' => v = .bool r ∧ Keep Nil w0 w') := by
  unfold leadlinelaw17_TraceTells at hm
  refine fn0 (args := [.slice oa2 p1.length cap3, .slice oa7 p6.length cap8, .agg #[.int .i64 p11, .int .i64 p12]]) (F := [(0, .slice oa2 p1.length cap3), (1, .slice oa7 p6.length cap8), (2, .agg #[.int .i64 p11, .int .i64 p12])]) Tryd.func7 rfl Tryd.ntmps7 rfl rfl fun a hF => ?_
  have hS : St w0 Nil [H] [] w0 := start1 hH
  refine th <| ?_
  refine rg <| ?_
  refine ls <| a_box (cs := [.int .i64 p11, .int .i64 p12].toArray) hF rfl hS rfl rfl fun b13 w a hS hF => ?_
  refine ls <| q1 hF rfl (e_asg hF rfl) fun a hF => ?_
  refine re <| ?_
  refine tn <| th <| ?_
  replace hm := bind_some hm
  obtain ⟨r14, h15, hm⟩ := hm
  refine rg <| ?_
  refine ls <| q1 hF rfl (e_move hF rfl) fun a hF => ?_
  refine ls <| c1 hF rfl Tryd.call25 (leadlinelaw17_cut_c (St.le hS) hc4 hr5 h15) ⟨rfl, trivial⟩ (fun v w a hR hF => ?_)
  obtain ⟨H18, oa19, cap20, rfl, hc21, hr22, hx16, hl17, hk⟩ := hR
  obtain ⟨hS, hx16⟩ := And.intro (St.passH hS hk hx16 hl17) (St.extc hS hx16)
  clear hk
  refine ls <| q1 hF rfl (e_asg hF rfl) fun a hF => ?_
  refine re <| ?_
  refine tn <| th <| ?_
  replace hm := bind_some hm
  obtain ⟨r23, h24, hm⟩ := hm
  refine rg <| ?_
  refine ls <| q1 hF rfl (e_move hF rfl) fun a hF => ?_
  refine ls <| c1 hF rfl Tryd.call25 (leadlinelaw17_cut_c (St.le hS) hc9 (hr10.mono hx16.sub) h24) ⟨rfl, trivial⟩ (fun v w a hR hF => ?_)
  obtain ⟨H27, oa28, cap29, rfl, hc30, hr31, hx25, hl26, hk⟩ := hR
  obtain ⟨hS, hx25⟩ := And.intro (St.passH hS hk hx25 hl26) (St.extc hS hx25)
  clear hk
  refine ls <| q1 hF rfl (e_asg hF rfl) fun a hF => ?_
  refine re <| ?_
  refine tn <| th <| ?_
  refine rg <| ?_
  refine ls <| a_bsl (e := 3) (sz := 1) [.int .i64 0, .int .i64 0, .int .i64 1] hF rfl hS rfl rfl rfl (fun w => by kernel_rfl) fun b33 w a hS hF => ?_
  have hv32 : Rows (α := Int) H27 [.int .i64 0, .int .i64 0, .int .i64 1] ([0, 0, 1] : List Int) := (.cons (c := [.int .i64 0]) rfl (.cons (c := [.int .i64 0]) rfl (.cons (c := [.int .i64 1]) rfl .nil)))
  refine ls <| q1 hF rfl (e_asg hF rfl) fun a hF => ?_
  refine re <| ?_
  refine tn <| th <| ?_
  replace hm := bind_some hm
  obtain ⟨l38, h39, hm⟩ := hm
  refine rg <| ?_
  refine ls <| a_bsl (e := 23) (sz := 5) [] hF rfl hS rfl rfl rfl (fun w => by kernel_rfl) fun b36 w a hS hF => ?_
  have hv35 : Rows (α := api_Event) H27 [] [] := .nil
  refine ls <| q1 hF rfl (e_move hF rfl) fun a hF => ?_
  obtain ⟨us44, hd45, hu46⟩ := id (hr22.mono hx25.sub)
  refine ls <| m_app (α := api_Event) (xs := []) (ys := r14) hF rfl hS Tryd.underlying39 info23 rfl (by decide) rfl rfl rfl (.head _) hv35 (hS.rdH (.head _) hd45) hu46 h39 fun oa40 cap41 vs42 w a hv43 hU hF => ?_
  replace hS := hU _ .head
  clear hU
  refine ls <| q1 hF rfl (e_asg hF rfl) fun a hF => ?_
  refine re <| ?_
  refine tn <| th <| ?_
  replace hm := bind_some hm
  obtain ⟨r47, h48, hm⟩ := hm
  refine rg <| ?_
  refine ls <| q1 hF rfl (e_move hF rfl) fun a hF => ?_
  refine ls <| q1 hF rfl (e_iaA (i := 1) hF Tryd.runUnderlying40 Tryd.sizeOf3 rfl rfl rfl (by decide)) fun a hF => ?_
  refine ls <| q1 hF rfl (e_ld hF Tryd.isAgg3 rfl ((St.ld hS).cellB (.tail _ (.tail _ (.head _))) rfl)) fun a hF => ?_
  refine ls <| q1 hF rfl (e_move hF rfl) fun a hF => ?_
  refine ls <| q1 hF rfl (e_iaA (i := 0) hF Tryd.runUnderlying40 Tryd.sizeOf3 rfl rfl rfl (by decide)) fun a hF => ?_
  refine ls <| q1 hF rfl (e_ld hF Tryd.isAgg3 rfl ((St.ld hS).cellB (.tail _ (.tail _ (.head _))) rfl)) fun a hF => ?_
  refine ls <| c1 hF rfl Tryd.call26 (trace_Swap_c (hp_le _) hc21 (St.srH hS (hr22.mono hx25.sub)) (St.capO hS (.tail _ (.head _))) (St.srO hS (.tail _ (.head _)) hv32) h48) ⟨rfl, rfl, rfl, rfl, trivial⟩ (fun v w a hR hF => ?_)
  obtain ⟨oa49, cap50, vs51, rfl, hv52, hk⟩ := hR
  replace hS := hS.fresh hk
  clear hk
  replace hv52 := hv52 H27
  refine ls <| q1 hF rfl (e_move hF rfl) fun a hF => ?_
  refine ls <| q1 hF rfl (e_ext hF rfl rfl) fun a hF => ?_
  refine ls <| q1 hF rfl (e_ext hF rfl rfl) fun a hF => ?_
  refine ls <| q1 hF rfl (e_asg hF rfl) fun a hF => ?_
  refine ls <| q1 hF rfl (e_asg hF rfl) fun a hF => ?_
  refine re <| ?_
  refine tn <| th <| ?_
  replace hm := bind_some hm
  obtain ⟨r54, h55, hm⟩ := hm
  refine rg <| ?_
  refine ls <| q1 hF rfl (e_move hF rfl) fun a hF => ?_
  refine ls <| q1 hF rfl (e_iaA (i := 1) hF Tryd.runUnderlying40 Tryd.sizeOf3 rfl rfl rfl (by decide)) fun a hF => ?_
  refine ls <| q1 hF rfl (e_ld hF Tryd.isAgg3 rfl ((St.ld hS).cellB (.tail _ (.tail _ (.tail _ (.head _)))) rfl)) fun a hF => ?_
  refine ls <| q1 hF rfl (e_move hF rfl) fun a hF => ?_
  refine ls <| q1 hF rfl (e_iaA (i := 0) hF Tryd.runUnderlying40 Tryd.sizeOf3 rfl rfl rfl (by decide)) fun a hF => ?_
  refine ls <| q1 hF rfl (e_ld hF Tryd.isAgg3 rfl ((St.ld hS).cellB (.tail _ (.tail _ (.tail _ (.head _)))) rfl)) fun a hF => ?_
  refine ls <| c1 hF rfl Tryd.call27 (leadlineref17_Swap_c (hp_le _) hc21 (St.srH hS (hr22.mono hx25.sub)) (St.capO hS (.tail _ (.tail _ (.head _)))) (St.srO hS (.tail _ (.tail _ (.head _))) hv32) h55) ⟨rfl, rfl, rfl, rfl, trivial⟩ (fun v w a hR hF => ?_)
  obtain ⟨oa56, cap57, vs58, rfl, hv59, hk⟩ := hR
  replace hS := hS.fresh hk
  clear hk
  replace hv59 := hv59 H27
  refine ls <| q1 hF rfl (e_move hF rfl) fun a hF => ?_
  refine ls <| q1 hF rfl (e_ext hF rfl rfl) fun a hF => ?_
  refine ls <| q1 hF rfl (e_ext hF rfl rfl) fun a hF => ?_
  refine ls <| q1 hF rfl (e_asg hF rfl) fun a hF => ?_
  refine ls <| q1 hF rfl (e_asg hF rfl) fun a hF => ?_
  refine re <| ?_
  refine tn <| th <| ?_
  obtain ⟨H64, hx61, hr62, hc63, hS⟩ := St.frzS hS (.tail (.tail (.tail .head))) hv32
  replace hm := bind_some hm
  obtain ⟨r65, h66, hm⟩ := hm
  replace hm := bind_some hm
  obtain ⟨r72, h73, hm⟩ := hm
  replace hm := bind_some hm
  obtain ⟨r79, h80, hm⟩ := hm
  replace hm := bind_some hm
  obtain ⟨_, hb81, hm⟩ := hm
  replace hb81 := sure_some hb81
  replace hm := bind_some hm
  obtain ⟨r82, h83, hm⟩ := hm
  replace hm := bind_some hm
  obtain ⟨r84, h85, hm⟩ := hm
  replace hm := bind_some hm
  obtain ⟨_, hb86, hm⟩ := hm
  replace hb86 := sure_some hb86
  replace hm := bind_some hm
  obtain ⟨r87, h88, hm⟩ := hm
  replace hm := bind_some hm
  obtain ⟨r89, h90, hm⟩ := hm
  replace hm := bind_some hm
  obtain ⟨_, hb91, hm⟩ := hm
  replace hb91 := sure_some hb91
  replace hm := bind_some hm
  obtain ⟨r92, h93, hm⟩ := hm
  replace hm := bind_some hm
  obtain ⟨_, hb94, hm⟩ := hm
  replace hb94 := sure_some hb94
  replace hm := bind_some hm
  obtain ⟨_, hb95, hm⟩ := hm
  replace hb95 := sure_some hb95
  replace hm := bind_some hm
  obtain ⟨r96, h97, hm⟩ := hm
  replace hm := bind_some hm
  obtain ⟨r105, h106, hm⟩ := hm
  replace hm := bind_some hm
  obtain ⟨r114, h115, hm⟩ := hm
  replace hm := bind_some hm
  obtain ⟨_, hb116, hm⟩ := hm
  replace hb116 := sure_some hb116
  replace hm := bind_some hm
  obtain ⟨r117, h118, hm⟩ := hm
  replace hm := bind_some hm
  obtain ⟨_, hb119, hm⟩ := hm
  replace hb119 := sure_some hb119
  replace hm := bind_some hm
  obtain ⟨r120, h121, hm⟩ := hm
  refine rdS 71 hS wide fun w hS => ?_
  refine d1 (i := 0) rfl (by kernel_rfl) (by kernel_rfl) (St.ld hS) hF rfl (fun _ _ _ h => h) (fun w hl => (e_move hF rfl)) fun a hF => ?_
  refine d1 (i := 1) rfl (by kernel_rfl) (by kernel_rfl) (St.ld hS) hF rfl (fun _ _ _ h => h) (fun w hl => (e_move hF rfl)) fun a hF => ?_
  refine d1 (i := 2) rfl (by kernel_rfl) (by kernel_rfl) (St.ld hS) hF rfl (fun _ _ _ h => h) (fun w hl => (e_iaA (i := 0) hF Tryd.runUnderlying40 Tryd.sizeOf3 rfl rfl rfl (by decide))) fun a hF => ?_
  refine d1 (i := 3) rfl (by kernel_rfl) (by kernel_rfl) (St.ld hS) hF rfl (fun _ _ _ h => h) (fun w hl => (e_ld hF Tryd.isAgg3 rfl (hl.cellB (.tail _ (.tail _ (.tail _ (.head _)))) rfl))) fun a hF => ?_
  refine d1 (i := 5) rfl (by kernel_rfl) (by kernel_rfl) (St.ld hS) hF rfl (fun _ _ _ h => h) (fun w hl => (e_move hF rfl)) fun a hF => ?_
  refine d1 (i := 6) rfl (by kernel_rfl) (by kernel_rfl) (St.ld hS) hF rfl (fun _ _ _ h => h) (fun w hl => (e_move hF rfl)) fun a hF => ?_
  refine d1 (i := 7) rfl (by kernel_rfl) (by kernel_rfl) (St.ld hS) hF rfl (fun _ _ _ h => h) (fun w hl => (e_iaA (i := 0) hF Tryd.runUnderlying40 Tryd.sizeOf3 rfl rfl rfl (by decide))) fun a hF => ?_
  refine d1 (i := 8) rfl (by kernel_rfl) (by kernel_rfl) (St.ld hS) hF rfl (fun _ _ _ h => h) (fun w hl => (e_ld hF Tryd.isAgg3 rfl (hl.cellB (.tail _ (.tail _ (.tail _ (.head _)))) rfl))) fun a hF => ?_
  refine da1 (i := 4) (by kernel_rfl) ?_
  refine di (i := 4) rfl <| c1 hF rfl Tryd.call29 (trace_Form_c (hp_le _) hc21 (St.srH hS (hr22.mono (fun b o h => hx61.sub b o (hx25.sub b o h)))) hc63 (St.srH hS hr62) h66) ⟨rfl, rfl, rfl, trivial⟩ (fun v w a hR hF => ?_)
  obtain ⟨oa67, cap68, vs69, rfl, hv70, hk⟩ := hR
  replace hS := hS.fresh hk
  clear hk
  replace hv70 := hv70 H64
  refine ⟨fun _ => (St.ldsX hS (fun _ _ h => h) (fun _ h => (.tail _ h))), ?_⟩
  refine da1 (i := 9) (by kernel_rfl) ?_
  refine di (i := 9) rfl <| c1 hF rfl Tryd.call30 (leadlineref17_Form_c (hp_le _) hc21 (St.srH hS (hr22.mono (fun b o h => hx61.sub b o (hx25.sub b o h)))) hc63 (St.srH hS hr62) h73) ⟨rfl, rfl, rfl, trivial⟩ (fun v w a hR hF => ?_)
  obtain ⟨oa74, cap75, vs76, rfl, hv77, hk⟩ := hR
  replace hS := hS.fresh hk
  clear hk
  replace hv77 := hv77 H64
  refine ⟨fun _ => (St.ldsX hS (fun _ _ h => h) (fun _ h => (.tail _ (.tail _ h)))), ?_⟩
  refine da1 (i := 10) (by kernel_rfl) ?_
  refine di (i := 10) rfl <| c1 hF rfl Tryd.call28 (leadlineref17_Equal_c (hp_le _) (St.capO hS (.tail _ (.head _))) (St.srO hS (.tail _ (.head _)) hv70) (St.capO hS (.head _)) (St.srO hS (.head _) hv77) h80) ⟨rfl, rfl, trivial⟩ (fun v w a hR hF => ?_)
  obtain ⟨rfl, hk⟩ := hR
  replace hS := hS.pass hk
  clear hk
  refine ⟨fun _ => (St.ldsX hS (fun _ _ h => h) (fun _ h => (.tail _ (.tail _ h)))), ?_⟩
  refine d1 (i := 11) rfl (by kernel_rfl) (by kernel_rfl) (St.ldsX hS (fun _ _ h => h) (fun _ h => (.tail _ (.tail _ h)))) hF rfl (fun _ _ _ h => h) (fun w hl => (e_as (e_move hF rfl) (congrArg Value.bool hb81))) fun a hF => ?_
  refine d1g (i := 12) rfl (by kernel_rfl) (by kernel_rfl) (St.ldsX hS (fun _ _ h => h) (fun _ h => (.tail _ (.tail _ h)))) hF rfl rfl rfl (fun _ _ _ h => h) (fun w hl => (e_move hF rfl)) fun a hF => ?_
  refine d1g (i := 13) rfl (by kernel_rfl) (by kernel_rfl) (St.ldsX hS (fun _ _ h => h) (fun _ h => (.tail _ (.tail _ h)))) hF rfl rfl rfl (fun _ _ _ h => h) (fun w hl => (e_move hF rfl)) fun a hF => ?_
  refine d1g (i := 14) rfl (by kernel_rfl) (by kernel_rfl) (St.ldsX hS (fun _ _ h => h) (fun _ h => (.tail _ (.tail _ h)))) hF rfl rfl rfl (fun _ _ _ h => h) (fun w hl => (e_move hF rfl)) fun a hF => ?_
  refine d1g (i := 15) rfl (by kernel_rfl) (by kernel_rfl) (St.ldsX hS (fun _ _ h => h) (fun _ h => (.tail _ (.tail _ h)))) hF rfl rfl rfl (fun _ _ _ h => h) (fun w hl => (e_iaA (i := 0) hF Tryd.runUnderlying40 Tryd.sizeOf3 rfl rfl rfl (by decide))) fun a hF => ?_
  refine d1g (i := 16) rfl (by kernel_rfl) (by kernel_rfl) (St.ldsX hS (fun _ _ h => h) (fun _ h => (.tail _ (.tail _ h)))) hF rfl rfl rfl (fun _ _ _ h => h) (fun w hl => (e_ld hF Tryd.isAgg3 rfl (hl.cellB (.tail _ (.tail _ (.tail _ (.head _)))) rfl))) fun a hF => ?_
  refine d1g (i := 18) rfl (by kernel_rfl) (by kernel_rfl) (St.ldsX hS (fun _ _ h => h) (fun _ h => (.tail _ (.tail _ h)))) hF rfl rfl rfl (fun _ _ _ h => h) (fun w hl => (e_move hF rfl)) fun a hF => ?_
  refine d1g (i := 19) rfl (by kernel_rfl) (by kernel_rfl) (St.ldsX hS (fun _ _ h => h) (fun _ h => (.tail _ (.tail _ h)))) hF rfl rfl rfl (fun _ _ _ h => h) (fun w hl => (e_move hF rfl)) fun a hF => ?_
  refine d1g (i := 20) rfl (by kernel_rfl) (by kernel_rfl) (St.ldsX hS (fun _ _ h => h) (fun _ h => (.tail _ (.tail _ h)))) hF rfl rfl rfl (fun _ _ _ h => h) (fun w hl => (e_move hF rfl)) fun a hF => ?_
  refine d1g (i := 21) rfl (by kernel_rfl) (by kernel_rfl) (St.ldsX hS (fun _ _ h => h) (fun _ h => (.tail _ (.tail _ h)))) hF rfl rfl rfl (fun _ _ _ h => h) (fun w hl => (e_iaA (i := 0) hF Tryd.runUnderlying40 Tryd.sizeOf3 rfl rfl rfl (by decide))) fun a hF => ?_
  refine d1g (i := 22) rfl (by kernel_rfl) (by kernel_rfl) (St.ldsX hS (fun _ _ h => h) (fun _ h => (.tail _ (.tail _ h)))) hF rfl rfl rfl (fun _ _ _ h => h) (fun w hl => (e_ld hF Tryd.isAgg3 rfl (hl.cellB (.tail _ (.tail _ (.tail _ (.head _)))) rfl))) fun a hF => ?_
  refine da1 (i := 17) (by kernel_rfl) ?_
  refine di (i := 17) rfl <| gy hF rfl rfl <| c1 hF rfl Tryd.call31 (trace_Same_c (hp_le _) hc21 (St.srH hS (hr22.mono (fun b o h => hx61.sub b o (hx25.sub b o h)))) hc30 (St.srH hS (hr31.mono hx61.sub)) hc63 (St.srH hS hr62) h83) ⟨rfl, rfl, rfl, rfl, trivial⟩ (fun v w a hR hF => ?_)
  obtain ⟨rfl, hk⟩ := hR
  replace hS := hS.pass hk
  clear hk
  refine ⟨fun _ => (St.ldsX hS (fun _ _ h => h) (fun _ h => (.tail _ (.tail _ h)))), ?_⟩
  refine da1 (i := 23) (by kernel_rfl) ?_
  refine di (i := 23) rfl <| gy hF rfl rfl <| c1 hF rfl Tryd.call32 (leadlineref17_Same_c (hp_le _) hc21 (St.srH hS (hr22.mono (fun b o h => hx61.sub b o (hx25.sub b o h)))) hc30 (St.srH hS (hr31.mono hx61.sub)) hc63 (St.srH hS hr62) h85) ⟨rfl, rfl, rfl, rfl, trivial⟩ (fun v w a hR hF => ?_)
  obtain ⟨rfl, hk⟩ := hR
  replace hS := hS.pass hk
  clear hk
  refine ⟨fun _ => (St.ldsX hS (fun _ _ h => h) (fun _ h => (.tail _ (.tail _ h)))), ?_⟩
  refine d1g (i := 24) rfl (by kernel_rfl) (by kernel_rfl) (St.ldsX hS (fun _ _ h => h) (fun _ h => (.tail _ (.tail _ h)))) hF rfl rfl rfl (fun _ _ _ h => h) (fun w hl => (e_eqlB hF Tryd.runUnderlying4 rfl rfl)) fun a hF => ?_
  refine d1 (i := 25) rfl (by kernel_rfl) (by kernel_rfl) (St.ldsX hS (fun _ _ h => h) (fun _ h => (.tail _ (.tail _ h)))) hF rfl (fun _ _ _ h => h) (fun w hl => (e_pickT hF rfl rfl)) fun a hF => ?_
  refine d1 (i := 26) rfl (by kernel_rfl) (by kernel_rfl) (St.ldsX hS (fun _ _ h => h) (fun _ h => (.tail _ (.tail _ h)))) hF rfl (fun _ _ _ h => h) (fun w hl => (e_as (e_move hF rfl) (congrArg Value.bool hb86))) fun a hF => ?_
  refine d1g (i := 27) rfl (by kernel_rfl) (by kernel_rfl) (St.ldsX hS (fun _ _ h => h) (fun _ h => (.tail _ (.tail _ h)))) hF rfl rfl rfl (fun _ _ _ h => h) (fun w hl => (e_move hF rfl)) fun a hF => ?_
  refine d1g (i := 28) rfl (by kernel_rfl) (by kernel_rfl) (St.ldsX hS (fun _ _ h => h) (fun _ h => (.tail _ (.tail _ h)))) hF rfl rfl rfl (fun _ _ _ h => h) (fun w hl => (e_move hF rfl)) fun a hF => ?_
  refine d1g (i := 29) rfl (by kernel_rfl) (by kernel_rfl) (St.ldsX hS (fun _ _ h => h) (fun _ h => (.tail _ (.tail _ h)))) hF rfl rfl rfl (fun _ _ _ h => h) (fun w hl => (e_iaA (i := 0) hF Tryd.runUnderlying40 Tryd.sizeOf3 rfl rfl rfl (by decide))) fun a hF => ?_
  refine d1g (i := 30) rfl (by kernel_rfl) (by kernel_rfl) (St.ldsX hS (fun _ _ h => h) (fun _ h => (.tail _ (.tail _ h)))) hF rfl rfl rfl (fun _ _ _ h => h) (fun w hl => (e_ld hF Tryd.isAgg3 rfl (hl.cellB (.tail _ (.tail _ (.tail _ (.head _)))) rfl))) fun a hF => ?_
  refine d1g (i := 32) rfl (by kernel_rfl) (by kernel_rfl) (St.ldsX hS (fun _ _ h => h) (fun _ h => (.tail _ (.tail _ h)))) hF rfl rfl rfl (fun _ _ _ h => h) (fun w hl => (e_move hF rfl)) fun a hF => ?_
  refine d1g (i := 33) rfl (by kernel_rfl) (by kernel_rfl) (St.ldsX hS (fun _ _ h => h) (fun _ h => (.tail _ (.tail _ h)))) hF rfl rfl rfl (fun _ _ _ h => h) (fun w hl => (e_move hF rfl)) fun a hF => ?_
  refine d1g (i := 34) rfl (by kernel_rfl) (by kernel_rfl) (St.ldsX hS (fun _ _ h => h) (fun _ h => (.tail _ (.tail _ h)))) hF rfl rfl rfl (fun _ _ _ h => h) (fun w hl => (e_iaA (i := 0) hF Tryd.runUnderlying40 Tryd.sizeOf3 rfl rfl rfl (by decide))) fun a hF => ?_
  refine d1g (i := 35) rfl (by kernel_rfl) (by kernel_rfl) (St.ldsX hS (fun _ _ h => h) (fun _ h => (.tail _ (.tail _ h)))) hF rfl rfl rfl (fun _ _ _ h => h) (fun w hl => (e_ld hF Tryd.isAgg3 rfl (hl.cellB (.tail _ (.tail _ (.tail _ (.head _)))) rfl))) fun a hF => ?_
  refine da1 (i := 31) (by kernel_rfl) ?_
  refine di (i := 31) rfl <| gy hF rfl rfl <| c1 hF rfl Tryd.call33 (trace_Key_c (hp_le _) (Tab.mono (Tab.mono hT (fun b o h => (fun b o h => hx61.sub b o (hx25.sub b o h)) b o (hx16.sub b o h))) (St.up hS)) hc21 (St.srH hS (hr22.mono (fun b o h => hx61.sub b o (hx25.sub b o h)))) hc63 (St.srH hS hr62) h88) ⟨rfl, rfl, rfl, trivial⟩ (fun v w a hR hF => ?_)
  obtain ⟨rfl, hk⟩ := hR
  replace hS := hS.pass hk
  clear hk
  refine ⟨fun _ => (St.ldsX hS (fun _ _ h => h) (fun _ h => (.tail _ (.tail _ h)))), ?_⟩
  refine da1 (i := 36) (by kernel_rfl) ?_
  refine di (i := 36) rfl <| gy hF rfl rfl <| c1 hF rfl Tryd.call34 (leadlineref17_Key_c (hp_le _) hc21 (St.srH hS (hr22.mono (fun b o h => hx61.sub b o (hx25.sub b o h)))) hc63 (St.srH hS hr62) h90) ⟨rfl, rfl, rfl, trivial⟩ (fun v w a hR hF => ?_)
  obtain ⟨rfl, hk⟩ := hR
  replace hS := hS.pass hk
  clear hk
  refine ⟨fun _ => (St.ldsX hS (fun _ _ h => h) (fun _ h => (.tail _ (.tail _ h)))), ?_⟩
  refine d1g (i := 37) rfl (by kernel_rfl) (by kernel_rfl) (St.ldsX hS (fun _ _ h => h) (fun _ h => (.tail _ (.tail _ h)))) hF rfl rfl rfl (fun _ _ _ h => h) (fun w hl => (e_eqlU (m := r87) (n := r89) hF rfl rfl)) fun a hF => ?_
  refine d1 (i := 38) rfl (by kernel_rfl) (by kernel_rfl) (St.ldsX hS (fun _ _ h => h) (fun _ h => (.tail _ (.tail _ h)))) hF rfl (fun _ _ _ h => h) (fun w hl => (e_pickT hF rfl rfl)) fun a hF => ?_
  refine d1 (i := 39) rfl (by kernel_rfl) (by kernel_rfl) (St.ldsX hS (fun _ _ h => h) (fun _ h => (.tail _ (.tail _ h)))) hF rfl (fun _ _ _ h => h) (fun w hl => (e_as (e_move hF rfl) (congrArg Value.bool hb91))) fun a hF => ?_
  refine d1g (i := 40) rfl (by kernel_rfl) (by kernel_rfl) (St.ldsX hS (fun _ _ h => h) (fun _ h => (.tail _ (.tail _ h)))) hF rfl rfl rfl (fun _ _ _ h => h) (fun w hl => (e_move hF rfl)) fun a hF => ?_
  refine d1g (i := 41) rfl (by kernel_rfl) (by kernel_rfl) (St.ldsX hS (fun _ _ h => h) (fun _ h => (.tail _ (.tail _ h)))) hF rfl rfl rfl (fun _ _ _ h => h) (fun w hl => (e_move hF rfl)) fun a hF => ?_
  refine da1 (i := 42) (by kernel_rfl) ?_
  refine di (i := 42) rfl <| gy hF rfl rfl <| c1 hF rfl Tryd.call28 (leadlineref17_Equal_c (hp_le _) (St.capO hS (.tail _ (.tail _ (.tail _ (.head _))))) (St.srO hS (.tail _ (.tail _ (.tail _ (.head _)))) (hv52.mono hx61.sub)) (St.capO hS (.tail _ (.tail _ (.head _)))) (St.srO hS (.tail _ (.tail _ (.head _))) (hv59.mono hx61.sub)) h93) ⟨rfl, rfl, trivial⟩ (fun v w a hR hF => ?_)
  obtain ⟨rfl, hk⟩ := hR
  replace hS := hS.pass hk
  clear hk
  refine ⟨fun _ => (St.ldsX hS (fun _ _ h => h) (fun _ h => (.tail _ (.tail _ h)))), ?_⟩
  refine d1 (i := 43) rfl (by kernel_rfl) (by kernel_rfl) (St.ldsX hS (fun _ _ h => h) (fun _ h => (.tail _ (.tail _ h)))) hF rfl (fun _ _ _ h => h) (fun w hl => (e_pickT hF rfl rfl)) fun a hF => ?_
  refine d1 (i := 44) rfl (by kernel_rfl) (by kernel_rfl) (St.ldsX hS (fun _ _ h => h) (fun _ h => (.tail _ (.tail _ h)))) hF rfl (fun _ _ _ h => h) (fun w hl => (e_as (e_move hF rfl) (congrArg Value.bool hb94))) fun a hF => ?_
  refine d1g (i := 45) rfl (by kernel_rfl) (by kernel_rfl) (St.ldsX hS (fun _ _ h => h) (fun _ h => (.tail _ (.tail _ h)))) hF rfl rfl rfl (fun _ _ _ h => h) (fun w hl => (e_move hF rfl)) fun a hF => ?_
  refine d1g (i := 46) rfl (by kernel_rfl) (by kernel_rfl) (St.ldsX hS (fun _ _ h => h) (fun _ h => (.tail _ (.tail _ h)))) hF rfl rfl rfl (fun _ _ _ h => h) (fun w hl => (e_move hF rfl)) fun a hF => ?_
  refine d1g (i := 47) rfl (by kernel_rfl) (by kernel_rfl) (St.ldsX hS (fun _ _ h => h) (fun _ h => (.tail _ (.tail _ h)))) hF rfl rfl rfl (fun _ _ _ h => h) (fun w hl => (e_eqlB hF Tryd.runUnderlying4 rfl rfl)) fun a hF => ?_
  refine d1 (i := 48) rfl (by kernel_rfl) (by kernel_rfl) (St.ldsX hS (fun _ _ h => h) (fun _ h => (.tail _ (.tail _ h)))) hF rfl (fun _ _ _ h => h) (fun w hl => (e_pickT hF rfl rfl)) fun a hF => ?_
  refine d1 (i := 49) rfl (by kernel_rfl) (by kernel_rfl) (St.ldsX hS (fun _ _ h => h) (fun _ h => (.tail _ (.tail _ h)))) hF rfl (fun _ _ _ h => h) (fun w hl => (e_as (e_move hF rfl) (congrArg Value.bool hb95))) fun a hF => ?_
  refine d1g (i := 50) rfl (by kernel_rfl) (by kernel_rfl) (St.ldsX hS (fun _ _ h => h) (fun _ h => (.tail _ (.tail _ h)))) hF rfl rfl rfl (fun _ _ _ h => h) (fun w hl => (e_move hF rfl)) fun a hF => ?_
  refine d1g (i := 51) rfl (by kernel_rfl) (by kernel_rfl) (St.ldsX hS (fun _ _ h => h) (fun _ h => (.tail _ (.tail _ h)))) hF rfl rfl rfl (fun _ _ _ h => h) (fun w hl => (e_move hF rfl)) fun a hF => ?_
  refine d1g (i := 52) rfl (by kernel_rfl) (by kernel_rfl) (St.ldsX hS (fun _ _ h => h) (fun _ h => (.tail _ (.tail _ h)))) hF rfl rfl rfl (fun _ _ _ h => h) (fun w hl => (e_iaA (i := 0) hF Tryd.runUnderlying40 Tryd.sizeOf3 rfl rfl rfl (by decide))) fun a hF => ?_
  refine d1g (i := 53) rfl (by kernel_rfl) (by kernel_rfl) (St.ldsX hS (fun _ _ h => h) (fun _ h => (.tail _ (.tail _ h)))) hF rfl rfl rfl (fun _ _ _ h => h) (fun w hl => (e_ld hF Tryd.isAgg3 rfl (hl.cellB (.tail _ (.tail _ (.tail _ (.head _)))) rfl))) fun a hF => ?_
  refine d1g (i := 55) rfl (by kernel_rfl) (by kernel_rfl) (St.ldsX hS (fun _ _ h => h) (fun _ h => (.tail _ (.tail _ h)))) hF rfl rfl rfl (fun _ _ _ h => h) (fun w hl => (e_move hF rfl)) fun a hF => ?_
  refine d1g (i := 56) rfl (by kernel_rfl) (by kernel_rfl) (St.ldsX hS (fun _ _ h => h) (fun _ h => (.tail _ (.tail _ h)))) hF rfl rfl rfl (fun _ _ _ h => h) (fun w hl => (e_move hF rfl)) fun a hF => ?_
  refine d1g (i := 57) rfl (by kernel_rfl) (by kernel_rfl) (St.ldsX hS (fun _ _ h => h) (fun _ h => (.tail _ (.tail _ h)))) hF rfl rfl rfl (fun _ _ _ h => h) (fun w hl => (e_iaA (i := 0) hF Tryd.runUnderlying40 Tryd.sizeOf3 rfl rfl rfl (by decide))) fun a hF => ?_
  refine d1g (i := 58) rfl (by kernel_rfl) (by kernel_rfl) (St.ldsX hS (fun _ _ h => h) (fun _ h => (.tail _ (.tail _ h)))) hF rfl rfl rfl (fun _ _ _ h => h) (fun w hl => (e_ld hF Tryd.isAgg3 rfl (hl.cellB (.tail _ (.tail _ (.tail _ (.head _)))) rfl))) fun a hF => ?_
  refine da1 (i := 54) (by kernel_rfl) ?_
  refine di (i := 54) rfl <| gy hF rfl rfl <| c1 hF rfl Tryd.call36 (trace_Steps_c (St.le hS) hc21 (hr22.mono (fun b o h => hx61.sub b o (hx25.sub b o h))) hc63 hr62 h97) ⟨rfl, rfl, rfl, trivial⟩ (fun v w a hR hF => ?_)
  obtain ⟨H100, oa101, cap102, rfl, hc103, hr104, hx98, hl99, hk⟩ := hR
  obtain ⟨hS, hx98⟩ := And.intro (St.passH hS hk hx98 hl99) (St.extc hS hx98)
  clear hk
  refine ⟨fun _ => (St.ldsX hS hx98.sub (fun _ h => (.tail _ (.tail _ h)))), ?_⟩
  refine da1 (i := 59) (by kernel_rfl) ?_
  refine di (i := 59) rfl <| gy hF rfl rfl <| c1 hF rfl Tryd.call37 (leadlineref17_Steps_c (St.le hS) hc21 (hr22.mono (fun b o h => (fun b o h => hx98.sub b o (hx61.sub b o h)) b o (hx25.sub b o h))) hc63 (hr62.mono hx98.sub) h106) ⟨rfl, rfl, rfl, trivial⟩ (fun v w a hR hF => ?_)
  obtain ⟨H109, oa110, cap111, rfl, hc112, hr113, hx107, hl108, hk⟩ := hR
  obtain ⟨hS, hx107⟩ := And.intro (St.passH hS hk hx107 hl108) (St.extc hS hx107)
  clear hk
  refine ⟨fun _ => (St.ldsX hS (fun b o h => hx107.sub b o (hx98.sub b o h)) (fun _ h => (.tail _ (.tail _ h)))), ?_⟩
  refine da1 (i := 60) (by kernel_rfl) ?_
  refine di (i := 60) rfl <| gy hF rfl rfl <| c1 hF rfl Tryd.call35 (leadlineref11_Rows_c (hp_le _) hc103 (St.srH hS (hr104.mono hx107.sub)) hc112 (St.srH hS hr113) h115) ⟨rfl, rfl, trivial⟩ (fun v w a hR hF => ?_)
  obtain ⟨rfl, hk⟩ := hR
  replace hS := hS.pass hk
  clear hk
  refine ⟨fun _ => (St.ldsX hS (fun b o h => hx107.sub b o (hx98.sub b o h)) (fun _ h => (.tail _ (.tail _ h)))), ?_⟩
  refine d1 (i := 61) rfl (by kernel_rfl) (by kernel_rfl) (St.ldsX hS (fun b o h => hx107.sub b o (hx98.sub b o h)) (fun _ h => (.tail _ (.tail _ h)))) hF rfl (fun _ _ _ h => h) (fun w hl => (e_pickT hF rfl rfl)) fun a hF => ?_
  refine d1 (i := 62) rfl (by kernel_rfl) (by kernel_rfl) (St.ldsX hS (fun b o h => hx107.sub b o (hx98.sub b o h)) (fun _ h => (.tail _ (.tail _ h)))) hF rfl (fun _ _ _ h => h) (fun w hl => (e_as (e_move hF rfl) (congrArg Value.bool hb116))) fun a hF => ?_
  refine d1g (i := 63) rfl (by kernel_rfl) (by kernel_rfl) (St.ldsX hS (fun b o h => hx107.sub b o (hx98.sub b o h)) (fun _ h => (.tail _ (.tail _ h)))) hF rfl rfl rfl (fun _ _ _ h => h) (fun w hl => (e_move hF rfl)) fun a hF => ?_
  refine d1g (i := 64) rfl (by kernel_rfl) (by kernel_rfl) (St.ldsX hS (fun b o h => hx107.sub b o (hx98.sub b o h)) (fun _ h => (.tail _ (.tail _ h)))) hF rfl rfl rfl (fun _ _ _ h => h) (fun w hl => (e_move hF rfl)) fun a hF => ?_
  refine da1 (i := 65) (by kernel_rfl) ?_
  refine di (i := 65) rfl <| gy hF rfl rfl <| c1 hF rfl Tryd.call28 (leadlineref17_Equal_c (hp_le _) hc21 (St.srH hS (hr22.mono (fun b o h => (fun b o h => (fun b o h => hx107.sub b o (hx98.sub b o h)) b o (hx61.sub b o h)) b o (hx25.sub b o h)))) (St.capO hS (.tail _ (.tail _ (.tail _ (.tail _ (.head _)))))) (St.srO hS (.tail _ (.tail _ (.tail _ (.tail _ (.head _))))) (hv43.mono (fun b o h => (fun b o h => hx107.sub b o (hx98.sub b o h)) b o (hx61.sub b o h)))) h118) ⟨rfl, rfl, trivial⟩ (fun v w a hR hF => ?_)
  obtain ⟨rfl, hk⟩ := hR
  replace hS := hS.pass hk
  clear hk
  refine ⟨fun _ => (St.ldsX hS (fun b o h => hx107.sub b o (hx98.sub b o h)) (fun _ h => (.tail _ (.tail _ h)))), ?_⟩
  refine d1 (i := 66) rfl (by kernel_rfl) (by kernel_rfl) (St.ldsX hS (fun b o h => hx107.sub b o (hx98.sub b o h)) (fun _ h => (.tail _ (.tail _ h)))) hF rfl (fun _ _ _ h => h) (fun w hl => (e_pickT hF rfl rfl)) fun a hF => ?_
  refine d1 (i := 67) rfl (by kernel_rfl) (by kernel_rfl) (St.ldsX hS (fun b o h => hx107.sub b o (hx98.sub b o h)) (fun _ h => (.tail _ (.tail _ h)))) hF rfl (fun _ _ _ h => h) (fun w hl => (e_as (e_move hF rfl) (congrArg Value.bool hb119))) fun a hF => ?_
  refine da1 (i := 68) (by kernel_rfl) ?_
  refine di (i := 68) rfl <| gy hF rfl rfl <| c1 hF rfl Tryd.call38 (leadlinelaw17_fixed_c (hp_le _) (Tab.mono (Tab.mono hT (fun b o h => (fun b o h => (fun b o h => (fun b o h => hx107.sub b o (hx98.sub b o h)) b o (hx61.sub b o h)) b o (hx25.sub b o h)) b o (hx16.sub b o h))) (St.up hS)) h121) trivial (fun v w a hR hF => ?_)
  obtain ⟨rfl, hk⟩ := hR
  replace hS := hS.pass hk
  clear hk
  refine ⟨fun _ => (St.ldsX hS (fun b o h => hx107.sub b o (hx98.sub b o h)) (fun _ h => (.tail _ (.tail _ h)))), ?_⟩
  refine d1 (i := 69) rfl (by kernel_rfl) (by kernel_rfl) (St.ldsX hS (fun b o h => hx107.sub b o (hx98.sub b o h)) (fun _ h => (.tail _ (.tail _ h)))) hF rfl (fun _ _ _ h => h) (fun w hl => (e_pickT hF rfl rfl)) fun a hF => ?_
  refine d1 (i := 70) rfl (by kernel_rfl) (by kernel_rfl) (St.ldsX hS (fun b o h => hx107.sub b o (hx98.sub b o h)) (fun _ h => (.tail _ (.tail _ h)))) hF rfl (fun _ _ _ h => h) (fun w hl => (e_asg hF rfl)) fun a hF => ?_
  refine de (by kernel_rfl) <| ?_
  refine tn <| ?_
  refine wp_ret <| ?_
  obtain rfl := Option.some.inj hm
  exact r1 hF Tryd.results7 rfl ⟨rfl, hS.keep⟩
end Go.LM.ET
