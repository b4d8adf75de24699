/- Walks, lifted by program. No condition beyond each theorem's own premises. -/
import Derived.Test.YtimaeihmnipfgaaDoorETQTraceOrder3
namespace Go.LM.ET
open Go Go.LL Go.MD Go.LM Go.Proofs Go.MD.ET

set_option maxRecDepth 100000 in
theorem leadlinelaw17_TraceOrder_c {N : Nat} {w0 : World} {H : PH} (hH : H.le w0) (hT : Tab H) {oa2 : Option Addr} {cap3 : Nat} {p1 : (List api_Event)} (hc4 : p1.length ≤ cap3) (hr5 : SR H oa2 p1) {p6 : Int} {p7 : Int} {r : Bool} (hm : leadlinelaw17_TraceOrder N p1 p6 p7 = some r) : Tot Tryd.prog 9 #[.slice oa2 p1.length cap3, .int .i64 p6, .int .i64 p7] w0 (fun v w' => v = .bool r ∧ Keep Nil w0 w') := by
  unfold leadlinelaw17_TraceOrder at hm
  refine fn0 (args := [.slice oa2 p1.length cap3, .int .i64 p6, .int .i64 p7]) (F := [(0, .slice oa2 p1.length cap3), (1, .int .i64 p6), (2, .int .i64 p7)]) Tryd.func9 rfl Tryd.ntmps9 rfl rfl fun a hF => ?_
  have hS : St w0 Nil [H] [] w0 := start1 hH
  refine th <| ?_
  refine rg <| ?_
  refine ls <| q1 hF rfl (e_asg hF rfl) fun a hF => ?_
  refine re <| ?_
  refine tn <| th <| ?_
  replace hm := bind_some hm
  obtain ⟨r8, h9, hm⟩ := hm
  refine rg <| ?_
  refine ls <| q1 hF rfl (e_move hF rfl) fun a hF => ?_
  refine ls <| c1 hF rfl Tryd.call39 (leadlinelaw17_threads_c (hp_le _) hc4 (St.srH hS hr5) h9) ⟨rfl, trivial⟩ (fun v w a hR hF => ?_)
  obtain ⟨oa10, cap11, vs12, rfl, hv13, hk⟩ := hR
  replace hS := hS.fresh hk
  clear hk
  replace hv13 := hv13 H
  refine ls <| q1 hF rfl (e_asg hF rfl) fun a hF => ?_
  refine re <| ?_
  refine tn <| th <| ?_
  refine rg <| ?_
  refine ls <| a_bsl (e := 3) (sz := 1) [.int .i64 0, .int .i64 0, .int .i64 1] hF rfl hS rfl rfl rfl (fun w => by kernel_rfl) fun b16 w a hS hF => ?_
  have hv15 : Rows (α := Int) H [.int .i64 0, .int .i64 0, .int .i64 1] ([0, 0, 1] : List Int) := (.cons (c := [.int .i64 0]) rfl (.cons (c := [.int .i64 0]) rfl (.cons (c := [.int .i64 1]) rfl .nil)))
  refine ls <| q1 hF rfl (e_asg hF rfl) fun a hF => ?_
  refine re <| ?_
  refine tn <| th <| th <| ?_
  refine rg <| ?_
  refine ls <| q1 hF rfl (e_move hF rfl) fun a hF => ?_
  refine ls <| q1 hF rfl (e_lenL (α := api_Event) (xs := r8) hF Tryd.runUnderlying39 rfl) fun a hF => ?_
  refine ls <| q1 hF rfl (e_lss hF rfl rfl) fun a hF => ?_
  refine re <| ?_
  rcases bdich (decide ((r8.length : Int) < 2)) with hb18 | hb18
  ·
    replace hm := itp_t hm hb18
    refine tn <| ctv hF rfl hb18 <| th <| ?_
    replace hm := bind_some hm
    obtain ⟨r19, h20, hm⟩ := hm
    refine rg <| ?_
    refine ls <| c1 hF rfl Tryd.call38 (leadlinelaw17_fixed_c (hp_le _) (Tab.mono hT (St.up hS)) h20) trivial (fun v w a hR hF => ?_)
    obtain ⟨rfl, hk⟩ := hR
    replace hS := hS.pass hk
    clear hk
    refine ls <| q1 hF rfl (e_asg hF rfl) fun a hF => ?_
    refine re <| ?_
    refine tn <| ?_
    refine wp_ret <| tr <| ?_
    obtain rfl := Option.some.inj hm
    exact r1 hF Tryd.results9 rfl ⟨rfl, hS.keep⟩
  ·
    replace hm := itp_f hm hb18
    refine tn <| cfv hF rfl hb18 <| wp_skip <| ?_
    refine tn <| th <| ?_
    replace hm := bind_some hm
    obtain ⟨x21, h22, hm⟩ := hm
    refine rg <| ?_
    refine ls <| q1 hF rfl (e_move hF rfl) fun a hF => ?_
    refine ls <| q1 hF rfl (e_band hF rfl rfl) fun a hF => ?_
    refine ls <| q1 hF rfl (e_move hF rfl) fun a hF => ?_
    refine ls <| q1 hF rfl (e_lenL (α := api_Event) (xs := r8) hF Tryd.runUnderlying39 rfl) fun a hF => ?_
    refine ls <| q1 hF rfl (e_sub hF rfl rfl) fun a hF => ?_
    refine ls <| q1 hF rfl (e_remI hF rfl rfl h22) fun a hF => ?_
    refine ls <| q1 hF rfl (e_asg hF rfl) fun a hF => ?_
    refine re <| ?_
    refine tn <| th <| th <| midK (fun a w => ∃ (vA2 : Bool) (HA1 : PH), (leadlinelaw17_TraceOrder_j1 N p7 r8 x21) vA2 = some r ∧ Ext w0 H HA1 ∧ Fr 107 [(0, .slice oa10 r8.length cap11), (2, .int .i64 p7), (7, .slice (some ⟨b16, 0, none⟩) ([0, 0, 1] : List Int).length 3), (8, .int .i64 x21), (49, .bool vA2)] a ∧ St w0 Nil [HA1] [sla 23 5 oa10 r8.length cap11 vs12, sla 3 1 (some ⟨b16, 0, none⟩) ([0, 0, 1] : List Int).length 3 [.int .i64 0, .int .i64 0, .int .i64 1]] w) ?_ ?_
    ·
      replace hm := bind_some hm
      obtain ⟨x23, h24, hm⟩ := hm
      have ho25 := Rd.oaI (hS.rdO (.tail _ (.head _))) hv13 (by decide) h24
      obtain ⟨c26, g27, hl28⟩ := Rows.getI hv13 h24
      obtain rfl := api_Event_open g27
      replace hm := bind_some hm
      obtain ⟨x29, h30, hm⟩ := hm
      have ho31 := Rd.oaI (hS.rdO (.tail _ (.head _))) hv13 (by decide) h30
      obtain ⟨c32, g33, hl34⟩ := Rows.getI hv13 h30
      obtain rfl := api_Event_open g33
      replace hm := bind_some hm
      obtain ⟨r35, h36, hm⟩ := hm
      rcases bdich r35 with hb37 | hb37
      ·
        replace hm := ite_t hm hb37
        have hb37' : (!r35) = false := by rw [hb37]; rfl
        have ho38 := Rd.oaI (hS.rdO (.tail _ (.head _))) hv13 (by decide) h24
        have ho39 := Rd.oaI (hS.rdO (.tail _ (.head _))) hv13 (by decide) h30
        refine rdS 25 hS wide fun w hS => ?_
        refine d1 (i := 0) rfl (by kernel_rfl) (by kernel_rfl) (St.ld hS) hF rfl (fun _ _ _ h => h) (fun w hl => (e_move hF rfl)) fun a hF => ?_
        refine d1 (i := 1) rfl (by kernel_rfl) (by kernel_rfl) (St.ld hS) hF rfl (fun _ _ _ h => h) (fun w hl => (e_move hF rfl)) fun a hF => ?_
        refine d1 (i := 2) rfl (by kernel_rfl) (by kernel_rfl) (St.ld hS) hF rfl (fun _ _ _ h => h) (fun w hl => (e_iaI hF Tryd.runUnderlying39 Tryd.sizeOf23 rfl rfl h24 ho25)) fun a hF => ?_
        refine d1 (i := 3) rfl (by kernel_rfl) (by kernel_rfl) (St.ld hS) hF rfl (fun _ _ _ h => h) (fun w hl => (e_ldA hF Tryd.isAgg23 Tryd.sizeOf23 rfl rfl (hl.elsO (.tail _ (.head _)) hl28))) fun a hF => ?_
        refine d1 (i := 4) rfl (by kernel_rfl) (by kernel_rfl) (St.ld hS) hF rfl (fun _ _ _ h => h) (fun w hl => (e_move hF rfl)) fun a hF => ?_
        refine d1 (i := 5) rfl (by kernel_rfl) (by kernel_rfl) (St.ld hS) hF rfl (fun _ _ _ h => h) (fun w hl => (e_move hF rfl)) fun a hF => ?_
        refine d1 (i := 6) rfl (by kernel_rfl) (by kernel_rfl) (St.ld hS) hF rfl (fun _ _ _ h => h) (fun w hl => (e_add hF rfl rfl)) fun a hF => ?_
        refine d1 (i := 7) rfl (by kernel_rfl) (by kernel_rfl) (St.ld hS) hF rfl (fun _ _ _ h => h) (fun w hl => (e_iaI hF Tryd.runUnderlying39 Tryd.sizeOf23 rfl rfl h30 ho31)) fun a hF => ?_
        refine d1 (i := 8) rfl (by kernel_rfl) (by kernel_rfl) (St.ld hS) hF rfl (fun _ _ _ h => h) (fun w hl => (e_ldA hF Tryd.isAgg23 Tryd.sizeOf23 rfl rfl (hl.elsO (.tail _ (.head _)) hl34))) fun a hF => ?_
        refine d1 (i := 9) rfl (by kernel_rfl) (by kernel_rfl) (St.ld hS) hF rfl (fun _ _ _ h => h) (fun w hl => (e_move hF rfl)) fun a hF => ?_
        refine d1 (i := 10) rfl (by kernel_rfl) (by kernel_rfl) (St.ld hS) hF rfl (fun _ _ _ h => h) (fun w hl => (e_move hF rfl)) fun a hF => ?_
        refine da1 (i := 11) (by kernel_rfl) ?_
        refine di (i := 11) rfl <| c1 hF rfl Tryd.call17 (leadlineref15_Depend_c (hp_le _) (St.capO hS (.head _)) (St.srO hS (.head _) hv15) h36) ⟨rfl, rfl, rfl, rfl, trivial⟩ (fun v w a hR hF => ?_)
        obtain ⟨rfl, hk⟩ := hR
        replace hS := hS.pass hk
        clear hk
        refine ⟨fun _ => (St.ld hS), ?_⟩
        refine d1 (i := 12) rfl (by kernel_rfl) (by kernel_rfl) (St.ld hS) hF rfl (fun _ _ _ h => h) (fun w hl => (e_not hF rfl)) fun a hF => ?_
        refine d1 (i := 13) rfl (by kernel_rfl) (by kernel_rfl) (St.ld hS) hF rfl (fun _ _ _ h => h) (fun w hl => (e_as (e_move hF rfl) (congrArg Value.bool hb37'))) fun a hF => ?_
        refine d1g (i := 14) rfl (by kernel_rfl) (by kernel_rfl) (St.ld hS) hF rfl rfl rfl (fun _ _ _ h => h) (fun w hl => (e_move hF rfl)) fun a hF => ?_
        refine d1g (i := 15) rfl (by kernel_rfl) (by kernel_rfl) (St.ld hS) hF rfl rfl rfl (fun _ _ _ h => h) (fun w hl => (e_move hF rfl)) fun a hF => ?_
        refine d1g (i := 16) rfl (by kernel_rfl) (by kernel_rfl) (St.ld hS) hF rfl rfl rfl (fun _ _ _ h => h) (fun w hl => (e_iaI hF Tryd.runUnderlying39 Tryd.sizeOf23 rfl rfl h24 ho38)) fun a hF => ?_
        refine d1g (i := 17) rfl (by kernel_rfl) (by kernel_rfl) (St.ld hS) hF rfl rfl rfl (fun _ _ _ h => h) (fun w hl => (e_ldA hF Tryd.isAgg23 Tryd.sizeOf23 rfl rfl (hl.elsO (.tail _ (.head _)) hl28))) fun a hF => ?_
        refine d1g (i := 18) rfl (by kernel_rfl) (by kernel_rfl) (St.ld hS) hF rfl rfl rfl (fun _ _ _ h => h) (fun w hl => (e_move hF rfl)) fun a hF => ?_
        refine d1g (i := 19) rfl (by kernel_rfl) (by kernel_rfl) (St.ld hS) hF rfl rfl rfl (fun _ _ _ h => h) (fun w hl => (e_move hF rfl)) fun a hF => ?_
        refine d1g (i := 20) rfl (by kernel_rfl) (by kernel_rfl) (St.ld hS) hF rfl rfl rfl (fun _ _ _ h => h) (fun w hl => (e_add hF rfl rfl)) fun a hF => ?_
        refine d1g (i := 21) rfl (by kernel_rfl) (by kernel_rfl) (St.ld hS) hF rfl rfl rfl (fun _ _ _ h => h) (fun w hl => (e_iaI hF Tryd.runUnderlying39 Tryd.sizeOf23 rfl rfl h30 ho39)) fun a hF => ?_
        refine d1g (i := 22) rfl (by kernel_rfl) (by kernel_rfl) (St.ld hS) hF rfl rfl rfl (fun _ _ _ h => h) (fun w hl => (e_ldA hF Tryd.isAgg23 Tryd.sizeOf23 rfl rfl (hl.elsO (.tail _ (.head _)) hl34))) fun a hF => ?_
        refine d1g (i := 23) rfl (by kernel_rfl) (by kernel_rfl) (St.ld hS) hF rfl rfl rfl (fun _ _ _ h => h) (fun w hl => (api_Event_eql (x := x23) (y := x29) hF rfl rfl)) fun a hF => ?_
        refine d1 (i := 24) rfl (by kernel_rfl) (by kernel_rfl) (St.ld hS) hF rfl (fun _ _ _ h => h) (fun w hl => (e_pickF hF rfl rfl)) fun a hF => ?_
        refine de (by kernel_rfl) <| ?_
        refine tn <| ?_
        replace hS := hS.pickL (.cons (.tail .head) (.cons .head .nil))
        exact ⟨(decide (x23 = x29)), H, hm, (Ext.refl _ _), hF.has ⟨rfl, rfl, rfl, rfl, rfl, trivial⟩, hS⟩
      ·
        replace hm := ite_f hm hb37
        have hb37' : (!r35) = true := by rw [hb37]; rfl
        refine rdS 25 hS wide fun w hS => ?_
        refine d1 (i := 0) rfl (by kernel_rfl) (by kernel_rfl) (St.ld hS) hF rfl (fun _ _ _ h => h) (fun w hl => (e_move hF rfl)) fun a hF => ?_
        refine d1 (i := 1) rfl (by kernel_rfl) (by kernel_rfl) (St.ld hS) hF rfl (fun _ _ _ h => h) (fun w hl => (e_move hF rfl)) fun a hF => ?_
        refine d1 (i := 2) rfl (by kernel_rfl) (by kernel_rfl) (St.ld hS) hF rfl (fun _ _ _ h => h) (fun w hl => (e_iaI hF Tryd.runUnderlying39 Tryd.sizeOf23 rfl rfl h24 ho25)) fun a hF => ?_
        refine d1 (i := 3) rfl (by kernel_rfl) (by kernel_rfl) (St.ld hS) hF rfl (fun _ _ _ h => h) (fun w hl => (e_ldA hF Tryd.isAgg23 Tryd.sizeOf23 rfl rfl (hl.elsO (.tail _ (.head _)) hl28))) fun a hF => ?_
        refine d1 (i := 4) rfl (by kernel_rfl) (by kernel_rfl) (St.ld hS) hF rfl (fun _ _ _ h => h) (fun w hl => (e_move hF rfl)) fun a hF => ?_
        refine d1 (i := 5) rfl (by kernel_rfl) (by kernel_rfl) (St.ld hS) hF rfl (fun _ _ _ h => h) (fun w hl => (e_move hF rfl)) fun a hF => ?_
        refine d1 (i := 6) rfl (by kernel_rfl) (by kernel_rfl) (St.ld hS) hF rfl (fun _ _ _ h => h) (fun w hl => (e_add hF rfl rfl)) fun a hF => ?_
        refine d1 (i := 7) rfl (by kernel_rfl) (by kernel_rfl) (St.ld hS) hF rfl (fun _ _ _ h => h) (fun w hl => (e_iaI hF Tryd.runUnderlying39 Tryd.sizeOf23 rfl rfl h30 ho31)) fun a hF => ?_
        refine d1 (i := 8) rfl (by kernel_rfl) (by kernel_rfl) (St.ld hS) hF rfl (fun _ _ _ h => h) (fun w hl => (e_ldA hF Tryd.isAgg23 Tryd.sizeOf23 rfl rfl (hl.elsO (.tail _ (.head _)) hl34))) fun a hF => ?_
        refine d1 (i := 9) rfl (by kernel_rfl) (by kernel_rfl) (St.ld hS) hF rfl (fun _ _ _ h => h) (fun w hl => (e_move hF rfl)) fun a hF => ?_
        refine d1 (i := 10) rfl (by kernel_rfl) (by kernel_rfl) (St.ld hS) hF rfl (fun _ _ _ h => h) (fun w hl => (e_move hF rfl)) fun a hF => ?_
        refine da1 (i := 11) (by kernel_rfl) ?_
        refine di (i := 11) rfl <| c1 hF rfl Tryd.call17 (leadlineref15_Depend_c (hp_le _) (St.capO hS (.head _)) (St.srO hS (.head _) hv15) h36) ⟨rfl, rfl, rfl, rfl, trivial⟩ (fun v w a hR hF => ?_)
        obtain ⟨rfl, hk⟩ := hR
        replace hS := hS.pass hk
        clear hk
        refine ⟨fun _ => (St.ld hS), ?_⟩
        refine d1 (i := 12) rfl (by kernel_rfl) (by kernel_rfl) (St.ld hS) hF rfl (fun _ _ _ h => h) (fun w hl => (e_not hF rfl)) fun a hF => ?_
        refine d1 (i := 13) rfl (by kernel_rfl) (by kernel_rfl) (St.ld hS) hF rfl (fun _ _ _ h => h) (fun w hl => (e_as (e_move hF rfl) (congrArg Value.bool hb37'))) fun a hF => ?_
        refine d1n (i := 14) rfl (by kernel_rfl) (by kernel_rfl) (St.ld hS) hF rfl rfl rfl rfl (fun _ _ _ h => h) fun a hF => ?_
        refine d1n (i := 15) rfl (by kernel_rfl) (by kernel_rfl) (St.ld hS) hF rfl rfl rfl rfl (fun _ _ _ h => h) fun a hF => ?_
        refine d1n (i := 16) rfl (by kernel_rfl) (by kernel_rfl) (St.ld hS) hF rfl rfl rfl rfl (fun _ _ _ h => h) fun a hF => ?_
        refine d1n (i := 17) rfl (by kernel_rfl) (by kernel_rfl) (St.ld hS) hF rfl rfl rfl rfl (fun _ _ _ h => h) fun a hF => ?_
        refine d1n (i := 18) rfl (by kernel_rfl) (by kernel_rfl) (St.ld hS) hF rfl rfl rfl rfl (fun _ _ _ h => h) fun a hF => ?_
        refine d1n (i := 19) rfl (by kernel_rfl) (by kernel_rfl) (St.ld hS) hF rfl rfl rfl rfl (fun _ _ _ h => h) fun a hF => ?_
        refine d1n (i := 20) rfl (by kernel_rfl) (by kernel_rfl) (St.ld hS) hF rfl rfl rfl rfl (fun _ _ _ h => h) fun a hF => ?_
        refine d1n (i := 21) rfl (by kernel_rfl) (by kernel_rfl) (St.ld hS) hF rfl rfl rfl rfl (fun _ _ _ h => h) fun a hF => ?_
        refine d1n (i := 22) rfl (by kernel_rfl) (by kernel_rfl) (St.ld hS) hF rfl rfl rfl rfl (fun _ _ _ h => h) fun a hF => ?_
        refine d1n (i := 23) rfl (by kernel_rfl) (by kernel_rfl) (St.ld hS) hF rfl rfl rfl rfl (fun _ _ _ h => h) fun a hF => ?_
        refine d1 (i := 24) rfl (by kernel_rfl) (by kernel_rfl) (St.ld hS) hF rfl (fun _ _ _ h => h) (fun w hl => (e_pickT hF rfl rfl)) fun a hF => ?_
        refine de (by kernel_rfl) <| ?_
        refine tn <| ?_
        replace hS := hS.pickL (.cons (.tail .head) (.cons .head .nil))
        exact ⟨true, H, hm, (Ext.refl _ _), hF.has ⟨rfl, rfl, rfl, rfl, rfl, trivial⟩, hS⟩
    clear hm hF hS
    rintro a w ⟨vA2, HA1, hm, hxHA1, hF, hS⟩
    unfold leadlinelaw17_TraceOrder_j1 at hm
    rcases bdich vA2 with hb40 | hb40
    ·
      replace hm := ite_t hm hb40
      refine ctv hF rfl hb40 <| th <| ?_
      replace hm := bind_some hm
      obtain ⟨r41, h42, hm⟩ := hm
      refine rg <| ?_
      refine ls <| c1 hF rfl Tryd.call38 (leadlinelaw17_fixed_c (hp_le _) (Tab.mono (Tab.mono hT hxHA1.sub) (St.up hS)) h42) trivial (fun v w a hR hF => ?_)
      obtain ⟨rfl, hk⟩ := hR
      replace hS := hS.pass hk
      clear hk
      refine ls <| q1 hF rfl (e_asg hF rfl) fun a hF => ?_
      refine re <| ?_
      refine tn <| ?_
      refine wp_ret <| tr <| ?_
      obtain rfl := Option.some.inj hm
      exact r1 hF Tryd.results9 rfl ⟨rfl, hS.keep⟩
    ·
      replace hm := ite_f hm hb40
      refine cfv hF rfl hb40 <| wp_skip <| ?_
      refine tn <| th <| ?_
      obtain ⟨H49, hx46, hr47, hc48, hS⟩ := St.frzS hS .head (hv13.mono hxHA1.sub)
      replace hm := bind_some hm
      obtain ⟨l50, h51, hm⟩ := hm
      obtain ⟨oa52, cap53, e54, e55, hc56, hr57⟩ := SR.sub (sz := 5) hr47 hc48 rfl h51
      replace hm := bind_some hm
      obtain ⟨l58, h59, hm⟩ := hm
      refine rg <| ?_
      refine ls <| a_bsl (e := 23) (sz := 5) [] hF rfl hS rfl rfl rfl (fun w => by kernel_rfl) fun b44 w a hS hF => ?_
      have hv43 : Rows (α := api_Event) HA1 [] [] := .nil
      refine ls <| q1 hF rfl (e_move hF rfl) fun a hF => ?_
      refine ls <| q1 hF rfl (e_move hF rfl) fun a hF => ?_
      refine ls <| q1 hF rfl (e_subL (xs := r8) (vl := 0) (vh := x21) hF Tryd.runUnderlying39 Tryd.sizeOf23 rfl hc48 rfl rfl h51 e54 e55) fun a hF => ?_
      obtain ⟨us64, hd65, hu66⟩ := id hr57
      refine ls <| m_app (α := api_Event) (xs := []) (ys := l50) hF rfl hS Tryd.underlying39 info23 rfl (by decide) rfl rfl rfl (.head _) (hv43.mono hx46.sub) (hS.rdH (.head _) hd65) hu66 h59 fun oa60 cap61 vs62 w a hv63 hU hF => ?_
      replace hS := hU _ .head
      clear hU
      refine ls <| q1 hF rfl (e_asg hF rfl) fun a hF => ?_
      refine re <| ?_
      refine tn <| th <| ?_
      replace hm := bind_some hm
      obtain ⟨x67, h68, hm⟩ := hm
      obtain ⟨c69, g70, hl71⟩ := SR.get hr47 h68
      obtain rfl := api_Event_open g70
      replace hm := bind_some hm
      obtain ⟨x72, h73, hm⟩ := hm
      obtain ⟨c74, g75, hl76⟩ := SR.get hr47 h73
      obtain rfl := api_Event_open g75
      replace hm := bind_some hm
      obtain ⟨l80, h81, hm⟩ := hm
      refine rdL (sub_cons (.tail _ (.head _)) sub_nil) 13 hS wide fun w hS => ?_
      refine d1 (i := 0) rfl (by kernel_rfl) (by kernel_rfl) (St.ldsX hS (fun _ _ h => h) (fun _ h => (.tail _ h))) hF rfl (fun _ _ _ h => h) (fun w hl => (e_move hF rfl)) fun a hF => ?_
      refine d1 (i := 1) rfl (by kernel_rfl) (by kernel_rfl) (St.ldsX hS (fun _ _ h => h) (fun _ h => (.tail _ h))) hF rfl (fun _ _ _ h => h) (fun w hl => (e_move hF rfl)) fun a hF => ?_
      refine d1 (i := 2) rfl (by kernel_rfl) (by kernel_rfl) (St.ldsX hS (fun _ _ h => h) (fun _ h => (.tail _ h))) hF rfl (fun _ _ _ h => h) (fun w hl => (e_move hF rfl)) fun a hF => ?_
      refine d1 (i := 3) rfl (by kernel_rfl) (by kernel_rfl) (St.ldsX hS (fun _ _ h => h) (fun _ h => (.tail _ h))) hF rfl (fun _ _ _ h => h) (fun w hl => (e_add hF rfl rfl)) fun a hF => ?_
      refine d1 (i := 4) rfl (by kernel_rfl) (by kernel_rfl) (St.ldsX hS (fun _ _ h => h) (fun _ h => (.tail _ h))) hF rfl (fun _ _ _ h => h) (fun w hl => (e_iaI hF Tryd.runUnderlying39 Tryd.sizeOf23 rfl rfl h68 (SR.oaI hr47 (by decide) h68))) fun a hF => ?_
      refine d1 (i := 5) rfl (by kernel_rfl) (by kernel_rfl) (St.ldsX hS (fun _ _ h => h) (fun _ h => (.tail _ h))) hF rfl (fun _ _ _ h => h) (fun w hl => (e_ldA hF Tryd.isAgg23 Tryd.sizeOf23 rfl rfl (fun j v hj => PH.le.cell (Lds.le hl) (hl71 j v hj)))) fun a hF => ?_
      refine d1 (i := 6) rfl (by kernel_rfl) (by kernel_rfl) (St.ldsX hS (fun _ _ h => h) (fun _ h => (.tail _ h))) hF rfl (fun _ _ _ h => h) (fun w hl => (e_move hF rfl)) fun a hF => ?_
      refine d1 (i := 7) rfl (by kernel_rfl) (by kernel_rfl) (St.ldsX hS (fun _ _ h => h) (fun _ h => (.tail _ h))) hF rfl (fun _ _ _ h => h) (fun w hl => (e_move hF rfl)) fun a hF => ?_
      refine d1 (i := 8) rfl (by kernel_rfl) (by kernel_rfl) (St.ldsX hS (fun _ _ h => h) (fun _ h => (.tail _ h))) hF rfl (fun _ _ _ h => h) (fun w hl => (e_iaI hF Tryd.runUnderlying39 Tryd.sizeOf23 rfl rfl h73 (SR.oaI hr47 (by decide) h73))) fun a hF => ?_
      refine d1 (i := 9) rfl (by kernel_rfl) (by kernel_rfl) (St.ldsX hS (fun _ _ h => h) (fun _ h => (.tail _ h))) hF rfl (fun _ _ _ h => h) (fun w hl => (e_ldA hF Tryd.isAgg23 Tryd.sizeOf23 rfl rfl (fun j v hj => PH.le.cell (Lds.le hl) (hl76 j v hj)))) fun a hF => ?_
      refine da1 (i := 10) (by kernel_rfl) ?_
      refine di (i := 10) rfl <| a_bsl (e := 23) (sz := 5) [.int .i64 x67.Kind, .int .i64 x67.T, .int .i64 x67.A, .int .i64 x67.N, .int .i64 x67.M, .int .i64 x72.Kind, .int .i64 x72.T, .int .i64 x72.A, .int .i64 x72.N, .int .i64 x72.M] hF rfl hS rfl rfl rfl (fun w => by kernel_rfl) fun b78 w a hS hF => ?_
      have hv77 : Rows (α := api_Event) H49 [.int .i64 x67.Kind, .int .i64 x67.T, .int .i64 x67.A, .int .i64 x67.N, .int .i64 x67.M, .int .i64 x72.Kind, .int .i64 x72.T, .int .i64 x72.A, .int .i64 x72.N, .int .i64 x72.M] ([x67, x72] : List api_Event) := (.cons (c := [.int .i64 x67.Kind, .int .i64 x67.T, .int .i64 x67.A, .int .i64 x67.N, .int .i64 x67.M]) ⟨_, _, rfl, rfl, ⟨_, _, rfl, rfl, ⟨_, _, rfl, rfl, ⟨_, _, rfl, rfl, rfl⟩⟩⟩⟩ (.cons (c := [.int .i64 x72.Kind, .int .i64 x72.T, .int .i64 x72.A, .int .i64 x72.N, .int .i64 x72.M]) ⟨_, _, rfl, rfl, ⟨_, _, rfl, rfl, ⟨_, _, rfl, rfl, ⟨_, _, rfl, rfl, rfl⟩⟩⟩⟩ .nil))
      refine ⟨fun _ => (St.ldsX hS (fun _ _ h => h) (fun _ h => (.tail _ (.tail _ h)))), ?_⟩
      refine da1 (i := 11) (by kernel_rfl) ?_
      refine di (i := 11) rfl <| m_app (α := api_Event) (xs := l58) (ys := ([x67, x72] : List api_Event)) hF rfl hS Tryd.underlying39 info23 rfl (by decide) rfl rfl rfl (.tail _ (.head _)) hv63 (hS.rdO (.head _)) hv77 h81 fun oa82 cap83 vs84 w a hv85 hU hF => ?_
      replace hS := hU _ (.tail .head)
      clear hU
      replace hS := hS.drop .head
      refine ⟨fun _ => (St.ldsX hS (fun _ _ h => h) (fun _ h => (.tail _ h))), ?_⟩
      refine d1 (i := 12) rfl (by kernel_rfl) (by kernel_rfl) (St.ldsX hS (fun _ _ h => h) (fun _ h => (.tail _ h))) hF rfl (fun _ _ _ h => h) (fun w hl => (e_asg hF rfl)) fun a hF => ?_
      refine de (by kernel_rfl) <| ?_
      refine tn <| th <| ?_
      replace hm := bind_some hm
      obtain ⟨l86, h87, hm⟩ := hm
      obtain ⟨oa88, cap89, e90, e91, hc92, hr93⟩ := SR.sub (sz := 5) hr47 hc48 rfl h87
      replace hm := bind_some hm
      obtain ⟨l94, h95, hm⟩ := hm
      refine rg <| ?_
      refine ls <| q1 hF rfl (e_move hF rfl) fun a hF => ?_
      refine ls <| q1 hF rfl (e_move hF rfl) fun a hF => ?_
      refine ls <| q1 hF rfl (e_move hF rfl) fun a hF => ?_
      refine ls <| q1 hF rfl (e_add hF rfl rfl) fun a hF => ?_
      refine ls <| q1 hF rfl (e_subL (xs := r8) (vl := (IntKind.i64.wrap (x21 + 2))) (vh := (r8.length : Int)) hF Tryd.runUnderlying39 Tryd.sizeOf23 rfl hc48 rfl rfl h87 e90 e91) fun a hF => ?_
      obtain ⟨us100, hd101, hu102⟩ := id hr93
      refine ls <| m_app (α := api_Event) (xs := l80) (ys := l86) hF rfl hS Tryd.underlying39 info23 rfl (by decide) rfl rfl rfl (.head _) hv85 (hS.rdH (.head _) hd101) hu102 h95 fun oa96 cap97 vs98 w a hv99 hU hF => ?_
      replace hS := hU _ .head
      clear hU
      refine ls <| q1 hF rfl (e_asg hF rfl) fun a hF => ?_
      refine re <| ?_
      refine tn <| th <| ?_
      replace hm := bind_some hm
      obtain ⟨r103, h104, hm⟩ := hm
      refine rg <| ?_
      refine ls <| q1 hF rfl (e_move hF rfl) fun a hF => ?_
      refine ls <| q1 hF rfl (e_move hF rfl) fun a hF => ?_
      refine ls <| q1 hF rfl (e_move hF rfl) fun a hF => ?_
      refine ls <| q1 hF rfl (e_move hF rfl) fun a hF => ?_
      refine ls <| c1 hF rfl Tryd.call26 (trace_Swap_c (hp_le _) hc48 (St.srH hS hr47) (St.capO hS (.tail _ (.head _))) (St.srO hS (.tail _ (.head _)) (hv15.mono (fun b o h => hx46.sub b o (hxHA1.sub b o h)))) h104) ⟨rfl, rfl, rfl, rfl, trivial⟩ (fun v w a hR hF => ?_)
      obtain ⟨oa105, cap106, vs107, rfl, hv108, hk⟩ := hR
      replace hS := hS.fresh hk
      clear hk
      replace hv108 := hv108 H49
      refine ls <| q1 hF rfl (e_move hF rfl) fun a hF => ?_
      refine ls <| q1 hF rfl (e_ext hF rfl rfl) fun a hF => ?_
      refine ls <| q1 hF rfl (e_ext hF rfl rfl) fun a hF => ?_
      refine ls <| q1 hF rfl (e_asg hF rfl) fun a hF => ?_
      refine ls <| q1 hF rfl (e_asg hF rfl) fun a hF => ?_
      refine re <| ?_
      refine tn <| th <| ?_
      replace hm := bind_some hm
      obtain ⟨_, hb110, hm⟩ := hm
      replace hb110 := sure_some hb110
      replace hm := bind_some hm
      obtain ⟨r111, h112, hm⟩ := hm
      replace hm := bind_some hm
      obtain ⟨_, hb113, hm⟩ := hm
      replace hb113 := sure_some hb113
      replace hm := bind_some hm
      obtain ⟨r114, h115, hm⟩ := hm
      replace hm := bind_some hm
      obtain ⟨r121, h122, hm⟩ := hm
      replace hm := bind_some hm
      obtain ⟨r128, h129, hm⟩ := hm
      replace hm := bind_some hm
      obtain ⟨_, hb130, hm⟩ := hm
      replace hb130 := sure_some hb130
      replace hm := bind_some hm
      obtain ⟨r131, h132, hm⟩ := hm
      refine rg <| ?_
      refine ls <| q1 hF rfl (e_move hF rfl) fun a hF => ?_
      refine ls <| q1 hF rfl (e_not hF rfl) fun a hF => ?_
      refine ls <| q1 hF rfl (e_as (e_move hF rfl) (congrArg Value.bool hb110)) fun a hF => ?_
      refine ls <| gy hF rfl rfl <| q1 hF rfl (e_move hF rfl) fun a hF => ?_
      refine ls <| gy hF rfl rfl <| q1 hF rfl (e_move hF rfl) fun a hF => ?_
      refine ls <| gy hF rfl rfl <| q1 hF rfl (e_move hF rfl) fun a hF => ?_
      refine ls <| gy hF rfl rfl <| q1 hF rfl (e_move hF rfl) fun a hF => ?_
      refine ls <| gy hF rfl rfl <| c1 hF rfl Tryd.call31 (trace_Same_c (hp_le _) hc48 (St.srH hS hr47) (St.capO hS (.tail _ (.head _))) (St.srO hS (.tail _ (.head _)) hv99) (St.capO hS (.tail _ (.tail _ (.head _)))) (St.srO hS (.tail _ (.tail _ (.head _))) (hv15.mono (fun b o h => hx46.sub b o (hxHA1.sub b o h)))) h112) ⟨rfl, rfl, rfl, rfl, trivial⟩ (fun v w a hR hF => ?_)
      obtain ⟨rfl, hk⟩ := hR
      replace hS := hS.pass hk
      clear hk
      refine ls <| gy hF rfl rfl <| q1 hF rfl (e_not hF rfl) fun a hF => ?_
      refine ls <| q1 hF rfl (e_pickT hF rfl rfl) fun a hF => ?_
      refine ls <| q1 hF rfl (e_as (e_move hF rfl) (congrArg Value.bool hb113)) fun a hF => ?_
      refine ls <| gy hF rfl rfl <| q1 hF rfl (e_move hF rfl) fun a hF => ?_
      refine ls <| gy hF rfl rfl <| q1 hF rfl (e_move hF rfl) fun a hF => ?_
      refine ls <| gy hF rfl rfl <| q1 hF rfl (e_move hF rfl) fun a hF => ?_
      refine ls <| gy hF rfl rfl <| c1 hF rfl Tryd.call29 (trace_Form_c (hp_le _) hc48 (St.srH hS hr47) (St.capO hS (.tail _ (.tail _ (.head _)))) (St.srO hS (.tail _ (.tail _ (.head _))) (hv15.mono (fun b o h => hx46.sub b o (hxHA1.sub b o h)))) h115) ⟨rfl, rfl, rfl, trivial⟩ (fun v w a hR hF => ?_)
      obtain ⟨oa116, cap117, vs118, rfl, hv119, hk⟩ := hR
      replace hS := hS.fresh hk
      clear hk
      replace hv119 := hv119 H49
      refine ls <| gy hF rfl rfl <| q1 hF rfl (e_move hF rfl) fun a hF => ?_
      refine ls <| gy hF rfl rfl <| q1 hF rfl (e_move hF rfl) fun a hF => ?_
      refine ls <| gy hF rfl rfl <| q1 hF rfl (e_move hF rfl) fun a hF => ?_
      refine ls <| gy hF rfl rfl <| c1 hF rfl Tryd.call29 (trace_Form_c (hp_le _) (St.capO hS (.tail _ (.tail _ (.head _)))) (St.srO hS (.tail _ (.tail _ (.head _))) hv99) (St.capO hS (.tail _ (.tail _ (.tail _ (.head _))))) (St.srO hS (.tail _ (.tail _ (.tail _ (.head _)))) (hv15.mono (fun b o h => hx46.sub b o (hxHA1.sub b o h)))) h122) ⟨rfl, rfl, rfl, trivial⟩ (fun v w a hR hF => ?_)
      obtain ⟨oa123, cap124, vs125, rfl, hv126, hk⟩ := hR
      replace hS := hS.fresh hk
      clear hk
      replace hv126 := hv126 H49
      refine ls <| gy hF rfl rfl <| c1 hF rfl Tryd.call28 (leadlineref17_Equal_c (hp_le _) (St.capO hS (.tail _ (.head _))) (St.srO hS (.tail _ (.head _)) hv119) (St.capO hS (.head _)) (St.srO hS (.head _) hv126) h129) ⟨rfl, rfl, trivial⟩ (fun v w a hR hF => ?_)
      obtain ⟨rfl, hk⟩ := hR
      replace hS := hS.pass hk
      clear hk
      refine ls <| gy hF rfl rfl <| q1 hF rfl (e_not hF rfl) fun a hF => ?_
      refine ls <| q1 hF rfl (e_pickT hF rfl rfl) fun a hF => ?_
      refine ls <| q1 hF rfl (e_as (e_move hF rfl) (congrArg Value.bool hb130)) fun a hF => ?_
      refine ls <| gy hF rfl rfl <| c1 hF rfl Tryd.call38 (leadlinelaw17_fixed_c (hp_le _) (Tab.mono (Tab.mono hT (fun b o h => hx46.sub b o (hxHA1.sub b o h))) (St.up hS)) h132) trivial (fun v w a hR hF => ?_)
      obtain ⟨rfl, hk⟩ := hR
      replace hS := hS.pass hk
      clear hk
      refine ls <| q1 hF rfl (e_pickT hF rfl rfl) fun a hF => ?_
      refine ls <| q1 hF rfl (e_asg hF rfl) fun a hF => ?_
      refine re <| ?_
      refine tn <| ?_
      refine wp_ret <| ?_
      obtain rfl := Option.some.inj hm
      exact r1 hF Tryd.results9 rfl ⟨rfl, hS.keep⟩
end Go.LM.ET
