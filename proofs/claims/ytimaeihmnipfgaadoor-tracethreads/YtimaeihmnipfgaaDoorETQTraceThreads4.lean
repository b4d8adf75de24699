/- Walks, lifted by program. No condition beyond each theorem's own premises. -/
import Derived.Test.YtimaeihmnipfgaaDoorETQTraceThreads3
namespace Go.LM.ET
open Go Go.LL Go.MD Go.LM Go.Proofs Go.MD.ET

set_option maxRecDepth 100000 in
theorem leadlinelaw17_TraceThreads_c {N : Nat} {w0 : World} {H : PH} (hH : H.le w0) (hT : Tab H) {oa2 : Option Addr} {cap3 : Nat} {p1 : (List api_Event)} (hc4 : p1.length ≤ cap3) (hr5 : SR H oa2 p1) {p6 : Int} {r : Bool} (hm : leadlinelaw17_TraceThreads N p1 p6 = some r) : Tot Tryd.prog 12 #[.slice oa2 p1.length cap3, .int .i64 p6] w0 (fun v w' => v = .bool r ∧ Keep Nil w0 w') := by
  unfold leadlinelaw17_TraceThreads at hm
  refine fn0 (args := [.slice oa2 p1.length cap3, .int .i64 p6]) (F := [(0, .slice oa2 p1.length cap3), (1, .int .i64 p6)]) Tryd.func12 rfl Tryd.ntmps12 rfl rfl fun a hF => ?_
  have hS : St w0 Nil [H] [] w0 := start1 hH
  refine th <| ?_
  refine rg <| ?_
  refine ls <| q1 hF rfl (e_asg hF rfl) fun a hF => ?_
  refine re <| ?_
  refine tn <| th <| ?_
  replace hm := bind_some hm
  obtain ⟨r7, h8, hm⟩ := hm
  refine rg <| ?_
  refine ls <| q1 hF rfl (e_move hF rfl) fun a hF => ?_
  refine ls <| c1 hF rfl Tryd.call39 (leadlinelaw17_threads_c (hp_le _) hc4 (St.srH hS hr5) h8) ⟨rfl, trivial⟩ (fun v w a hR hF => ?_)
  obtain ⟨oa9, cap10, vs11, rfl, hv12, hk⟩ := hR
  replace hS := hS.fresh hk
  clear hk
  replace hv12 := hv12 H
  refine ls <| q1 hF rfl (e_asg hF rfl) fun a hF => ?_
  refine re <| ?_
  refine tn <| th <| ?_
  replace hm := bind_some hm
  obtain ⟨r17, h18, hm⟩ := hm
  refine rg <| ?_
  refine ls <| q1 hF rfl (e_move hF rfl) fun a hF => ?_
  refine ls <| a_bsl (e := 3) (sz := 1) [.int .i64 0, .int .i64 0, .int .i64 1] hF rfl hS rfl rfl rfl (fun w => by kernel_rfl) fun b15 w a hS hF => ?_
  have hv14 : Rows (α := Int) H [.int .i64 0, .int .i64 0, .int .i64 1] ([0, 0, 1] : List Int) := (.cons (c := [.int .i64 0]) rfl (.cons (c := [.int .i64 0]) rfl (.cons (c := [.int .i64 1]) rfl .nil)))
  refine ls <| q1 hF rfl (e_move hF rfl) fun a hF => ?_
  refine ls <| c1 hF rfl Tryd.call29 (trace_Form_c (hp_le _) (St.capO hS (.tail _ (.head _))) (St.srO hS (.tail _ (.head _)) hv12) (St.capO hS (.head _)) (St.srO hS (.head _) hv14) h18) ⟨rfl, rfl, rfl, trivial⟩ (fun v w a hR hF => ?_)
  obtain ⟨oa19, cap20, vs21, rfl, hv22, hk⟩ := hR
  replace hS := hS.fresh hk
  clear hk
  replace hv22 := hv22 H
  refine ls <| q1 hF rfl (e_asg hF rfl) fun a hF => ?_
  refine re <| ?_
  refine tn <| th <| th <| ?_
  refine rg <| ?_
  refine ls <| q1 hF rfl (e_asg hF rfl) fun a hF => ?_
  refine re <| ?_
  refine tn <| midK (fun a w => ∃ (HA1 : PH), (leadlinelaw17_TraceThreads_j1 N r7 r17) = some r ∧ Ext w0 H HA1 ∧ Fr 75 [(0, .slice oa9 r7.length cap10), (5, .slice oa19 r17.length cap20)] a ∧ St w0 Nil [HA1] [sla 23 5 oa9 r7.length cap10 vs11, sla 23 5 oa19 r17.length cap20 vs21] w) ?_ ?_
  ·
    replace hS := hS.pickL (.cons (.tail (.tail .head)) (.cons .head .nil))
    refine wp_block <| lp (α := Nat × Int) (fun (gh : Nat × Int) a w => match gh with | (nn2, vB2) => ∃ (HB1 : PH), (leadlinelaw17_TraceThreads_l2 N (leadlinelaw17_TraceThreads_j1 N r7 r17) r7 r17) nn2 vB2 = some r ∧ Ext w0 H HB1 ∧ Fr 75 [(0, .slice oa9 r7.length cap10), (5, .slice oa19 r17.length cap20), (6, .int .i64 vB2)] a ∧ St w0 Nil [HB1] [sla 23 5 oa9 r7.length cap10 vs11, sla 23 5 oa19 r17.length cap20 vs21] w) (fun gh => gh.1) (N, 0) ⟨H, hm, (Ext.refl _ _), hF.has ⟨rfl, rfl, rfl, trivial⟩, hS⟩ ?_
    clear hm hF hS
    rintro ⟨nn2, vB2⟩ a w ⟨HB1, hm, hxHB1, hF, hS⟩
    obtain _ | nn2 := nn2
    · simp [leadlinelaw17_TraceThreads_l2] at hm
    rw [leadlinelaw17_TraceThreads_l2] at hm
    refine th <| th <| ?_
    refine rg <| ?_
    refine ls <| q1 hF rfl (e_move hF rfl) fun a hF => ?_
    refine ls <| q1 hF rfl (e_lss hF rfl rfl) fun a hF => ?_
    refine re <| ?_
    rcases bdich (decide (vB2 < 8)) with hb24 | hb24
    ·
      replace hm := itp_t hm hb24
      refine tn <| ctv hF rfl hb24 <| wp_skip <| ?_
      refine tn <| th <| midK (fun a w => (leadlinelaw17_TraceThreads_j3 (leadlinelaw17_TraceThreads_l2 N (leadlinelaw17_TraceThreads_j1 N r7 r17) r7 r17 nn2) vB2) = some r ∧ Fr 75 [(0, .slice oa9 r7.length cap10), (5, .slice oa19 r17.length cap20), (6, .int .i64 vB2)] a ∧ St w0 Nil [HB1] [sla 23 5 oa9 r7.length cap10 vs11, sla 23 5 oa19 r17.length cap20 vs21] w) ?_ ?_
      ·
        refine wp_block <| th <| ?_
        refine rg <| ?_
        refine ls <| a_bsl (e := 23) (sz := 5) [] hF rfl hS rfl rfl rfl (fun w => by kernel_rfl) fun b26 w a hS hF => ?_
        have hv25 : Rows (α := api_Event) HB1 [] [] := .nil
        refine ls <| a_bsl (e := 23) (sz := 5) [] hF rfl hS rfl rfl rfl (fun w => by kernel_rfl) fun b29 w a hS hF => ?_
        have hv28 : Rows (α := api_Event) HB1 [] [] := .nil
        refine ls <| q1 hF rfl (e_asg hF rfl) fun a hF => ?_
        refine ls <| q1 hF rfl (e_asg hF rfl) fun a hF => ?_
        refine re <| ?_
        refine tn <| th <| th <| ?_
        refine rg <| ?_
        refine ls <| q1 hF rfl (e_asg hF rfl) fun a hF => ?_
        refine re <| ?_
        refine tn <| midK (fun a w => ∃ (vD1 : (List api_Event)) (oaD2 : Option Addr) (capD3 : Nat) (vsD4 : List Value), (leadlinelaw17_TraceThreads_j4 N (leadlinelaw17_TraceThreads_j3 (leadlinelaw17_TraceThreads_l2 N (leadlinelaw17_TraceThreads_j1 N r7 r17) r7 r17 nn2) vB2) r17 vB2) vD1 = some r ∧ Fr 75 [(0, .slice oa9 r7.length cap10), (5, .slice oa19 r17.length cap20), (6, .int .i64 vB2), (7, .slice oaD2 vD1.length capD3), (8, .slice (some ⟨b29, 0, none⟩) 0 0)] a ∧ St w0 Nil [HB1] [sla 23 5 oa9 r7.length cap10 vs11, sla 23 5 oa19 r17.length cap20 vs21, sla 23 5 oaD2 vD1.length capD3 vsD4, sla 23 5 (some ⟨b29, 0, none⟩) 0 0 []] w ∧ Rows HB1 vsD4 vD1) ?_ ?_
        ·
          replace hS := hS.pickL (.cons (.tail (.tail .head)) (.cons (.tail (.tail .head)) (.cons (.tail .head) (.cons .head .nil))))
          refine wp_block <| lp (α := Nat × (List api_Event) × Int) (fun (gh : Nat × (List api_Event) × Int) a w => match gh with | (nn5, vE1, vE7) => ∃ (oaE2 : Option Addr) (capE3 : Nat) (vsE4 : List Value), (leadlinelaw17_TraceThreads_l5 N (leadlinelaw17_TraceThreads_j4 N (leadlinelaw17_TraceThreads_j3 (leadlinelaw17_TraceThreads_l2 N (leadlinelaw17_TraceThreads_j1 N r7 r17) r7 r17 nn2) vB2) r17 vB2) r7 vB2) nn5 vE1 vE7 = some r ∧ Fr 75 [(0, .slice oa9 r7.length cap10), (5, .slice oa19 r17.length cap20), (6, .int .i64 vB2), (7, .slice oaE2 vE1.length capE3), (8, .slice (some ⟨b29, 0, none⟩) 0 0), (9, .int .i64 vE7)] a ∧ St w0 Nil [HB1] [sla 23 5 oa9 r7.length cap10 vs11, sla 23 5 oa19 r17.length cap20 vs21, sla 23 5 oaE2 vE1.length capE3 vsE4, sla 23 5 (some ⟨b29, 0, none⟩) 0 0 []] w ∧ Rows HB1 vsE4 vE1) (fun gh => gh.1) (N, [], 0) ⟨(some ⟨b26, 0, none⟩), 0, [], hm, hF.has ⟨rfl, rfl, rfl, rfl, rfl, rfl, trivial⟩, hS, hv25⟩ ?_
          clear hm hF hS
          rintro ⟨nn5, vE1, vE7⟩ a w ⟨oaE2, capE3, vsE4, hm, hF, hS, hvE5⟩
          obtain _ | nn5 := nn5
          · simp [leadlinelaw17_TraceThreads_l5] at hm
          rw [leadlinelaw17_TraceThreads_l5] at hm
          refine th <| th <| ?_
          refine rg <| ?_
          refine ls <| q1 hF rfl (e_move hF rfl) fun a hF => ?_
          refine ls <| q1 hF rfl (e_move hF rfl) fun a hF => ?_
          refine ls <| q1 hF rfl (e_lenL (α := api_Event) (xs := r7) hF Tryd.runUnderlying39 rfl) fun a hF => ?_
          refine ls <| q1 hF rfl (e_lss hF rfl rfl) fun a hF => ?_
          refine re <| ?_
          rcases bdich (decide (vE7 < (r7.length : Int))) with hb31 | hb31
          ·
            replace hm := itp_t hm hb31
            refine tn <| ctv hF rfl hb31 <| wp_skip <| ?_
            refine tn <| th <| midK (fun a w => ∃ (vF1 : (List api_Event)) (oaF2 : Option Addr) (capF3 : Nat) (vsF4 : List Value), (leadlinelaw17_TraceThreads_j6 (leadlinelaw17_TraceThreads_l5 N (leadlinelaw17_TraceThreads_j4 N (leadlinelaw17_TraceThreads_j3 (leadlinelaw17_TraceThreads_l2 N (leadlinelaw17_TraceThreads_j1 N r7 r17) r7 r17 nn2) vB2) r17 vB2) r7 vB2 nn5) vE7) vF1 = some r ∧ Fr 75 [(0, .slice oa9 r7.length cap10), (5, .slice oa19 r17.length cap20), (6, .int .i64 vB2), (7, .slice oaF2 vF1.length capF3), (8, .slice (some ⟨b29, 0, none⟩) 0 0), (9, .int .i64 vE7)] a ∧ St w0 Nil [HB1] [sla 23 5 oa9 r7.length cap10 vs11, sla 23 5 oa19 r17.length cap20 vs21, sla 23 5 oaF2 vF1.length capF3 vsF4, sla 23 5 (some ⟨b29, 0, none⟩) 0 0 []] w ∧ Rows HB1 vsF4 vF1) ?_ ?_
            ·
              refine wp_block <| th <| ?_
              replace hm := bind_some hm
              obtain ⟨x32, h33, hm⟩ := hm
              have ho34 := Rd.oaI (hS.rdO (.head _)) hv12 (by decide) h33
              obtain ⟨c35, g36, hl37⟩ := Rows.getI hv12 h33
              obtain rfl := api_Event_open g36
              refine rg <| ?_
              refine ls <| q1 hF rfl (e_move hF rfl) fun a hF => ?_
              refine ls <| q1 hF rfl (e_move hF rfl) fun a hF => ?_
              refine ls <| q1 hF rfl (e_iaI hF Tryd.runUnderlying39 Tryd.sizeOf23 rfl rfl h33 ho34) fun a hF => ?_
              refine ls <| q1 hF rfl (e_fa hF fa23_1 rfl) fun a hF => ?_
              refine ls <| q1 hF rfl (e_ld hF Tryd.isAgg3 rfl ((St.ld hS).elO2 (.head _) (hl37 1 _ rfl))) fun a hF => ?_
              refine ls <| q1 hF rfl (e_move hF rfl) fun a hF => ?_
              refine ls <| q1 hF rfl (e_eql hF rfl rfl) fun a hF => ?_
              refine re <| ?_
              rcases bdich (decide (x32.T = vB2)) with hb38 | hb38
              ·
                replace hm := itp_t hm hb38
                refine tn <| ctv hF rfl hb38 <| ?_
                have ho39 := Rd.oaI (hS.rdO (.head _)) hv12 (by decide) h33
                replace hm := bind_some hm
                obtain ⟨l43, h44, hm⟩ := hm
                refine rg <| ?_
                refine ls <| q1 hF rfl (e_move hF rfl) fun a hF => ?_
                refine ls <| q1 hF rfl (e_move hF rfl) fun a hF => ?_
                refine ls <| q1 hF rfl (e_move hF rfl) fun a hF => ?_
                refine ls <| q1 hF rfl (e_iaI hF Tryd.runUnderlying39 Tryd.sizeOf23 rfl rfl h33 ho39) fun a hF => ?_
                refine ls <| q1 hF rfl (e_ldA hF Tryd.isAgg23 Tryd.sizeOf23 rfl rfl ((St.ld hS).elsO (.head _) hl37)) fun a hF => ?_
                refine ls <| a_bsl (e := 23) (sz := 5) [.int .i64 x32.Kind, .int .i64 x32.T, .int .i64 x32.A, .int .i64 x32.N, .int .i64 x32.M] hF rfl hS rfl rfl rfl (fun w => by kernel_rfl) fun b41 w a hS hF => ?_
                have hv40 : Rows (α := api_Event) HB1 [.int .i64 x32.Kind, .int .i64 x32.T, .int .i64 x32.A, .int .i64 x32.N, .int .i64 x32.M] ([x32] : List api_Event) := (.cons (c := [.int .i64 x32.Kind, .int .i64 x32.T, .int .i64 x32.A, .int .i64 x32.N, .int .i64 x32.M]) ⟨_, _, rfl, rfl, ⟨_, _, rfl, rfl, ⟨_, _, rfl, rfl, ⟨_, _, rfl, rfl, rfl⟩⟩⟩⟩ .nil)
                refine ls <| m_app (α := api_Event) (xs := vE1) (ys := ([x32] : List api_Event)) hF rfl hS Tryd.underlying39 info23 rfl (by decide) rfl rfl rfl (.tail _ (.tail _ (.tail _ (.head _)))) hvE5 (hS.rdO (.head _)) hv40 h44 fun oa45 cap46 vs47 w a hv48 hU hF => ?_
                replace hS := hU _ (.tail (.tail (.tail .head)))
                clear hU
                replace hS := hS.drop .head
                refine ls <| q1 hF rfl (e_asg hF rfl) fun a hF => ?_
                refine re <| ?_
                refine bn <| tn <| ?_
                exact ⟨l43, oa45, cap46, vs47, hm, hF.has ⟨rfl, rfl, rfl, rfl, rfl, rfl, trivial⟩, hS, hv48⟩
              ·
                replace hm := itp_f hm hb38
                refine tn <| cfv hF rfl hb38 <| wp_skip <| ?_
                refine bn <| tn <| ?_
                exact ⟨vE1, oaE2, capE3, vsE4, hm, hF.has ⟨rfl, rfl, rfl, rfl, rfl, rfl, trivial⟩, hS, hvE5⟩
            clear hm hF hS
            rintro a w ⟨vF1, oaF2, capF3, vsF4, hm, hF, hS, hvF5⟩
            unfold leadlinelaw17_TraceThreads_j6 at hm
            refine rg <| ?_
            refine ls <| q1 hF rfl (e_move hF rfl) fun a hF => ?_
            refine ls <| q1 hF rfl (e_add hF rfl rfl) fun a hF => ?_
            refine ls <| q1 hF rfl (e_asg hF rfl) fun a hF => ?_
            refine re <| ?_
            refine tn <| ?_
            exact ⟨(nn5, vF1, (IntKind.i64.wrap (vE7 + 1))), ⟨oaF2, capF3, vsF4, hm, hF.has ⟨rfl, rfl, rfl, rfl, rfl, rfl, trivial⟩, hS, hvF5⟩, Nat.lt_succ_self _⟩
          ·
            replace hm := itp_f hm hb31
            refine tn <| cfv hF rfl hb31 <| ?_
            refine wp_exit <| tx <| tx <| bx <| ?_
            refine tn <| ?_
            exact ⟨vE1, oaE2, capE3, vsE4, hm, hF.has ⟨rfl, rfl, rfl, rfl, rfl, trivial⟩, hS, hvE5⟩
        clear hm hF hS
        rintro a w ⟨vD1, oaD2, capD3, vsD4, hm, hF, hS, hvD5⟩
        unfold leadlinelaw17_TraceThreads_j4 at hm
        refine th <| th <| ?_
        refine rg <| ?_
        refine ls <| q1 hF rfl (e_asg hF rfl) fun a hF => ?_
        refine re <| ?_
        refine tn <| midK (fun a w => ∃ (vD7 : (List api_Event)) (oaD8 : Option Addr) (capD9 : Nat) (vsD10 : List Value), (leadlinelaw17_TraceThreads_j7 N (leadlinelaw17_TraceThreads_j3 (leadlinelaw17_TraceThreads_l2 N (leadlinelaw17_TraceThreads_j1 N r7 r17) r7 r17 nn2) vB2) vD1) vD7 = some r ∧ Fr 75 [(0, .slice oa9 r7.length cap10), (5, .slice oa19 r17.length cap20), (6, .int .i64 vB2), (7, .slice oaD2 vD1.length capD3), (8, .slice oaD8 vD7.length capD9)] a ∧ St w0 Nil [HB1] [sla 23 5 oa9 r7.length cap10 vs11, sla 23 5 oa19 r17.length cap20 vs21, sla 23 5 oaD2 vD1.length capD3 vsD4, sla 23 5 oaD8 vD7.length capD9 vsD10] w ∧ Rows HB1 vsD10 vD7) ?_ ?_
        ·
          refine wp_block <| lp (α := Nat × (List api_Event) × Int) (fun (gh : Nat × (List api_Event) × Int) a w => match gh with | (nn8, vE8, vE14) => ∃ (oaE9 : Option Addr) (capE10 : Nat) (vsE11 : List Value), (leadlinelaw17_TraceThreads_l8 N (leadlinelaw17_TraceThreads_j7 N (leadlinelaw17_TraceThreads_j3 (leadlinelaw17_TraceThreads_l2 N (leadlinelaw17_TraceThreads_j1 N r7 r17) r7 r17 nn2) vB2) vD1) r17 vB2) nn8 vE8 vE14 = some r ∧ Fr 75 [(0, .slice oa9 r7.length cap10), (5, .slice oa19 r17.length cap20), (6, .int .i64 vB2), (7, .slice oaD2 vD1.length capD3), (8, .slice oaE9 vE8.length capE10), (10, .int .i64 vE14)] a ∧ St w0 Nil [HB1] [sla 23 5 oa9 r7.length cap10 vs11, sla 23 5 oa19 r17.length cap20 vs21, sla 23 5 oaD2 vD1.length capD3 vsD4, sla 23 5 oaE9 vE8.length capE10 vsE11] w ∧ Rows HB1 vsE11 vE8) (fun gh => gh.1) (N, [], 0) ⟨(some ⟨b29, 0, none⟩), 0, [], hm, hF.has ⟨rfl, rfl, rfl, rfl, rfl, rfl, trivial⟩, hS, hv28⟩ ?_
          clear hm hF hS
          rintro ⟨nn8, vE8, vE14⟩ a w ⟨oaE9, capE10, vsE11, hm, hF, hS, hvE12⟩
          obtain _ | nn8 := nn8
          · simp [leadlinelaw17_TraceThreads_l8] at hm
          rw [leadlinelaw17_TraceThreads_l8] at hm
          refine th <| th <| ?_
          refine rg <| ?_
          refine ls <| q1 hF rfl (e_move hF rfl) fun a hF => ?_
          refine ls <| q1 hF rfl (e_move hF rfl) fun a hF => ?_
          refine ls <| q1 hF rfl (e_lenL (α := api_Event) (xs := r17) hF Tryd.runUnderlying39 rfl) fun a hF => ?_
          refine ls <| q1 hF rfl (e_lss hF rfl rfl) fun a hF => ?_
          refine re <| ?_
          rcases bdich (decide (vE14 < (r17.length : Int))) with hb49 | hb49
          ·
            replace hm := itp_t hm hb49
            refine tn <| ctv hF rfl hb49 <| wp_skip <| ?_
            refine tn <| th <| midK (fun a w => ∃ (vF7 : (List api_Event)) (oaF8 : Option Addr) (capF9 : Nat) (vsF10 : List Value), (leadlinelaw17_TraceThreads_j9 (leadlinelaw17_TraceThreads_l8 N (leadlinelaw17_TraceThreads_j7 N (leadlinelaw17_TraceThreads_j3 (leadlinelaw17_TraceThreads_l2 N (leadlinelaw17_TraceThreads_j1 N r7 r17) r7 r17 nn2) vB2) vD1) r17 vB2 nn8) vE14) vF7 = some r ∧ Fr 75 [(0, .slice oa9 r7.length cap10), (5, .slice oa19 r17.length cap20), (6, .int .i64 vB2), (7, .slice oaD2 vD1.length capD3), (8, .slice oaF8 vF7.length capF9), (10, .int .i64 vE14)] a ∧ St w0 Nil [HB1] [sla 23 5 oa9 r7.length cap10 vs11, sla 23 5 oa19 r17.length cap20 vs21, sla 23 5 oaD2 vD1.length capD3 vsD4, sla 23 5 oaF8 vF7.length capF9 vsF10] w ∧ Rows HB1 vsF10 vF7) ?_ ?_
            ·
              refine wp_block <| th <| ?_
              replace hm := bind_some hm
              obtain ⟨x50, h51, hm⟩ := hm
              have ho52 := Rd.oaI (hS.rdO (.tail _ (.head _))) hv22 (by decide) h51
              obtain ⟨c53, g54, hl55⟩ := Rows.getI hv22 h51
              obtain rfl := api_Event_open g54
              refine rg <| ?_
              refine ls <| q1 hF rfl (e_move hF rfl) fun a hF => ?_
              refine ls <| q1 hF rfl (e_move hF rfl) fun a hF => ?_
              refine ls <| q1 hF rfl (e_iaI hF Tryd.runUnderlying39 Tryd.sizeOf23 rfl rfl h51 ho52) fun a hF => ?_
              refine ls <| q1 hF rfl (e_fa hF fa23_1 rfl) fun a hF => ?_
              refine ls <| q1 hF rfl (e_ld hF Tryd.isAgg3 rfl ((St.ld hS).elO2 (.tail _ (.head _)) (hl55 1 _ rfl))) fun a hF => ?_
              refine ls <| q1 hF rfl (e_move hF rfl) fun a hF => ?_
              refine ls <| q1 hF rfl (e_eql hF rfl rfl) fun a hF => ?_
              refine re <| ?_
              rcases bdich (decide (x50.T = vB2)) with hb56 | hb56
              ·
                replace hm := itp_t hm hb56
                refine tn <| ctv hF rfl hb56 <| ?_
                have ho57 := Rd.oaI (hS.rdO (.tail _ (.head _))) hv22 (by decide) h51
                replace hm := bind_some hm
                obtain ⟨l61, h62, hm⟩ := hm
                refine rg <| ?_
                refine ls <| q1 hF rfl (e_move hF rfl) fun a hF => ?_
                refine ls <| q1 hF rfl (e_move hF rfl) fun a hF => ?_
                refine ls <| q1 hF rfl (e_move hF rfl) fun a hF => ?_
                refine ls <| q1 hF rfl (e_iaI hF Tryd.runUnderlying39 Tryd.sizeOf23 rfl rfl h51 ho57) fun a hF => ?_
                refine ls <| q1 hF rfl (e_ldA hF Tryd.isAgg23 Tryd.sizeOf23 rfl rfl ((St.ld hS).elsO (.tail _ (.head _)) hl55)) fun a hF => ?_
                refine ls <| a_bsl (e := 23) (sz := 5) [.int .i64 x50.Kind, .int .i64 x50.T, .int .i64 x50.A, .int .i64 x50.N, .int .i64 x50.M] hF rfl hS rfl rfl rfl (fun w => by kernel_rfl) fun b59 w a hS hF => ?_
                have hv58 : Rows (α := api_Event) HB1 [.int .i64 x50.Kind, .int .i64 x50.T, .int .i64 x50.A, .int .i64 x50.N, .int .i64 x50.M] ([x50] : List api_Event) := (.cons (c := [.int .i64 x50.Kind, .int .i64 x50.T, .int .i64 x50.A, .int .i64 x50.N, .int .i64 x50.M]) ⟨_, _, rfl, rfl, ⟨_, _, rfl, rfl, ⟨_, _, rfl, rfl, ⟨_, _, rfl, rfl, rfl⟩⟩⟩⟩ .nil)
                refine ls <| m_app (α := api_Event) (xs := vE8) (ys := ([x50] : List api_Event)) hF rfl hS Tryd.underlying39 info23 rfl (by decide) rfl rfl rfl (.tail _ (.tail _ (.tail _ (.tail _ (.head _))))) hvE12 (hS.rdO (.head _)) hv58 h62 fun oa63 cap64 vs65 w a hv66 hU hF => ?_
                replace hS := hU _ (.tail (.tail (.tail (.tail .head))))
                clear hU
                replace hS := hS.drop .head
                refine ls <| q1 hF rfl (e_asg hF rfl) fun a hF => ?_
                refine re <| ?_
                refine bn <| tn <| ?_
                exact ⟨l61, oa63, cap64, vs65, hm, hF.has ⟨rfl, rfl, rfl, rfl, rfl, rfl, trivial⟩, hS, hv66⟩
              ·
                replace hm := itp_f hm hb56
                refine tn <| cfv hF rfl hb56 <| wp_skip <| ?_
                refine bn <| tn <| ?_
                exact ⟨vE8, oaE9, capE10, vsE11, hm, hF.has ⟨rfl, rfl, rfl, rfl, rfl, rfl, trivial⟩, hS, hvE12⟩
            clear hm hF hS
            rintro a w ⟨vF7, oaF8, capF9, vsF10, hm, hF, hS, hvF11⟩
            unfold leadlinelaw17_TraceThreads_j9 at hm
            refine rg <| ?_
            refine ls <| q1 hF rfl (e_move hF rfl) fun a hF => ?_
            refine ls <| q1 hF rfl (e_add hF rfl rfl) fun a hF => ?_
            refine ls <| q1 hF rfl (e_asg hF rfl) fun a hF => ?_
            refine re <| ?_
            refine tn <| ?_
            exact ⟨(nn8, vF7, (IntKind.i64.wrap (vE14 + 1))), ⟨oaF8, capF9, vsF10, hm, hF.has ⟨rfl, rfl, rfl, rfl, rfl, rfl, trivial⟩, hS, hvF11⟩, Nat.lt_succ_self _⟩
          ·
            replace hm := itp_f hm hb49
            refine tn <| cfv hF rfl hb49 <| ?_
            refine wp_exit <| tx <| tx <| bx <| ?_
            refine tn <| ?_
            exact ⟨vE8, oaE9, capE10, vsE11, hm, hF.has ⟨rfl, rfl, rfl, rfl, rfl, trivial⟩, hS, hvE12⟩
        clear hm hF hS
        rintro a w ⟨vD7, oaD8, capD9, vsD10, hm, hF, hS, hvD11⟩
        unfold leadlinelaw17_TraceThreads_j7 at hm
        refine th <| ?_
        replace hm := bind_some hm
        obtain ⟨r67, h68, hm⟩ := hm
        refine rg <| ?_
        refine ls <| q1 hF rfl (e_move hF rfl) fun a hF => ?_
        refine ls <| q1 hF rfl (e_move hF rfl) fun a hF => ?_
        refine ls <| c1 hF rfl Tryd.call28 (leadlineref17_Equal_c (hp_le _) (St.capO hS (.tail _ (.tail _ (.head _)))) (St.srO hS (.tail _ (.tail _ (.head _))) hvD5) (St.capO hS (.tail _ (.tail _ (.tail _ (.head _))))) (St.srO hS (.tail _ (.tail _ (.tail _ (.head _)))) hvD11) h68) ⟨rfl, rfl, trivial⟩ (fun v w a hR hF => ?_)
        obtain ⟨rfl, hk⟩ := hR
        replace hS := hS.pass hk
        clear hk
        refine ls <| q1 hF rfl (e_not hF rfl) fun a hF => ?_
        refine re <| ?_
        replace hm := bind_some hm
        obtain ⟨_, hb69, hm⟩ := hm
        replace hb69 := bnt (sure_some hb69)
        refine tn <| cfv hF rfl hb69 <| wp_skip <| ?_
        refine bn <| tn <| ?_
        replace hS := hS.pickL (.cons .head (.cons .head .nil))
        exact ⟨hm, hF.has ⟨rfl, rfl, rfl, trivial⟩, hS⟩
      clear hm hF hS
      rintro a w ⟨hm, hF, hS⟩
      unfold leadlinelaw17_TraceThreads_j3 at hm
      refine rg <| ?_
      refine ls <| q1 hF rfl (e_move hF rfl) fun a hF => ?_
      refine ls <| q1 hF rfl (e_add hF rfl rfl) fun a hF => ?_
      refine ls <| q1 hF rfl (e_asg hF rfl) fun a hF => ?_
      refine re <| ?_
      refine tn <| ?_
      exact ⟨(nn2, (IntKind.i64.wrap (vB2 + 1))), ⟨HB1, hm, hxHB1, hF.has ⟨rfl, rfl, rfl, trivial⟩, hS⟩, Nat.lt_succ_self _⟩
    ·
      replace hm := itp_f hm hb24
      refine tn <| cfv hF rfl hb24 <| ?_
      refine wp_exit <| tx <| tx <| bx <| ?_
      refine tn <| ?_
      exact ⟨HB1, hm, hxHB1, hF.has ⟨rfl, rfl, trivial⟩, hS⟩
  clear hm hF hS
  rintro a w ⟨HA1, hm, hxHA1, hF, hS⟩
  unfold leadlinelaw17_TraceThreads_j1 at hm
  refine th <| ?_
  replace hm := bind_some hm
  obtain ⟨_, hb70, hm⟩ := hm
  replace hb70 := sure_some hb70
  replace hm := bind_some hm
  obtain ⟨r71, h72, hm⟩ := hm
  refine rg <| ?_
  refine ls <| q1 hF rfl (e_move hF rfl) fun a hF => ?_
  refine ls <| q1 hF rfl (e_lenL (α := api_Event) (xs := r17) hF Tryd.runUnderlying39 rfl) fun a hF => ?_
  refine ls <| q1 hF rfl (e_move hF rfl) fun a hF => ?_
  refine ls <| q1 hF rfl (e_lenL (α := api_Event) (xs := r7) hF Tryd.runUnderlying39 rfl) fun a hF => ?_
  refine ls <| q1 hF rfl (e_eql hF rfl rfl) fun a hF => ?_
  refine ls <| q1 hF rfl (e_as (e_move hF rfl) (congrArg Value.bool hb70)) fun a hF => ?_
  refine ls <| gy hF rfl rfl <| c1 hF rfl Tryd.call38 (leadlinelaw17_fixed_c (hp_le _) (Tab.mono (Tab.mono hT hxHA1.sub) (St.up hS)) h72) trivial (fun v w a hR hF => ?_)
  obtain ⟨rfl, hk⟩ := hR
  replace hS := hS.pass hk
  clear hk
  refine ls <| q1 hF rfl (e_pickT hF rfl rfl) fun a hF => ?_
  refine ls <| q1 hF rfl (e_asg hF rfl) fun a hF => ?_
  refine re <| ?_
  refine tn <| ?_
  refine wp_ret <| ?_
  obtain rfl := Option.some.inj hm
  exact r1 hF Tryd.results12 rfl ⟨rfl, hS.keep⟩
end Go.LM.ET
