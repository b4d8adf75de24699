/- Walks, lifted by program. No condition beyond each theorem's own premises. -/
import Derived.Test.YtfpdddablkocoaaDoorCDQCodeValues4
namespace Go.LM.CODE
open Go Go.LL Go.MD Go.LM Go.Proofs Go.MD.CODE

set_option maxRecDepth 100000 in
theorem leadlineref01_Two_c {N : Nat} {w0 : World} {H : PH} (hH : H.le w0) {p1 : Int} {p2 : Int} {p3 : Int} {r : (Int × Int)} (hm : leadlineref01_Two N p1 p2 p3 = some r) : Tot Tryd.prog 44 #[.int .i64 p1, .int .i64 p2, .int .i64 p3] w0 (fun v w' => v = .tuple #[.int .i64 r.1, .int .i64 r.2] ∧ Keep Nil w0 w') := by
  unfold leadlineref01_Two at hm
  refine fn0 (args := [.int .i64 p1, .int .i64 p2, .int .i64 p3]) (F := [(0, .int .i64 p1), (1, .int .i64 p2), (2, .int .i64 p3)]) Tryd.func44 rfl Tryd.ntmps44 rfl rfl fun a hF => ?_
  have hS : St w0 Nil [H] [] w0 := start1 hH
  refine th <| ?_
  refine rg <| ?_
  refine ls <| q1 hF rfl (e_asg hF rfl) fun a hF => ?_
  refine ls <| q1 hF rfl (e_asg hF rfl) fun a hF => ?_
  refine re <| ?_
  refine tn <| th <| th <| ?_
  refine rg <| ?_
  refine ls <| q1 hF rfl (e_move hF rfl) fun a hF => ?_
  refine re <| ?_
  refine tn <| wp_block <| th <| ?_
  refine rg <| ?_
  refine ls <| q1 hF rfl (e_eql hF rfl rfl) fun a hF => ?_
  refine ls <| q1 hF rfl (e_asg hF rfl) fun a hF => ?_
  refine re <| ?_
  rcases bdich (decide (p1 = 5)) with hb4 | hb4
  ·
    replace hm := itp_t hm hb4
    refine tn <| ctv hF rfl hb4 <| th <| ?_
    refine rg <| ?_
    refine ls <| q1 hF rfl (e_move hF rfl) fun a hF => ?_
    refine ls <| q1 hF rfl (e_move hF rfl) fun a hF => ?_
    refine ls <| q1 hF rfl (e_add hF rfl rfl) fun a hF => ?_
    refine ls <| q1 hF rfl (e_asg hF rfl) fun a hF => ?_
    refine ls <| q1 hF rfl (e_asg hF rfl) fun a hF => ?_
    refine re <| ?_
    refine tn <| ?_
    refine wp_ret <| br <| tr <| ?_
    obtain rfl := Option.some.inj hm
    exact r2 hF Tryd.results44 rfl rfl ⟨rfl, hS.keep⟩
  ·
    replace hm := itp_f hm hb4
    refine tn <| cfv hF rfl hb4 <| th <| ?_
    refine rg <| ?_
    refine ls <| q1 hF rfl (e_eql hF rfl rfl) fun a hF => ?_
    refine ls <| q1 hF rfl (e_asg hF rfl) fun a hF => ?_
    refine re <| ?_
    rcases bdich (decide (p1 = 6)) with hb5 | hb5
    ·
      replace hm := itp_t hm hb5
      refine tn <| ctv hF rfl hb5 <| th <| ?_
      refine rg <| ?_
      refine ls <| q1 hF rfl (e_move hF rfl) fun a hF => ?_
      refine ls <| q1 hF rfl (e_move hF rfl) fun a hF => ?_
      refine ls <| q1 hF rfl (e_sub hF rfl rfl) fun a hF => ?_
      refine ls <| q1 hF rfl (e_asg hF rfl) fun a hF => ?_
      refine ls <| q1 hF rfl (e_asg hF rfl) fun a hF => ?_
      refine re <| ?_
      refine tn <| ?_
      refine wp_ret <| br <| tr <| ?_
      obtain rfl := Option.some.inj hm
      exact r2 hF Tryd.results44 rfl rfl ⟨rfl, hS.keep⟩
    ·
      replace hm := itp_f hm hb5
      refine tn <| cfv hF rfl hb5 <| th <| ?_
      refine rg <| ?_
      refine ls <| q1 hF rfl (e_eql hF rfl rfl) fun a hF => ?_
      refine ls <| q1 hF rfl (e_asg hF rfl) fun a hF => ?_
      refine re <| ?_
      rcases bdich (decide (p1 = 7)) with hb6 | hb6
      ·
        replace hm := itp_t hm hb6
        refine tn <| ctv hF rfl hb6 <| th <| ?_
        refine rg <| ?_
        refine ls <| q1 hF rfl (e_move hF rfl) fun a hF => ?_
        refine ls <| q1 hF rfl (e_move hF rfl) fun a hF => ?_
        refine ls <| q1 hF rfl (e_mul hF rfl rfl) fun a hF => ?_
        refine ls <| q1 hF rfl (e_asg hF rfl) fun a hF => ?_
        refine ls <| q1 hF rfl (e_asg hF rfl) fun a hF => ?_
        refine re <| ?_
        refine tn <| ?_
        refine wp_ret <| br <| tr <| ?_
        obtain rfl := Option.some.inj hm
        exact r2 hF Tryd.results44 rfl rfl ⟨rfl, hS.keep⟩
      ·
        replace hm := itp_f hm hb6
        refine tn <| cfv hF rfl hb6 <| th <| ?_
        refine rg <| ?_
        refine ls <| q1 hF rfl (e_eql hF rfl rfl) fun a hF => ?_
        refine ls <| q1 hF rfl (e_asg hF rfl) fun a hF => ?_
        refine re <| ?_
        rcases bdich (decide (p1 = 8)) with hb7 | hb7
        ·
          replace hm := itp_t hm hb7
          refine tn <| ctv hF rfl hb7 <| th <| th <| ?_
          refine rg <| ?_
          refine ls <| q1 hF rfl (e_move hF rfl) fun a hF => ?_
          refine ls <| q1 hF rfl (e_eql hF rfl rfl) fun a hF => ?_
          refine re <| ?_
          rcases bdich (decide (p3 = 0)) with hb8 | hb8
          ·
            replace hm := itp_t hm hb8
            refine tn <| ctv hF rfl hb8 <| th <| ?_
            refine rg <| ?_
            refine ls <| q1 hF rfl (e_asg hF rfl) fun a hF => ?_
            refine ls <| q1 hF rfl (e_asg hF rfl) fun a hF => ?_
            refine re <| ?_
            refine tn <| ?_
            refine wp_ret <| tr <| br <| tr <| ?_
            obtain rfl := Option.some.inj hm
            exact r2 hF Tryd.results44 rfl rfl ⟨rfl, hS.keep⟩
          ·
            replace hm := itp_f hm hb8
            refine tn <| cfv hF rfl hb8 <| wp_skip <| ?_
            refine tn <| th <| ?_
            replace hm := bind_some hm
            obtain ⟨r9, h10, hm⟩ := hm
            refine rg <| ?_
            refine ls <| q1 hF rfl (e_move hF rfl) fun a hF => ?_
            refine ls <| q1 hF rfl (e_move hF rfl) fun a hF => ?_
            refine ls <| c1 hF rfl Tryd.call63 (leadlineref01_quotient_c (hp_le _) h10) ⟨rfl, rfl, trivial⟩ (fun v w a hR hF => ?_)
            obtain ⟨rfl, hk⟩ := hR
            replace hS := hS.pass hk
            clear hk
            refine ls <| q1 hF rfl (e_asg hF rfl) fun a hF => ?_
            refine ls <| q1 hF rfl (e_asg hF rfl) fun a hF => ?_
            refine re <| ?_
            refine tn <| ?_
            refine wp_ret <| br <| tr <| ?_
            obtain rfl := Option.some.inj hm
            exact r2 hF Tryd.results44 rfl rfl ⟨rfl, hS.keep⟩
        ·
          replace hm := itp_f hm hb7
          refine tn <| cfv hF rfl hb7 <| th <| ?_
          refine rg <| ?_
          refine ls <| q1 hF rfl (e_eql hF rfl rfl) fun a hF => ?_
          refine ls <| q1 hF rfl (e_asg hF rfl) fun a hF => ?_
          refine re <| ?_
          rcases bdich (decide (p1 = 9)) with hb11 | hb11
          ·
            replace hm := itp_t hm hb11
            refine tn <| ctv hF rfl hb11 <| th <| th <| ?_
            refine rg <| ?_
            refine ls <| q1 hF rfl (e_move hF rfl) fun a hF => ?_
            refine ls <| q1 hF rfl (e_eql hF rfl rfl) fun a hF => ?_
            refine re <| ?_
            rcases bdich (decide (p3 = 0)) with hb12 | hb12
            ·
              replace hm := itp_t hm hb12
              refine tn <| ctv hF rfl hb12 <| th <| ?_
              refine rg <| ?_
              refine ls <| q1 hF rfl (e_asg hF rfl) fun a hF => ?_
              refine ls <| q1 hF rfl (e_asg hF rfl) fun a hF => ?_
              refine re <| ?_
              refine tn <| ?_
              refine wp_ret <| tr <| br <| tr <| ?_
              obtain rfl := Option.some.inj hm
              exact r2 hF Tryd.results44 rfl rfl ⟨rfl, hS.keep⟩
            ·
              replace hm := itp_f hm hb12
              refine tn <| cfv hF rfl hb12 <| wp_skip <| ?_
              refine tn <| th <| ?_
              replace hm := bind_some hm
              obtain ⟨r13, h14, hm⟩ := hm
              refine rg <| ?_
              refine ls <| q1 hF rfl (e_move hF rfl) fun a hF => ?_
              refine ls <| q1 hF rfl (e_move hF rfl) fun a hF => ?_
              refine ls <| q1 hF rfl (e_move hF rfl) fun a hF => ?_
              refine ls <| q1 hF rfl (e_move hF rfl) fun a hF => ?_
              refine ls <| c1 hF rfl Tryd.call63 (leadlineref01_quotient_c (hp_le _) h14) ⟨rfl, rfl, trivial⟩ (fun v w a hR hF => ?_)
              obtain ⟨rfl, hk⟩ := hR
              replace hS := hS.pass hk
              clear hk
              refine ls <| q1 hF rfl (e_mul hF rfl rfl) fun a hF => ?_
              refine ls <| q1 hF rfl (e_sub hF rfl rfl) fun a hF => ?_
              refine ls <| q1 hF rfl (e_asg hF rfl) fun a hF => ?_
              refine ls <| q1 hF rfl (e_asg hF rfl) fun a hF => ?_
              refine re <| ?_
              refine tn <| ?_
              refine wp_ret <| br <| tr <| ?_
              obtain rfl := Option.some.inj hm
              exact r2 hF Tryd.results44 rfl rfl ⟨rfl, hS.keep⟩
          ·
            replace hm := itp_f hm hb11
            refine tn <| cfv hF rfl hb11 <| th <| ?_
            refine rg <| ?_
            refine ls <| q1 hF rfl (e_eql hF rfl rfl) fun a hF => ?_
            refine ls <| q1 hF rfl (e_asg hF rfl) fun a hF => ?_
            refine re <| ?_
            rcases bdich (decide (p1 = 10)) with hb15 | hb15
            ·
              replace hm := itp_t hm hb15
              refine tn <| ctv hF rfl hb15 <| th <| ?_
              replace hm := bind_some hm
              obtain ⟨r16, h17, hm⟩ := hm
              refine rg <| ?_
              refine ls <| q1 hF rfl (e_move hF rfl) fun a hF => ?_
              refine ls <| q1 hF rfl (e_move hF rfl) fun a hF => ?_
              refine ls <| q1 hF rfl (e_eql hF rfl rfl) fun a hF => ?_
              refine ls <| c1 hF rfl Tryd.call62 (leadlineref01_Bool_c (hp_le _) h17) ⟨rfl, trivial⟩ (fun v w a hR hF => ?_)
              obtain ⟨rfl, hk⟩ := hR
              replace hS := hS.pass hk
              clear hk
              refine ls <| q1 hF rfl (e_asg hF rfl) fun a hF => ?_
              refine ls <| q1 hF rfl (e_asg hF rfl) fun a hF => ?_
              refine re <| ?_
              refine tn <| ?_
              refine wp_ret <| br <| tr <| ?_
              obtain rfl := Option.some.inj hm
              exact r2 hF Tryd.results44 rfl rfl ⟨rfl, hS.keep⟩
            ·
              replace hm := itp_f hm hb15
              refine tn <| cfv hF rfl hb15 <| th <| ?_
              refine rg <| ?_
              refine ls <| q1 hF rfl (e_eql hF rfl rfl) fun a hF => ?_
              refine ls <| q1 hF rfl (e_asg hF rfl) fun a hF => ?_
              refine re <| ?_
              rcases bdich (decide (p1 = 11)) with hb18 | hb18
              ·
                replace hm := itp_t hm hb18
                refine tn <| ctv hF rfl hb18 <| th <| ?_
                replace hm := bind_some hm
                obtain ⟨r19, h20, hm⟩ := hm
                refine rg <| ?_
                refine ls <| q1 hF rfl (e_move hF rfl) fun a hF => ?_
                refine ls <| q1 hF rfl (e_move hF rfl) fun a hF => ?_
                refine ls <| q1 hF rfl (e_neq hF rfl rfl) fun a hF => ?_
                refine ls <| c1 hF rfl Tryd.call62 (leadlineref01_Bool_c (hp_le _) h20) ⟨rfl, trivial⟩ (fun v w a hR hF => ?_)
                obtain ⟨rfl, hk⟩ := hR
                replace hS := hS.pass hk
                clear hk
                refine ls <| q1 hF rfl (e_asg hF rfl) fun a hF => ?_
                refine ls <| q1 hF rfl (e_asg hF rfl) fun a hF => ?_
                refine re <| ?_
                refine tn <| ?_
                refine wp_ret <| br <| tr <| ?_
                obtain rfl := Option.some.inj hm
                exact r2 hF Tryd.results44 rfl rfl ⟨rfl, hS.keep⟩
              ·
                replace hm := itp_f hm hb18
                refine tn <| cfv hF rfl hb18 <| th <| ?_
                refine rg <| ?_
                refine ls <| q1 hF rfl (e_eql hF rfl rfl) fun a hF => ?_
                refine ls <| q1 hF rfl (e_asg hF rfl) fun a hF => ?_
                refine re <| ?_
                rcases bdich (decide (p1 = 12)) with hb21 | hb21
                ·
                  replace hm := itp_t hm hb21
                  refine tn <| ctv hF rfl hb21 <| th <| ?_
                  replace hm := bind_some hm
                  obtain ⟨r22, h23, hm⟩ := hm
                  refine rg <| ?_
                  refine ls <| q1 hF rfl (e_move hF rfl) fun a hF => ?_
                  refine ls <| q1 hF rfl (e_move hF rfl) fun a hF => ?_
                  refine ls <| q1 hF rfl (e_lss hF rfl rfl) fun a hF => ?_
                  refine ls <| c1 hF rfl Tryd.call62 (leadlineref01_Bool_c (hp_le _) h23) ⟨rfl, trivial⟩ (fun v w a hR hF => ?_)
                  obtain ⟨rfl, hk⟩ := hR
                  replace hS := hS.pass hk
                  clear hk
                  refine ls <| q1 hF rfl (e_asg hF rfl) fun a hF => ?_
                  refine ls <| q1 hF rfl (e_asg hF rfl) fun a hF => ?_
                  refine re <| ?_
                  refine tn <| ?_
                  refine wp_ret <| br <| tr <| ?_
                  obtain rfl := Option.some.inj hm
                  exact r2 hF Tryd.results44 rfl rfl ⟨rfl, hS.keep⟩
                ·
                  replace hm := itp_f hm hb21
                  refine tn <| cfv hF rfl hb21 <| th <| ?_
                  refine rg <| ?_
                  refine ls <| q1 hF rfl (e_eql hF rfl rfl) fun a hF => ?_
                  refine ls <| q1 hF rfl (e_asg hF rfl) fun a hF => ?_
                  refine re <| ?_
                  rcases bdich (decide (p1 = 13)) with hb24 | hb24
                  ·
                    replace hm := itp_t hm hb24
                    refine tn <| ctv hF rfl hb24 <| th <| ?_
                    replace hm := bind_some hm
                    obtain ⟨r25, h26, hm⟩ := hm
                    refine rg <| ?_
                    refine ls <| q1 hF rfl (e_move hF rfl) fun a hF => ?_
                    refine ls <| q1 hF rfl (e_move hF rfl) fun a hF => ?_
                    refine ls <| q1 hF rfl (e_leq hF rfl rfl) fun a hF => ?_
                    refine ls <| c1 hF rfl Tryd.call62 (leadlineref01_Bool_c (hp_le _) h26) ⟨rfl, trivial⟩ (fun v w a hR hF => ?_)
                    obtain ⟨rfl, hk⟩ := hR
                    replace hS := hS.pass hk
                    clear hk
                    refine ls <| q1 hF rfl (e_asg hF rfl) fun a hF => ?_
                    refine ls <| q1 hF rfl (e_asg hF rfl) fun a hF => ?_
                    refine re <| ?_
                    refine tn <| ?_
                    refine wp_ret <| br <| tr <| ?_
                    obtain rfl := Option.some.inj hm
                    exact r2 hF Tryd.results44 rfl rfl ⟨rfl, hS.keep⟩
                  ·
                    replace hm := itp_f hm hb24
                    refine tn <| cfv hF rfl hb24 <| th <| ?_
                    refine rg <| ?_
                    refine ls <| q1 hF rfl (e_eql hF rfl rfl) fun a hF => ?_
                    refine ls <| q1 hF rfl (e_asg hF rfl) fun a hF => ?_
                    refine re <| ?_
                    rcases bdich (decide (p1 = 14)) with hb27 | hb27
                    ·
                      replace hm := itp_t hm hb27
                      refine tn <| ctv hF rfl hb27 <| th <| ?_
                      replace hm := bind_some hm
                      obtain ⟨r28, h29, hm⟩ := hm
                      refine rg <| ?_
                      refine ls <| q1 hF rfl (e_move hF rfl) fun a hF => ?_
                      refine ls <| q1 hF rfl (e_neq hF rfl rfl) fun a hF => ?_
                      refine ls <| q1 hF rfl (e_move hF rfl) fun a hF => ?_
                      refine grp (N := 84) (Fk := [(73, .bool ((decide (p2 ≠ 0)) && (decide (p3 ≠ 0))))]) (b := (decide (p2 ≠ 0))) 3 hS ?_ ?_ ?_
                      ·
                        intro hb key
                        replace hF := Fr.as hF (t := 70) rfl (congrArg Value.bool hb)
                        refine ls <| gy hF rfl rfl <| q1 hF rfl (e_move hF rfl) fun a hF => ?_
                        refine ls <| gy hF rfl rfl <| q1 hF rfl (e_neq hF rfl rfl) fun a hF => ?_
                        refine ls <| q1 hF rfl (e_as (v' := .bool ((decide (p2 ≠ 0)) && (decide (p3 ≠ 0)))) (e_pickT hF rfl rfl) (by rw [hb]; rfl)) fun a hF => ?_
                        exact key _ _ (hF.has ⟨rfl, trivial⟩) hS
                      ·
                        intro hb key
                        replace hF := Fr.as hF (t := 70) rfl (congrArg Value.bool hb)
                        refine ls <| gn hF rfl rfl rfl rfl fun a hF => ?_
                        refine ls <| gn hF rfl rfl rfl rfl fun a hF => ?_
                        refine ls <| q1 hF rfl (e_as (v' := .bool ((decide (p2 ≠ 0)) && (decide (p3 ≠ 0)))) (e_pickF hF rfl rfl) (by rw [hb]; rfl)) fun a hF => ?_
                        exact key _ _ (hF.has ⟨rfl, trivial⟩) hS
                      intro a w hF hS
                      refine ls <| c1 hF rfl Tryd.call62 (leadlineref01_Bool_c (hp_le _) h29) ⟨rfl, trivial⟩ (fun v w a hR hF => ?_)
                      obtain ⟨rfl, hk⟩ := hR
                      replace hS := hS.pass hk
                      clear hk
                      refine ls <| q1 hF rfl (e_asg hF rfl) fun a hF => ?_
                      refine ls <| q1 hF rfl (e_asg hF rfl) fun a hF => ?_
                      refine re <| ?_
                      refine tn <| ?_
                      refine wp_ret <| br <| tr <| ?_
                      obtain rfl := Option.some.inj hm
                      exact r2 hF Tryd.results44 rfl rfl ⟨rfl, hS.keep⟩
                    ·
                      replace hm := itp_f hm hb27
                      refine tn <| cfv hF rfl hb27 <| th <| ?_
                      refine rg <| ?_
                      refine ls <| q1 hF rfl (e_eql hF rfl rfl) fun a hF => ?_
                      refine ls <| q1 hF rfl (e_asg hF rfl) fun a hF => ?_
                      refine re <| ?_
                      rcases bdich (decide (p1 = 15)) with hb30 | hb30
                      ·
                        replace hm := itp_t hm hb30
                        refine tn <| ctv hF rfl hb30 <| th <| ?_
                        replace hm := bind_some hm
                        obtain ⟨r31, h32, hm⟩ := hm
                        refine rg <| ?_
                        refine ls <| q1 hF rfl (e_move hF rfl) fun a hF => ?_
                        refine ls <| q1 hF rfl (e_neq hF rfl rfl) fun a hF => ?_
                        refine ls <| q1 hF rfl (e_move hF rfl) fun a hF => ?_
                        refine grp (N := 84) (Fk := [(82, .bool ((decide (p2 ≠ 0)) || (decide (p3 ≠ 0))))]) (b := (decide (p2 ≠ 0))) 3 hS ?_ ?_ ?_
                        ·
                          intro hb key
                          replace hF := Fr.as hF (t := 79) rfl (congrArg Value.bool hb)
                          refine ls <| gn hF rfl rfl rfl rfl fun a hF => ?_
                          refine ls <| gn hF rfl rfl rfl rfl fun a hF => ?_
                          refine ls <| q1 hF rfl (e_as (v' := .bool ((decide (p2 ≠ 0)) || (decide (p3 ≠ 0)))) (e_pickT hF rfl rfl) (by rw [hb]; rfl)) fun a hF => ?_
                          exact key _ _ (hF.has ⟨rfl, trivial⟩) hS
                        ·
                          intro hb key
                          replace hF := Fr.as hF (t := 79) rfl (congrArg Value.bool hb)
                          refine ls <| gy hF rfl rfl <| q1 hF rfl (e_move hF rfl) fun a hF => ?_
                          refine ls <| gy hF rfl rfl <| q1 hF rfl (e_neq hF rfl rfl) fun a hF => ?_
                          refine ls <| q1 hF rfl (e_as (v' := .bool ((decide (p2 ≠ 0)) || (decide (p3 ≠ 0)))) (e_pickF hF rfl rfl) (by rw [hb]; rfl)) fun a hF => ?_
                          exact key _ _ (hF.has ⟨rfl, trivial⟩) hS
                        intro a w hF hS
                        refine ls <| c1 hF rfl Tryd.call62 (leadlineref01_Bool_c (hp_le _) h32) ⟨rfl, trivial⟩ (fun v w a hR hF => ?_)
                        obtain ⟨rfl, hk⟩ := hR
                        replace hS := hS.pass hk
                        clear hk
                        refine ls <| q1 hF rfl (e_asg hF rfl) fun a hF => ?_
                        refine ls <| q1 hF rfl (e_asg hF rfl) fun a hF => ?_
                        refine re <| ?_
                        refine tn <| ?_
                        refine wp_ret <| br <| tr <| ?_
                        obtain rfl := Option.some.inj hm
                        exact r2 hF Tryd.results44 rfl rfl ⟨rfl, hS.keep⟩
                      ·
                        replace hm := itp_f hm hb30
                        refine tn <| cfv hF rfl hb30 <| wp_skip <| ?_
                        refine bn <| tn <| th <| ?_
                        refine rg <| ?_
                        refine ls <| q1 hF rfl (e_asg hF rfl) fun a hF => ?_
                        refine ls <| q1 hF rfl (e_asg hF rfl) fun a hF => ?_
                        refine re <| ?_
                        refine tn <| ?_
                        refine wp_ret <| ?_
                        obtain rfl := Option.some.inj hm
                        exact r2 hF Tryd.results44 rfl rfl ⟨rfl, hS.keep⟩

set_option maxRecDepth 100000 in
theorem leadlineref08_value_c : ∀ (N : Nat) {w0 : World} {H : PH} (hH : H.le w0) {oa2 : Option Addr} {cap3 : Nat} {p1 : (List api_Node)} (hc4 : p1.length ≤ cap3) (hr5 : SR H oa2 p1) {p6 : Int} {oa8 : Option Addr} {cap9 : Nat} {p7 : (List Str)} (hc10 : p7.length ≤ cap9) (hr11 : SR H oa8 p7) {oa13 : Option Addr} {cap14 : Nat} {p12 : (List Int)} (hc15 : p12.length ≤ cap14) (hr16 : SR H oa13 p12) {r : (Int × Int)} (hm : leadlineref08_value N p1 p6 p7 p12 = some r), Tot Tryd.prog 33 #[.slice oa2 p1.length cap3, .int .i64 p6, .slice oa8 p7.length cap9, .slice oa13 p12.length cap14] w0 (fun v w' => v = .tuple #[.int .i64 r.1, .int .i64 r.2] ∧ Keep Nil w0 w') := by
  intro N
  induction N with
  | zero => intros; rename_i hm; simp [leadlineref08_value] at hm
  | succ N ih =>
  intro w0 H hH oa2 cap3 p1 hc4 hr5 p6 oa8 cap9 p7 hc10 hr11 oa13 cap14 p12 hc15 hr16 r hm
  rw [leadlineref08_value] at hm
  refine fn0 (args := [.slice oa2 p1.length cap3, .int .i64 p6, .slice oa8 p7.length cap9, .slice oa13 p12.length cap14]) (F := [(0, .slice oa2 p1.length cap3), (1, .int .i64 p6), (2, .slice oa8 p7.length cap9), (3, .slice oa13 p12.length cap14)]) Tryd.func33 rfl Tryd.ntmps33 rfl rfl fun a hF => ?_
  have hS : St w0 Nil [H] [] w0 := start1 hH
  refine th <| ?_
  refine rg <| ?_
  refine ls <| q1 hF rfl (e_asg hF rfl) fun a hF => ?_
  refine ls <| q1 hF rfl (e_asg hF rfl) fun a hF => ?_
  refine re <| ?_
  refine tn <| th <| ?_
  replace hm := bind_some hm
  obtain ⟨x17, h18, hm⟩ := hm
  obtain ⟨c19, g20, hl21⟩ := SR.get hr5 h18
  obtain rfl := api_Node_open g20
  refine rg <| ?_
  refine ls <| q1 hF rfl (e_move hF rfl) fun a hF => ?_
  refine ls <| q1 hF rfl (e_move hF rfl) fun a hF => ?_
  refine ls <| q1 hF rfl (e_iaI hF Tryd.runUnderlying22 Tryd.sizeOf39 rfl rfl h18 (SR.oaI hr5 (by decide) h18)) fun a hF => ?_
  refine ls <| q1 hF rfl (e_ldA hF Tryd.isAgg39 Tryd.sizeOf39 rfl rfl (fun j v hj => PH.le.cell (Lds.le (St.ld hS)) (hl21 j v hj))) fun a hF => ?_
  refine ls <| a_alloc (cs := [.int .i64 0, .int .i64 0, strv [], .int .i64 0].toArray) hF rfl hS Tryd.zeroValue39 rfl fun b22 w a hS hF => ?_
  refine ls <| s_blkA hF hS Tryd.sizeOf39 rfl rfl rfl rfl (one_cells rfl) .head fun w hS => ?_
  refine re <| ?_
  refine tn <| th <| th <| ?_
  refine rg <| ?_
  refine ls <| q1 hF rfl (e_fa hF fa39_0 rfl) fun a hF => ?_
  refine ls <| q1 hF rfl (e_ld hF Tryd.isAgg3 rfl ((St.ld hS).cellB (.head _) rfl)) fun a hF => ?_
  refine ls <| q1 hF rfl (e_eql hF rfl rfl) fun a hF => ?_
  refine re <| ?_
  rcases bdich (decide (x17.Op = 1)) with hb23 | hb23
  ·
    replace hm := itp_t hm hb23
    refine tn <| ctv hF rfl hb23 <| th <| ?_
    refine rg <| ?_
    refine ls <| q1 hF rfl (e_fa hF fa39_1 rfl) fun a hF => ?_
    refine ls <| q1 hF rfl (e_ld hF Tryd.isAgg3 rfl ((St.ld hS).cellB (.head _) rfl)) fun a hF => ?_
    refine ls <| q1 hF rfl (e_asg hF rfl) fun a hF => ?_
    refine ls <| q1 hF rfl (e_asg hF rfl) fun a hF => ?_
    refine re <| ?_
    refine tn <| ?_
    refine wp_ret <| tr <| ?_
    obtain rfl := Option.some.inj hm
    exact r2 hF Tryd.results33 rfl rfl ⟨rfl, hS.keep⟩
  ·
    replace hm := itp_f hm hb23
    refine tn <| cfv hF rfl hb23 <| wp_skip <| ?_
    refine tn <| th <| th <| ?_
    refine rg <| ?_
    refine ls <| q1 hF rfl (e_fa hF fa39_0 rfl) fun a hF => ?_
    refine ls <| q1 hF rfl (e_ld hF Tryd.isAgg3 rfl ((St.ld hS).cellB (.head _) rfl)) fun a hF => ?_
    refine ls <| q1 hF rfl (e_eql hF rfl rfl) fun a hF => ?_
    refine re <| ?_
    rcases bdich (decide (x17.Op = 2)) with hb24 | hb24
    ·
      replace hm := itp_t hm hb24
      refine tn <| ctv hF rfl hb24 <| th <| ?_
      replace hm := bind_some hm
      obtain ⟨r25, h26, hm⟩ := hm
      replace hm := bind_some hm
      obtain ⟨x27, h28, hm⟩ := hm
      obtain ⟨c29, g30, hl31⟩ := SR.get hr16 h28
      obtain rfl : c29 = [.int .i64 x27] := g30
      refine rg <| ?_
      refine ls <| q1 hF rfl (e_move hF rfl) fun a hF => ?_
      refine ls <| q1 hF rfl (e_move hF rfl) fun a hF => ?_
      refine ls <| q1 hF rfl (e_fa hF fa39_2 rfl) fun a hF => ?_
      refine ls <| q1 hF rfl (e_ld hF Tryd.isAgg9 rfl ((St.ld hS).cellB (.head _) rfl)) fun a hF => ?_
      refine ls <| c1 hF rfl Tryd.call30 (leadlineref06_Place_c (hp_le _) hc10 (St.srH hS hr11) h26) ⟨rfl, rfl, trivial⟩ (fun v w a hR hF => ?_)
      obtain ⟨rfl, hk⟩ := hR
      replace hS := hS.pass hk
      clear hk
      refine ls <| q1 hF rfl (e_iaI hF Tryd.runUnderlying33 Tryd.sizeOf3 rfl rfl h28 (SR.oaI hr16 (by decide) h28)) fun a hF => ?_
      refine ls <| q1 hF rfl (e_ld hF Tryd.isAgg3 rfl (PH.le.cell (Lds.le (St.ld hS)) (hl31 0 _ rfl))) fun a hF => ?_
      refine ls <| q1 hF rfl (e_asg hF rfl) fun a hF => ?_
      refine ls <| q1 hF rfl (e_asg hF rfl) fun a hF => ?_
      refine re <| ?_
      refine tn <| ?_
      refine wp_ret <| tr <| ?_
      obtain rfl := Option.some.inj hm
      exact r2 hF Tryd.results33 rfl rfl ⟨rfl, hS.keep⟩
    ·
      replace hm := itp_f hm hb24
      refine tn <| cfv hF rfl hb24 <| wp_skip <| ?_
      refine tn <| th <| ?_
      replace hm := bind_some hm
      obtain ⟨r32, h33, hm⟩ := hm
      refine rg <| ?_
      refine ls <| q1 hF rfl (e_move hF rfl) fun a hF => ?_
      refine ls <| q1 hF rfl (e_move hF rfl) fun a hF => ?_
      refine ls <| q1 hF rfl (e_add hF rfl rfl) fun a hF => ?_
      refine ls <| q1 hF rfl (e_move hF rfl) fun a hF => ?_
      refine ls <| q1 hF rfl (e_move hF rfl) fun a hF => ?_
      refine ls <| c1 hF rfl Tryd.call33 (ih (hp_le _) hc4 (St.srH hS hr5) hc10 (St.srH hS hr11) hc15 (St.srH hS hr16) h33) ⟨rfl, rfl, rfl, rfl, trivial⟩ (fun v w a hR hF => ?_)
      obtain ⟨rfl, hk⟩ := hR
      replace hS := hS.pass hk
      clear hk
      refine ls <| q1 hF rfl (e_move hF rfl) fun a hF => ?_
      refine ls <| q1 hF rfl (e_ext hF rfl rfl) fun a hF => ?_
      refine ls <| q1 hF rfl (e_ext hF rfl rfl) fun a hF => ?_
      refine ls <| q1 hF rfl (e_asg hF rfl) fun a hF => ?_
      refine ls <| q1 hF rfl (e_asg hF rfl) fun a hF => ?_
      refine re <| ?_
      refine tn <| th <| th <| ?_
      refine rg <| ?_
      refine ls <| q1 hF rfl (e_move hF rfl) fun a hF => ?_
      refine ls <| q1 hF rfl (e_neq hF rfl rfl) fun a hF => ?_
      refine re <| ?_
      rcases bdich (decide (r32.2 ≠ 0)) with hb34 | hb34
      ·
        replace hm := itp_t hm hb34
        refine tn <| ctv hF rfl hb34 <| th <| ?_
        refine rg <| ?_
        refine ls <| q1 hF rfl (e_move hF rfl) fun a hF => ?_
        refine ls <| q1 hF rfl (e_asg hF rfl) fun a hF => ?_
        refine ls <| q1 hF rfl (e_asg hF rfl) fun a hF => ?_
        refine re <| ?_
        refine tn <| ?_
        refine wp_ret <| tr <| ?_
        obtain rfl := Option.some.inj hm
        exact r2 hF Tryd.results33 rfl rfl ⟨rfl, hS.keep⟩
      ·
        replace hm := itp_f hm hb34
        refine tn <| cfv hF rfl hb34 <| wp_skip <| ?_
        refine tn <| th <| th <| ?_
        replace hm := bind_some hm
        obtain ⟨r35, h36, hm⟩ := hm
        refine rg <| ?_
        refine ls <| q1 hF rfl (e_fa hF fa39_0 rfl) fun a hF => ?_
        refine ls <| q1 hF rfl (e_ld hF Tryd.isAgg3 rfl ((St.ld hS).cellB (.head _) rfl)) fun a hF => ?_
        refine ls <| c1 hF rfl Tryd.call17 (leadlineref03_Kids_c (hp_le _) h36) ⟨rfl, trivial⟩ (fun v w a hR hF => ?_)
        obtain ⟨rfl, hk⟩ := hR
        replace hS := hS.pass hk
        clear hk
        refine ls <| q1 hF rfl (e_eql hF rfl rfl) fun a hF => ?_
        refine re <| ?_
        rcases bdich (decide (r35 = 1)) with hb37 | hb37
        ·
          replace hm := itp_t hm hb37
          refine tn <| ctv hF rfl hb37 <| th <| ?_
          replace hm := bind_some hm
          obtain ⟨r38, h39, hm⟩ := hm
          refine rg <| ?_
          refine ls <| q1 hF rfl (e_fa hF fa39_0 rfl) fun a hF => ?_
          refine ls <| q1 hF rfl (e_ld hF Tryd.isAgg3 rfl ((St.ld hS).cellB (.head _) rfl)) fun a hF => ?_
          refine ls <| q1 hF rfl (e_move hF rfl) fun a hF => ?_
          refine ls <| c1 hF rfl Tryd.call43 (leadlineref01_One_c (hp_le _) h39) ⟨rfl, rfl, trivial⟩ (fun v w a hR hF => ?_)
          obtain ⟨rfl, hk⟩ := hR
          replace hS := hS.pass hk
          clear hk
          refine ls <| q1 hF rfl (e_ext hF rfl rfl) fun a hF => ?_
          refine ls <| q1 hF rfl (e_ext hF rfl rfl) fun a hF => ?_
          refine ls <| q1 hF rfl (e_asg hF rfl) fun a hF => ?_
          refine ls <| q1 hF rfl (e_asg hF rfl) fun a hF => ?_
          refine re <| ?_
          refine tn <| ?_
          refine wp_ret <| tr <| ?_
          obtain rfl := Option.some.inj hm
          exact r2 hF Tryd.results33 rfl rfl ⟨rfl, hS.keep⟩
        ·
          replace hm := itp_f hm hb37
          refine tn <| cfv hF rfl hb37 <| wp_skip <| ?_
          refine tn <| th <| ?_
          replace hm := bind_some hm
          obtain ⟨r40, h41, hm⟩ := hm
          replace hm := bind_some hm
          obtain ⟨r42, h43, hm⟩ := hm
          refine rg <| ?_
          refine ls <| q1 hF rfl (e_move hF rfl) fun a hF => ?_
          refine ls <| q1 hF rfl (e_move hF rfl) fun a hF => ?_
          refine ls <| q1 hF rfl (e_move hF rfl) fun a hF => ?_
          refine ls <| q1 hF rfl (e_add hF rfl rfl) fun a hF => ?_
          refine ls <| c1 hF rfl Tryd.call52 (leadlineref03_End_c _ (hp_le _) hc4 (St.srH hS hr5) h41) ⟨rfl, rfl, trivial⟩ (fun v w a hR hF => ?_)
          obtain ⟨rfl, hk⟩ := hR
          replace hS := hS.pass hk
          clear hk
          refine ls <| q1 hF rfl (e_move hF rfl) fun a hF => ?_
          refine ls <| q1 hF rfl (e_move hF rfl) fun a hF => ?_
          refine ls <| c1 hF rfl Tryd.call33 (ih (hp_le _) hc4 (St.srH hS hr5) hc10 (St.srH hS hr11) hc15 (St.srH hS hr16) h43) ⟨rfl, rfl, rfl, rfl, trivial⟩ (fun v w a hR hF => ?_)
          obtain ⟨rfl, hk⟩ := hR
          replace hS := hS.pass hk
          clear hk
          refine ls <| q1 hF rfl (e_move hF rfl) fun a hF => ?_
          refine ls <| q1 hF rfl (e_ext hF rfl rfl) fun a hF => ?_
          refine ls <| q1 hF rfl (e_ext hF rfl rfl) fun a hF => ?_
          refine ls <| q1 hF rfl (e_asg hF rfl) fun a hF => ?_
          refine ls <| q1 hF rfl (e_asg hF rfl) fun a hF => ?_
          refine re <| ?_
          refine tn <| th <| th <| ?_
          refine rg <| ?_
          refine ls <| q1 hF rfl (e_move hF rfl) fun a hF => ?_
          refine ls <| q1 hF rfl (e_neq hF rfl rfl) fun a hF => ?_
          refine re <| ?_
          rcases bdich (decide (r42.2 ≠ 0)) with hb44 | hb44
          ·
            replace hm := itp_t hm hb44
            refine tn <| ctv hF rfl hb44 <| th <| ?_
            refine rg <| ?_
            refine ls <| q1 hF rfl (e_move hF rfl) fun a hF => ?_
            refine ls <| q1 hF rfl (e_asg hF rfl) fun a hF => ?_
            refine ls <| q1 hF rfl (e_asg hF rfl) fun a hF => ?_
            refine re <| ?_
            refine tn <| ?_
            refine wp_ret <| tr <| ?_
            obtain rfl := Option.some.inj hm
            exact r2 hF Tryd.results33 rfl rfl ⟨rfl, hS.keep⟩
          ·
            replace hm := itp_f hm hb44
            refine tn <| cfv hF rfl hb44 <| wp_skip <| ?_
            refine tn <| th <| ?_
            replace hm := bind_some hm
            obtain ⟨r45, h46, hm⟩ := hm
            refine rg <| ?_
            refine ls <| q1 hF rfl (e_fa hF fa39_0 rfl) fun a hF => ?_
            refine ls <| q1 hF rfl (e_ld hF Tryd.isAgg3 rfl ((St.ld hS).cellB (.head _) rfl)) fun a hF => ?_
            refine ls <| q1 hF rfl (e_move hF rfl) fun a hF => ?_
            refine ls <| q1 hF rfl (e_move hF rfl) fun a hF => ?_
            refine ls <| c1 hF rfl Tryd.call44 (leadlineref01_Two_c (hp_le _) h46) ⟨rfl, rfl, rfl, trivial⟩ (fun v w a hR hF => ?_)
            obtain ⟨rfl, hk⟩ := hR
            replace hS := hS.pass hk
            clear hk
            refine ls <| q1 hF rfl (e_ext hF rfl rfl) fun a hF => ?_
            refine ls <| q1 hF rfl (e_ext hF rfl rfl) fun a hF => ?_
            refine ls <| q1 hF rfl (e_asg hF rfl) fun a hF => ?_
            refine ls <| q1 hF rfl (e_asg hF rfl) fun a hF => ?_
            refine re <| ?_
            refine tn <| ?_
            refine wp_ret <| ?_
            obtain rfl := Option.some.inj hm
            exact r2 hF Tryd.results33 rfl rfl ⟨rfl, hS.keep⟩

set_option maxRecDepth 100000 in
theorem leadlineref08_Value_c {N : Nat} {w0 : World} {H : PH} (hH : H.le w0) {oa2 : Option Addr} {cap3 : Nat} {p1 : (List api_Node)} (hc4 : p1.length ≤ cap3) (hr5 : SR H oa2 p1) {oa7 : Option Addr} {cap8 : Nat} {p6 : (List Str)} (hc9 : p6.length ≤ cap8) (hr10 : SR H oa7 p6) {oa12 : Option Addr} {cap13 : Nat} {p11 : (List Int)} (hc14 : p11.length ≤ cap13) (hr15 : SR H oa12 p11) {r : (Int × Int)} (hm : leadlineref08_Value N p1 p6 p11 = some r) : Tot Tryd.prog 16 #[.slice oa2 p1.length cap3, .slice oa7 p6.length cap8, .slice oa12 p11.length cap13] w0 (fun v w' => v = .tuple #[.int .i64 r.1, .int .i64 r.2] ∧ Keep Nil w0 w') := by
  unfold leadlineref08_Value at hm
  refine fn0 (args := [.slice oa2 p1.length cap3, .slice oa7 p6.length cap8, .slice oa12 p11.length cap13]) (F := [(0, .slice oa2 p1.length cap3), (1, .slice oa7 p6.length cap8), (2, .slice oa12 p11.length cap13)]) Tryd.func16 rfl Tryd.ntmps16 rfl rfl fun a hF => ?_
  have hS : St w0 Nil [H] [] w0 := start1 hH
  refine th <| ?_
  refine rg <| ?_
  refine ls <| q1 hF rfl (e_asg hF rfl) fun a hF => ?_
  refine ls <| q1 hF rfl (e_asg hF rfl) fun a hF => ?_
  refine re <| ?_
  refine tn <| th <| th <| ?_
  refine rg <| ?_
  refine ls <| q1 hF rfl (e_move hF rfl) fun a hF => ?_
  refine ls <| q1 hF rfl (e_lenL (α := Str) (xs := p6) hF Tryd.runUnderlying23 rfl) fun a hF => ?_
  refine ls <| q1 hF rfl (e_move hF rfl) fun a hF => ?_
  refine ls <| q1 hF rfl (e_lenL (α := Int) (xs := p11) hF Tryd.runUnderlying33 rfl) fun a hF => ?_
  refine ls <| q1 hF rfl (e_neq hF rfl rfl) fun a hF => ?_
  refine re <| ?_
  rcases bdich (decide ((p6.length : Int) ≠ (p11.length : Int))) with hb16 | hb16
  ·
    replace hm := itp_t hm hb16
    refine tn <| ctv hF rfl hb16 <| th <| ?_
    refine rg <| ?_
    refine ls <| q1 hF rfl (e_asg hF rfl) fun a hF => ?_
    refine ls <| q1 hF rfl (e_asg hF rfl) fun a hF => ?_
    refine re <| ?_
    refine tn <| ?_
    refine wp_ret <| tr <| ?_
    obtain rfl := Option.some.inj hm
    exact r2 hF Tryd.results16 rfl rfl ⟨rfl, hS.keep⟩
  ·
    replace hm := itp_f hm hb16
    refine tn <| cfv hF rfl hb16 <| wp_skip <| ?_
    refine tn <| th <| ?_
    replace hm := bind_some hm
    obtain ⟨r17, h18, hm⟩ := hm
    refine rg <| ?_
    refine ls <| q1 hF rfl (e_move hF rfl) fun a hF => ?_
    refine ls <| q1 hF rfl (e_move hF rfl) fun a hF => ?_
    refine ls <| c1 hF rfl Tryd.call12 (leadlineref08_Make_c (hp_le _) hc4 (St.srH hS hr5) hc9 (St.srH hS hr10) h18) ⟨rfl, rfl, trivial⟩ (fun v w a hR hF => ?_)
    obtain ⟨oa19, cap20, vs21, rfl, hv22, hk⟩ := hR
    replace hS := hS.fresh hk
    clear hk
    replace hv22 := hv22 H
    refine ls <| q1 hF rfl (e_move hF rfl) fun a hF => ?_
    refine ls <| q1 hF rfl (e_ext hF rfl rfl) fun a hF => ?_
    refine ls <| q1 hF rfl (e_ext hF rfl rfl) fun a hF => ?_
    refine ls <| q1 hF rfl (e_asg hF rfl) fun a hF => ?_
    refine ls <| q1 hF rfl (e_asg hF rfl) fun a hF => ?_
    refine re <| ?_
    refine tn <| th <| th <| ?_
    refine rg <| ?_
    refine ls <| q1 hF rfl (e_move hF rfl) fun a hF => ?_
    refine ls <| q1 hF rfl (e_neq hF rfl rfl) fun a hF => ?_
    refine re <| ?_
    rcases bdich (decide (r17.2 ≠ 0)) with hb24 | hb24
    ·
      replace hm := itp_t hm hb24
      refine tn <| ctv hF rfl hb24 <| th <| ?_
      refine rg <| ?_
      refine ls <| q1 hF rfl (e_move hF rfl) fun a hF => ?_
      refine ls <| q1 hF rfl (e_asg hF rfl) fun a hF => ?_
      refine ls <| q1 hF rfl (e_asg hF rfl) fun a hF => ?_
      refine re <| ?_
      refine tn <| ?_
      refine wp_ret <| tr <| ?_
      obtain rfl := Option.some.inj hm
      exact r2 hF Tryd.results16 rfl rfl ⟨rfl, hS.keep⟩
    ·
      replace hm := itp_f hm hb24
      refine tn <| cfv hF rfl hb24 <| wp_skip <| ?_
      refine tn <| th <| ?_
      replace hm := bind_some hm
      obtain ⟨r25, h26, hm⟩ := hm
      refine rg <| ?_
      refine ls <| q1 hF rfl (e_move hF rfl) fun a hF => ?_
      refine ls <| q1 hF rfl (e_move hF rfl) fun a hF => ?_
      refine ls <| q1 hF rfl (e_move hF rfl) fun a hF => ?_
      refine ls <| c1 hF rfl Tryd.call33 (leadlineref08_value_c _ (hp_le _) hc4 (St.srH hS hr5) hc9 (St.srH hS hr10) hc14 (St.srH hS hr15) h26) ⟨rfl, rfl, rfl, rfl, trivial⟩ (fun v w a hR hF => ?_)
      obtain ⟨rfl, hk⟩ := hR
      replace hS := hS.pass hk
      clear hk
      refine ls <| q1 hF rfl (e_ext hF rfl rfl) fun a hF => ?_
      refine ls <| q1 hF rfl (e_ext hF rfl rfl) fun a hF => ?_
      refine ls <| q1 hF rfl (e_asg hF rfl) fun a hF => ?_
      refine ls <| q1 hF rfl (e_asg hF rfl) fun a hF => ?_
      refine re <| ?_
      refine tn <| ?_
      refine wp_ret <| ?_
      obtain rfl := Option.some.inj hm
      exact r2 hF Tryd.results16 rfl rfl ⟨rfl, hS.keep⟩

set_option maxRecDepth 100000 in
theorem leadlinelaw08_CodeValues_c {N : Nat} {w0 : World} {H : PH} (hH : H.le w0) (hT : Tab H) {oa2 : Option Addr} {cap3 : Nat} {p1 : (List api_Node)} (hc4 : p1.length ≤ cap3) (hr5 : SR H oa2 p1) {oa7 : Option Addr} {cap8 : Nat} {p6 : (List Str)} (hc9 : p6.length ≤ cap8) (hr10 : SR H oa7 p6) {oa12 : Option Addr} {cap13 : Nat} {p11 : (List Int)} (hc14 : p11.length ≤ cap13) (hr15 : SR H oa12 p11) {r : Bool} (hm : leadlinelaw08_CodeValues N p1 p6 p11 = some r) : Tot Tryd.prog 4 #[.slice oa2 p1.length cap3, .slice oa7 p6.length cap8, .slice oa12 p11.length cap13] w0 (fun v w' => v = .bool r ∧ Keep Nil w0 w') := by
  unfold leadlinelaw08_CodeValues at hm
  refine fn0 (args := [.slice oa2 p1.length cap3, .slice oa7 p6.length cap8, .slice oa12 p11.length cap13]) (F := [(0, .slice oa2 p1.length cap3), (1, .slice oa7 p6.length cap8), (2, .slice oa12 p11.length cap13)]) Tryd.func4 rfl Tryd.ntmps4 rfl rfl fun a hF => ?_
  have hS : St w0 Nil [H] [] w0 := start1 hH
  refine th <| ?_
  refine rg <| ?_
  refine ls <| q1 hF rfl (e_asg hF rfl) fun a hF => ?_
  refine re <| ?_
  refine tn <| th <| ?_
  replace hm := bind_some hm
  obtain ⟨r16, h17, hm⟩ := hm
  refine rg <| ?_
  refine ls <| q1 hF rfl (e_move hF rfl) fun a hF => ?_
  refine ls <| c1 hF rfl Tryd.call9 (leadlinelaw03_Cut_c (hp_le _) hc4 (St.srH hS hr5) h17) ⟨rfl, trivial⟩ (fun v w a hR hF => ?_)
  obtain ⟨oa18, cap19, vs20, rfl, hv21, hk⟩ := hR
  replace hS := hS.fresh hk
  clear hk
  replace hv21 := hv21 H
  refine ls <| q1 hF rfl (e_asg hF rfl) fun a hF => ?_
  refine re <| ?_
  refine tn <| th <| ?_
  replace hm := bind_some hm
  obtain ⟨r23, h24, hm⟩ := hm
  refine rg <| ?_
  refine ls <| q1 hF rfl (e_move hF rfl) fun a hF => ?_
  refine ls <| c1 hF rfl Tryd.call10 (leadlinelaw08_few_c (hp_le _) hc9 (St.srH hS hr10) h24) ⟨rfl, trivial⟩ (fun v w a hR hF => ?_)
  obtain ⟨oa25, cap26, vs27, rfl, hv28, hk⟩ := hR
  replace hS := hS.fresh hk
  clear hk
  replace hv28 := hv28 H
  refine ls <| q1 hF rfl (e_asg hF rfl) fun a hF => ?_
  refine re <| ?_
  refine tn <| th <| ?_
  replace hm := bind_some hm
  obtain ⟨l30, h31, hm⟩ := hm
  obtain ⟨oa32, cap33, e34, e35, hc36, hr37⟩ := SR.sub (sz := 1) hr15 hc14 rfl h31
  refine rg <| ?_
  refine ls <| q1 hF rfl (e_move hF rfl) fun a hF => ?_
  refine ls <| q1 hF rfl (e_move hF rfl) fun a hF => ?_
  refine ls <| q1 hF rfl (e_lenL (α := Int) (xs := p11) hF Tryd.runUnderlying33 rfl) fun a hF => ?_
  refine ls <| q1 hF rfl (e_min hF rfl rfl) fun a hF => ?_
  refine ls <| q1 hF rfl (e_subL (xs := p11) (vl := 0) (vh := (min (p11.length : Int) 8)) hF Tryd.runUnderlying33 Tryd.sizeOf3 rfl hc14 rfl rfl h31 e34 e35) fun a hF => ?_
  refine ls <| q1 hF rfl (e_asg hF rfl) fun a hF => ?_
  refine re <| ?_
  refine tn <| th <| ?_
  replace hm := bind_some hm
  obtain ⟨r38, h39, hm⟩ := hm
  refine rg <| ?_
  refine ls <| q1 hF rfl (e_move hF rfl) fun a hF => ?_
  refine ls <| q1 hF rfl (e_move hF rfl) fun a hF => ?_
  refine ls <| q1 hF rfl (e_move hF rfl) fun a hF => ?_
  refine ls <| c1 hF rfl Tryd.call15 (code_Value_c (hp_le _) (Tab.mono hT (St.up hS)) (St.capO hS (.tail _ (.head _))) (St.srO hS (.tail _ (.head _)) hv21) (St.capO hS (.head _)) (St.srO hS (.head _) hv28) hc36 (St.srH hS hr37) h39) ⟨rfl, rfl, rfl, trivial⟩ (fun v w a hR hF => ?_)
  obtain ⟨rfl, hk⟩ := hR
  replace hS := hS.pass hk
  clear hk
  refine ls <| q1 hF rfl (e_move hF rfl) fun a hF => ?_
  refine ls <| q1 hF rfl (e_ext hF rfl rfl) fun a hF => ?_
  refine ls <| q1 hF rfl (e_ext hF rfl rfl) fun a hF => ?_
  refine ls <| q1 hF rfl (e_asg hF rfl) fun a hF => ?_
  refine ls <| q1 hF rfl (e_asg hF rfl) fun a hF => ?_
  refine re <| ?_
  refine tn <| th <| ?_
  replace hm := bind_some hm
  obtain ⟨r40, h41, hm⟩ := hm
  refine rg <| ?_
  refine ls <| q1 hF rfl (e_move hF rfl) fun a hF => ?_
  refine ls <| q1 hF rfl (e_move hF rfl) fun a hF => ?_
  refine ls <| q1 hF rfl (e_move hF rfl) fun a hF => ?_
  refine ls <| c1 hF rfl Tryd.call16 (leadlineref08_Value_c (hp_le _) (St.capO hS (.tail _ (.head _))) (St.srO hS (.tail _ (.head _)) hv21) (St.capO hS (.head _)) (St.srO hS (.head _) hv28) hc36 (St.srH hS hr37) h41) ⟨rfl, rfl, rfl, trivial⟩ (fun v w a hR hF => ?_)
  obtain ⟨rfl, hk⟩ := hR
  replace hS := hS.pass hk
  clear hk
  refine ls <| q1 hF rfl (e_move hF rfl) fun a hF => ?_
  refine ls <| q1 hF rfl (e_ext hF rfl rfl) fun a hF => ?_
  refine ls <| q1 hF rfl (e_ext hF rfl rfl) fun a hF => ?_
  refine ls <| q1 hF rfl (e_asg hF rfl) fun a hF => ?_
  refine ls <| q1 hF rfl (e_asg hF rfl) fun a hF => ?_
  refine re <| ?_
  refine tn <| th <| ?_
  rcases bdich ((decide (r38.1 = r40.1)) && (decide (r38.2 = r40.2))) with hb42 | hb42
  ·
    replace hm := ite_t hm hb42
    replace hm := bind_some hm
    obtain ⟨r43, h44, hm⟩ := hm
    refine rg <| ?_
    refine ls <| q1 hF rfl (e_move hF rfl) fun a hF => ?_
    refine ls <| q1 hF rfl (e_move hF rfl) fun a hF => ?_
    refine ls <| q1 hF rfl (e_eql hF rfl rfl) fun a hF => ?_
    refine ls <| q1 hF rfl (e_move hF rfl) fun a hF => ?_
    refine grp (N := 45) (Fk := [(41, .bool ((decide (r38.1 = r40.1)) && (decide (r38.2 = r40.2))))]) (b := (decide (r38.1 = r40.1))) 4 hS ?_ ?_ ?_
    ·
      intro hb key
      replace hF := Fr.as hF (t := 37) rfl (congrArg Value.bool hb)
      refine ls <| gy hF rfl rfl <| q1 hF rfl (e_move hF rfl) fun a hF => ?_
      refine ls <| gy hF rfl rfl <| q1 hF rfl (e_move hF rfl) fun a hF => ?_
      refine ls <| gy hF rfl rfl <| q1 hF rfl (e_eql hF rfl rfl) fun a hF => ?_
      refine ls <| q1 hF rfl (e_as (v' := .bool ((decide (r38.1 = r40.1)) && (decide (r38.2 = r40.2)))) (e_pickT hF rfl rfl) (by rw [hb]; rfl)) fun a hF => ?_
      exact key _ _ (hF.has ⟨rfl, trivial⟩) hS
    ·
      intro hb key
      replace hF := Fr.as hF (t := 37) rfl (congrArg Value.bool hb)
      refine ls <| gn hF rfl rfl rfl rfl fun a hF => ?_
      refine ls <| gn hF rfl rfl rfl rfl fun a hF => ?_
      refine ls <| gn hF rfl rfl rfl rfl fun a hF => ?_
      refine ls <| q1 hF rfl (e_as (v' := .bool ((decide (r38.1 = r40.1)) && (decide (r38.2 = r40.2)))) (e_pickF hF rfl rfl) (by rw [hb]; rfl)) fun a hF => ?_
      exact key _ _ (hF.has ⟨rfl, trivial⟩) hS
    intro a w hF hS
    refine ls <| q1 hF rfl (e_as (e_move hF rfl) (congrArg Value.bool hb42)) fun a hF => ?_
    refine ls <| gy hF rfl rfl <| c1 hF rfl Tryd.call14 (leadlinelaw08_fixed_c (hp_le _) (Tab.mono hT (St.up hS)) h44) trivial (fun v w a hR hF => ?_)
    obtain ⟨rfl, hk⟩ := hR
    replace hS := hS.pass hk
    clear hk
    refine ls <| q1 hF rfl (e_pickT hF rfl rfl) fun a hF => ?_
    refine ls <| q1 hF rfl (e_asg hF rfl) fun a hF => ?_
    refine re <| ?_
    refine tn <| ?_
    refine wp_ret <| ?_
    obtain rfl := Option.some.inj hm
    exact r1 hF Tryd.results4 rfl ⟨rfl, hS.keep⟩
  ·
    replace hm := ite_f hm hb42
    refine rg <| ?_
    refine ls <| q1 hF rfl (e_move hF rfl) fun a hF => ?_
    refine ls <| q1 hF rfl (e_move hF rfl) fun a hF => ?_
    refine ls <| q1 hF rfl (e_eql hF rfl rfl) fun a hF => ?_
    refine ls <| q1 hF rfl (e_move hF rfl) fun a hF => ?_
    refine grp (N := 45) (Fk := [(41, .bool ((decide (r38.1 = r40.1)) && (decide (r38.2 = r40.2))))]) (b := (decide (r38.1 = r40.1))) 4 hS ?_ ?_ ?_
    ·
      intro hb key
      replace hF := Fr.as hF (t := 37) rfl (congrArg Value.bool hb)
      refine ls <| gy hF rfl rfl <| q1 hF rfl (e_move hF rfl) fun a hF => ?_
      refine ls <| gy hF rfl rfl <| q1 hF rfl (e_move hF rfl) fun a hF => ?_
      refine ls <| gy hF rfl rfl <| q1 hF rfl (e_eql hF rfl rfl) fun a hF => ?_
      refine ls <| q1 hF rfl (e_as (v' := .bool ((decide (r38.1 = r40.1)) && (decide (r38.2 = r40.2)))) (e_pickT hF rfl rfl) (by rw [hb]; rfl)) fun a hF => ?_
      exact key _ _ (hF.has ⟨rfl, trivial⟩) hS
    ·
      intro hb key
      replace hF := Fr.as hF (t := 37) rfl (congrArg Value.bool hb)
      refine ls <| gn hF rfl rfl rfl rfl fun a hF => ?_
      refine ls <| gn hF rfl rfl rfl rfl fun a hF => ?_
      refine ls <| gn hF rfl rfl rfl rfl fun a hF => ?_
      refine ls <| q1 hF rfl (e_as (v' := .bool ((decide (r38.1 = r40.1)) && (decide (r38.2 = r40.2)))) (e_pickF hF rfl rfl) (by rw [hb]; rfl)) fun a hF => ?_
      exact key _ _ (hF.has ⟨rfl, trivial⟩) hS
    intro a w hF hS
    refine ls <| q1 hF rfl (e_as (e_move hF rfl) (congrArg Value.bool hb42)) fun a hF => ?_
    refine ls <| gn hF rfl rfl rfl rfl fun a hF => ?_
    refine ls <| q1 hF rfl (e_pickF hF rfl rfl) fun a hF => ?_
    refine ls <| q1 hF rfl (e_asg hF rfl) fun a hF => ?_
    refine re <| ?_
    refine tn <| ?_
    refine wp_ret <| ?_
    obtain rfl := Option.some.inj hm
    exact r1 hF Tryd.results4 rfl ⟨rfl, hS.keep⟩
end Go.LM.CODE
