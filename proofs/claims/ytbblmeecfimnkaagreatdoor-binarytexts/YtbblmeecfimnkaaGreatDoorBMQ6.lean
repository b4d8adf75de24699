/- Walks, lifted by program. No condition beyond the theorems' own premises. -/
import Derived.Test.YtbblmeecfimnkaaGreatDoorBMQ5
namespace Go.LM.BINZ
open Go Go.LL Go.MD Go.LM Go.Proofs Go.MD.BINZ
set_option maxRecDepth 100000
set_option maxRecDepth 100000 in
theorem Z3j_c {N:Nat} {w0:World} {H:PH} (hH:H.le w0) {cs2:List Value} {p1:api_Unit} (g3:Enc.rep H cs2 p1) {r:(Str×Int)} (hm:Z3j N p1=some r):Tot Tryz.prog 9 #[.agg cs2.toArray] w0 (fun v w'=>v=.tuple #[strv r.1,.int .i64 r.2]∧Keep Nil w0 w'):=by
  unfold Z3j at hm
  refine fn0 (args:=[.agg cs2.toArray]) (F:=[(0,.agg cs2.toArray)]) Tryz.func9 rfl Tryz.ntmps9 rfl rfl fun a hF=>?_
  have hS:St w0 Nil [H] [] w0:=start1 hH
  have g4:Enc.rep (α:=(List Int)×Int×(List Int)×Int×(List api_Code)×api_Code×(List (List api_Op))) H cs2 (p1.Lines,p1.Stays,p1.Firsts,p1.Locks,p1.Threads,p1.Recover,p1.Claims):=g3
  obtain ⟨qz5,qz6,rfl,g7,g8⟩:=g4
  obtain ⟨oa9,cap10,rfl,hc11,hr12⟩:=g7
  obtain ⟨q13,q14,rfl,g15,g16⟩:=g8
  obtain rfl:q13=[.int .i64 p1.Stays]:=g15
  obtain ⟨q17,q18,rfl,g19,g20⟩:=g16
  obtain ⟨oa21,cap22,rfl,hc23,hr24⟩:=g19
  obtain ⟨q25,q26,rfl,g27,g28⟩:=g20
  obtain rfl:q25=[.int .i64 p1.Locks]:=g27
  obtain ⟨q29,q30,rfl,g31,g32⟩:=g28
  obtain ⟨oa33,cap34,rfl,hc35,hr36⟩:=g31
  obtain ⟨q37,q38,rfl,g39,g40⟩:=g32
  obtain ⟨oa41,cap42,rfl,hc43,hr44⟩:=api_Code_open g39
  obtain ⟨oa45,cap46,rfl,hc47,hr48⟩:=g40
  refine th<|?_
  refine rg<|?_
  refine ls<|a_box (cs:=[.slice oa9 p1.Lines.length cap10,.int .i64 p1.Stays,.slice oa21 p1.Firsts.length cap22,.int .i64 p1.Locks,.slice oa33 p1.Threads.length cap34,.int .i64 p1.Recover.Regs,.int .i64 p1.Recover.Counts,.slice oa41 p1.Recover.L.length cap42,.slice oa45 p1.Claims.length cap46].toArray) hF rfl hS rfl rfl fun b49 w a hS hF=>?_
  refine ls<|q1 hF rfl (e_asg hF rfl) fun a hF=>?_
  refine ls<|q1 hF rfl (e_asg hF rfl) fun a hF=>?_
  refine re<|?_
  refine tn<|th<|th<|?_
  replace hm:=bind_some hm
  obtain ⟨r50,h51,hm⟩:=hm
  refine rg<|?_
  refine ls<|q1 hF rfl (e_ldA hF Tryz.isAgg29 Tryz.sizeOf29 rfl rfl ((St.ld hS).cellsB (.head _))) fun a hF=>?_
  refine ls<|c1 hF rfl Tryz.call27 (Z2h_c (hp_le _) (Enc.mono (St.up hS) (show Enc.rep (α:=api_Unit) H [.slice oa9 p1.Lines.length cap10,.int .i64 p1.Stays,.slice oa21 p1.Firsts.length cap22,.int .i64 p1.Locks,.slice oa33 p1.Threads.length cap34,.int .i64 p1.Recover.Regs,.int .i64 p1.Recover.Counts,.slice oa41 p1.Recover.L.length cap42,.slice oa45 p1.Claims.length cap46] p1 from ⟨_,_,rfl,⟨_,_,rfl,hc11,hr12⟩,⟨_,_,rfl,rfl,⟨_,_,rfl,⟨_,_,rfl,hc23,hr24⟩,⟨_,_,rfl,rfl,⟨_,_,rfl,⟨_,_,rfl,hc35,hr36⟩,⟨_,_,rfl,⟨_,_,rfl,rfl,⟨_,_,rfl,rfl,⟨_,_,rfl,hc43,hr44⟩⟩⟩,⟨_,_,rfl,hc47,hr48⟩⟩⟩⟩⟩⟩⟩)) h51) ⟨rfl,trivial⟩ (fun v w a hR hF=>?_)
  obtain ⟨rfl,hk⟩:=hR
  replace hS:=hS.pass hk
  clear hk
  refine ls<|q1 hF rfl (e_not hF rfl) fun a hF=>?_
  refine re<|?_
  rcases bdich r50 with hb52 | hb52
  ·
    replace hm:=ite_t hm hb52
    refine tn<|cfv hF rfl (by rw [hb52];rfl)<|wk<|?_
    refine tn<|th<|?_
    replace hm:=bind_some hm
    obtain ⟨r53,h54,hm⟩:=hm
    replace hm:=bind_some hm
    obtain ⟨r55,h56,hm⟩:=hm
    replace hm:=bind_some hm
    obtain ⟨s57,h58,hm⟩:=hm
    replace hm:=bind_some hm
    obtain ⟨r59,h60,hm⟩:=hm
    replace hm:=bind_some hm
    obtain ⟨s61,h62,hm⟩:=hm
    replace hm:=bind_some hm
    obtain ⟨r63,h64,hm⟩:=hm
    replace hm:=bind_some hm
    obtain ⟨s65,h66,hm⟩:=hm
    replace hm:=bind_some hm
    obtain ⟨r67,h68,hm⟩:=hm
    replace hm:=bind_some hm
    obtain ⟨s69,h70,hm⟩:=hm
    refine rdS 21 hS wide fun w hS=>?_
    refine d1 (i:=0) rfl (by kernel_rfl) (by kernel_rfl) (St.ld hS) hF rfl (fun _ _ _ h=>h) (fun w hl=>(e_fa hF fa29_0 rfl)) fun a hF=>?_
    refine d1 (i:=1) rfl (by kernel_rfl) (by kernel_rfl) (St.ld hS) hF rfl (fun _ _ _ h=>h) (fun w hl=>(e_ld hF Tryz.isAgg22 rfl (hl.cellB (.head _) rfl))) fun a hF=>?_
    refine d1 (i:=3) rfl (by kernel_rfl) (by kernel_rfl) (St.ld hS) hF rfl (fun _ _ _ h=>h) (fun w hl=>(e_fa hF fa29_1 rfl)) fun a hF=>?_
    refine d1 (i:=4) rfl (by kernel_rfl) (by kernel_rfl) (St.ld hS) hF rfl (fun _ _ _ h=>h) (fun w hl=>(e_ld hF Tryz.isAgg3 rfl (hl.cellB (.head _) rfl))) fun a hF=>?_
    refine d1 (i:=7) rfl (by kernel_rfl) (by kernel_rfl) (St.ld hS) hF rfl (fun _ _ _ h=>h) (fun w hl=>(e_fa hF fa29_2 rfl)) fun a hF=>?_
    refine d1 (i:=8) rfl (by kernel_rfl) (by kernel_rfl) (St.ld hS) hF rfl (fun _ _ _ h=>h) (fun w hl=>(e_ld hF Tryz.isAgg22 rfl (hl.cellB (.head _) rfl))) fun a hF=>?_
    refine d1 (i:=11) rfl (by kernel_rfl) (by kernel_rfl) (St.ld hS) hF rfl (fun _ _ _ h=>h) (fun w hl=>(e_fa hF fa29_3 rfl)) fun a hF=>?_
    refine d1 (i:=12) rfl (by kernel_rfl) (by kernel_rfl) (St.ld hS) hF rfl (fun _ _ _ h=>h) (fun w hl=>(e_ld hF Tryz.isAgg3 rfl (hl.cellB (.head _) rfl))) fun a hF=>?_
    refine d1 (i:=15) rfl (by kernel_rfl) (by kernel_rfl) (St.ld hS) hF rfl (fun _ _ _ h=>h) (fun w hl=>(e_fa hF fa29_4 rfl)) fun a hF=>?_
    refine d1 (i:=16) rfl (by kernel_rfl) (by kernel_rfl) (St.ld hS) hF rfl (fun _ _ _ h=>h) (fun w hl=>(e_ld hF Tryz.isAgg23 rfl (hl.cellB (.head _) rfl))) fun a hF=>?_
    refine d1 (i:=17) rfl (by kernel_rfl) (by kernel_rfl) (St.ld hS) hF rfl (fun _ _ _ h=>h) (fun w hl=>(e_lenL (α:=api_Code) (xs:=p1.Threads) hF Tryz.runUnderlying23 rfl)) fun a hF=>?_
    refine da1 (i:=2) (by kernel_rfl) ?_
    refine di (i:=2) rfl<|c1 hF rfl Tryz.call28 (Z46_c (hp_le _) hc11 (St.srH hS hr12) h54) ⟨rfl,trivial⟩ (fun v w a hR hF=>?_)
    obtain ⟨rfl,hk⟩:=hR
    replace hS:=hS.pass hk
    clear hk
    refine ⟨fun _=>(St.ld hS),?_⟩
    refine da1 (i:=5) (by kernel_rfl) ?_
    refine di (i:=5) rfl<|c1 hF rfl Tryz.call29 (Z42_c _ (hp_le _) h56) ⟨rfl,trivial⟩ (fun v w a hR hF=>?_)
    obtain ⟨rfl,hk⟩:=hR
    replace hS:=hS.pass hk
    clear hk
    refine ⟨fun _=>(St.ld hS),?_⟩
    refine d1 (i:=6) rfl (by kernel_rfl) (by kernel_rfl) (St.ld hS) hF rfl (fun _ _ _ h=>h) (fun w hl=>(e_catU hF rfl rfl h58)) fun a hF=>?_
    refine da1 (i:=9) (by kernel_rfl) ?_
    refine di (i:=9) rfl<|c1 hF rfl Tryz.call28 (Z46_c (hp_le _) hc23 (St.srH hS hr24) h60) ⟨rfl,trivial⟩ (fun v w a hR hF=>?_)
    obtain ⟨rfl,hk⟩:=hR
    replace hS:=hS.pass hk
    clear hk
    refine ⟨fun _=>(St.ld hS),?_⟩
    refine d1 (i:=10) rfl (by kernel_rfl) (by kernel_rfl) (St.ld hS) hF rfl (fun _ _ _ h=>h) (fun w hl=>(e_catU hF rfl rfl h62)) fun a hF=>?_
    refine da1 (i:=13) (by kernel_rfl) ?_
    refine di (i:=13) rfl<|c1 hF rfl Tryz.call29 (Z42_c _ (hp_le _) h64) ⟨rfl,trivial⟩ (fun v w a hR hF=>?_)
    obtain ⟨rfl,hk⟩:=hR
    replace hS:=hS.pass hk
    clear hk
    refine ⟨fun _=>(St.ld hS),?_⟩
    refine d1 (i:=14) rfl (by kernel_rfl) (by kernel_rfl) (St.ld hS) hF rfl (fun _ _ _ h=>h) (fun w hl=>(e_catU hF rfl rfl h66)) fun a hF=>?_
    refine da1 (i:=18) (by kernel_rfl) ?_
    refine di (i:=18) rfl<|c1 hF rfl Tryz.call29 (Z42_c _ (hp_le _) h68) ⟨rfl,trivial⟩ (fun v w a hR hF=>?_)
    obtain ⟨rfl,hk⟩:=hR
    replace hS:=hS.pass hk
    clear hk
    refine ⟨fun _=>(St.ld hS),?_⟩
    refine d1 (i:=19) rfl (by kernel_rfl) (by kernel_rfl) (St.ld hS) hF rfl (fun _ _ _ h=>h) (fun w hl=>(e_catU hF rfl rfl h70)) fun a hF=>?_
    refine d1 (i:=20) rfl (by kernel_rfl) (by kernel_rfl) (St.ld hS) hF rfl (fun _ _ _ h=>h) (fun w hl=>(e_asg hF rfl)) fun a hF=>?_
    refine de (by kernel_rfl)<|?_
    refine tn<|th<|th<|?_
    refine rg<|?_
    refine ls<|q1 hF rfl (e_asg hF rfl) fun a hF=>?_
    refine re<|?_
    refine tn<|midK (fun a w=>∃ (vA1:Str),(Z3k N p1) vA1=some r∧Fr 71 [(1,.pointer (some ⟨b49,0,none⟩)),(4,strv vA1)] a∧St w0 Nil [H] [blk b49 (.cells [.slice oa9 p1.Lines.length cap10,.int .i64 p1.Stays,.slice oa21 p1.Firsts.length cap22,.int .i64 p1.Locks,.slice oa33 p1.Threads.length cap34,.int .i64 p1.Recover.Regs,.int .i64 p1.Recover.Counts,.slice oa41 p1.Recover.L.length cap42,.slice oa45 p1.Claims.length cap46].toArray 29 (0,0))] w) ?_ ?_
    ·
      refine wb<|lp (α:=Nat×Str×Int) (fun (gh:Nat×Str×Int) a w=>match gh with | (nn2,vB1,vB2)=>(Z3m N (Z3k N p1) p1) nn2 vB1 vB2=some r∧Fr 71 [(1,.pointer (some ⟨b49,0,none⟩)),(4,strv vB1),(5,.int .i64 vB2)] a∧St w0 Nil [H] [blk b49 (.cells [.slice oa9 p1.Lines.length cap10,.int .i64 p1.Stays,.slice oa21 p1.Firsts.length cap22,.int .i64 p1.Locks,.slice oa33 p1.Threads.length cap34,.int .i64 p1.Recover.Regs,.int .i64 p1.Recover.Counts,.slice oa41 p1.Recover.L.length cap42,.slice oa45 p1.Claims.length cap46].toArray 29 (0,0))] w) (fun gh=>gh.1) (N,s69,0) ⟨hm,hF.has ⟨rfl,rfl,rfl,trivial⟩,hS⟩ ?_
      clear hm hF hS
      rintro ⟨nn2,vB1,vB2⟩ a w ⟨hm,hF,hS⟩
      obtain _ | nn2:=nn2
      · simp [Z3m] at hm
      rw [Z3m] at hm
      refine th<|th<|?_
      refine rg<|?_
      refine ls<|q1 hF rfl (e_move hF rfl) fun a hF=>?_
      refine ls<|q1 hF rfl (e_fa hF fa29_4 rfl) fun a hF=>?_
      refine ls<|q1 hF rfl (e_ld hF Tryz.isAgg23 rfl ((St.ld hS).cellB (.head _) rfl)) fun a hF=>?_
      refine ls<|q1 hF rfl (e_lenL (α:=api_Code) (xs:=p1.Threads) hF Tryz.runUnderlying23 rfl) fun a hF=>?_
      refine ls<|q1 hF rfl (e_lss hF rfl rfl) fun a hF=>?_
      refine re<|?_
      rcases bdich (decide (vB2 < (p1.Threads.length:Int))) with hb71 | hb71
      ·
        replace hm:=itp_t hm hb71
        refine tn<|ctv hF rfl hb71<|wk<|?_
        refine tn<|th<|wb<|?_
        replace hm:=bind_some hm
        obtain ⟨x72,h73,hm⟩:=hm
        obtain ⟨c74,g75,hl76⟩:=SR.get hr36 h73
        obtain ⟨oa77,cap78,rfl,hc79,hr80⟩:=api_Code_open g75
        replace hm:=bind_some hm
        obtain ⟨r81,h82,hm⟩:=hm
        replace hm:=bind_some hm
        obtain ⟨s83,h84,hm⟩:=hm
        refine rg<|?_
        refine ls<|q1 hF rfl (e_move hF rfl) fun a hF=>?_
        refine ls<|q1 hF rfl (e_fa hF fa29_4 rfl) fun a hF=>?_
        refine ls<|q1 hF rfl (e_ld hF Tryz.isAgg23 rfl ((St.ld hS).cellB (.head _) rfl)) fun a hF=>?_
        refine ls<|q1 hF rfl (e_move hF rfl) fun a hF=>?_
        refine ls<|q1 hF rfl (e_iaI hF Tryz.runUnderlying23 Tryz.sizeOf26 rfl rfl h73 (SR.oaI hr36 (by decide) h73)) fun a hF=>?_
        refine ls<|q1 hF rfl (e_ldA hF Tryz.isAgg26 Tryz.sizeOf26 rfl rfl (fun j v hj=>PH.le.cell (Lds.le (St.ld hS)) (hl76 j v hj))) fun a hF=>?_
        refine ls<|c1 hF rfl Tryz.call30 (Z43_c (hp_le _) (Enc.mono (St.up hS) (show Enc.rep (α:=api_Code) H [.int .i64 x72.Regs,.int .i64 x72.Counts,.slice oa77 x72.L.length cap78] x72 from ⟨_,_,rfl,rfl,⟨_,_,rfl,rfl,⟨_,_,rfl,hc79,hr80⟩⟩⟩)) h82) ⟨rfl,trivial⟩ (fun v w a hR hF=>?_)
        obtain ⟨rfl,hk⟩:=hR
        replace hS:=hS.pass hk
        clear hk
        refine ls<|q1 hF rfl (e_catU hF rfl rfl h84) fun a hF=>?_
        refine ls<|q1 hF rfl (e_asg hF rfl) fun a hF=>?_
        refine re<|?_
        refine bn<|tn<|?_
        refine rg<|?_
        refine ls<|q1 hF rfl (e_move hF rfl) fun a hF=>?_
        refine ls<|q1 hF rfl (e_add hF rfl rfl) fun a hF=>?_
        refine ls<|q1 hF rfl (e_asg hF rfl) fun a hF=>?_
        refine re<|?_
        refine tn<|?_
        exact ⟨(nn2,s83,(IntKind.i64.wrap (vB2+1))),⟨hm,hF.has ⟨rfl,rfl,rfl,trivial⟩,hS⟩,Nat.lt_succ_self _⟩
      ·
        replace hm:=itp_f hm hb71
        refine tn<|cfv hF rfl hb71<|?_
        refine we<|tx<|tx<|bx<|?_
        refine tn<|?_
        exact ⟨vB1,hm,hF.has ⟨rfl,rfl,trivial⟩,hS⟩
    clear hm hF hS
    rintro a w ⟨vA1,hm,hF,hS⟩
    unfold Z3k at hm
    refine th<|?_
    replace hm:=bind_some hm
    obtain ⟨r85,h86,hm⟩:=hm
    replace hm:=bind_some hm
    obtain ⟨r87,h88,hm⟩:=hm
    replace hm:=bind_some hm
    obtain ⟨s89,h90,hm⟩:=hm
    replace hm:=bind_some hm
    obtain ⟨s91,h92,hm⟩:=hm
    refine rdS 11 hS wide fun w hS=>?_
    refine d1 (i:=0) rfl (by kernel_rfl) (by kernel_rfl) (St.ld hS) hF rfl (fun _ _ _ h=>h) (fun w hl=>(e_move hF rfl)) fun a hF=>?_
    refine d1 (i:=1) rfl (by kernel_rfl) (by kernel_rfl) (St.ld hS) hF rfl (fun _ _ _ h=>h) (fun w hl=>(e_fa hF fa29_5 rfl)) fun a hF=>?_
    refine d1 (i:=2) rfl (by kernel_rfl) (by kernel_rfl) (St.ld hS) hF rfl (fun _ _ _ h=>h) (fun w hl=>(e_ldA hF Tryz.isAgg26 Tryz.sizeOf26 rfl rfl (Lds.cellsP (pre:=[.slice oa9 p1.Lines.length cap10,.int .i64 p1.Stays,.slice oa21 p1.Firsts.length cap22,.int .i64 p1.Locks,.slice oa33 p1.Threads.length cap34]) (vs:=[.int .i64 p1.Recover.Regs,.int .i64 p1.Recover.Counts,.slice oa41 p1.Recover.L.length cap42]) (post:=[.slice oa45 p1.Claims.length cap46]) hl (.head _)))) fun a hF=>?_
    refine d1 (i:=4) rfl (by kernel_rfl) (by kernel_rfl) (St.ld hS) hF rfl (fun _ _ _ h=>h) (fun w hl=>(e_fa hF fa29_6 rfl)) fun a hF=>?_
    refine d1 (i:=5) rfl (by kernel_rfl) (by kernel_rfl) (St.ld hS) hF rfl (fun _ _ _ h=>h) (fun w hl=>(e_ld hF Tryz.isAgg27 rfl (hl.cellB (.head _) rfl))) fun a hF=>?_
    refine d1 (i:=6) rfl (by kernel_rfl) (by kernel_rfl) (St.ld hS) hF rfl (fun _ _ _ h=>h) (fun w hl=>(e_lenL (α:=(List api_Op)) (xs:=p1.Claims) hF Tryz.runUnderlying27 rfl)) fun a hF=>?_
    refine da1 (i:=3) (by kernel_rfl) ?_
    refine di (i:=3) rfl<|c1 hF rfl Tryz.call30 (Z43_c (hp_le _) (Enc.mono (St.up hS) (show Enc.rep (α:=api_Code) H [.int .i64 p1.Recover.Regs,.int .i64 p1.Recover.Counts,.slice oa41 p1.Recover.L.length cap42] p1.Recover from ⟨_,_,rfl,rfl,⟨_,_,rfl,rfl,⟨_,_,rfl,hc43,hr44⟩⟩⟩)) h86) ⟨rfl,trivial⟩ (fun v w a hR hF=>?_)
    obtain ⟨rfl,hk⟩:=hR
    replace hS:=hS.pass hk
    clear hk
    refine ⟨fun _=>(St.ld hS),?_⟩
    refine da1 (i:=7) (by kernel_rfl) ?_
    refine di (i:=7) rfl<|c1 hF rfl Tryz.call29 (Z42_c _ (hp_le _) h88) ⟨rfl,trivial⟩ (fun v w a hR hF=>?_)
    obtain ⟨rfl,hk⟩:=hR
    replace hS:=hS.pass hk
    clear hk
    refine ⟨fun _=>(St.ld hS),?_⟩
    refine d1 (i:=8) rfl (by kernel_rfl) (by kernel_rfl) (St.ld hS) hF rfl (fun _ _ _ h=>h) (fun w hl=>(e_catU hF rfl rfl h90)) fun a hF=>?_
    refine d1 (i:=9) rfl (by kernel_rfl) (by kernel_rfl) (St.ld hS) hF rfl (fun _ _ _ h=>h) (fun w hl=>(e_catU hF rfl rfl h92)) fun a hF=>?_
    refine d1 (i:=10) rfl (by kernel_rfl) (by kernel_rfl) (St.ld hS) hF rfl (fun _ _ _ h=>h) (fun w hl=>(e_asg hF rfl)) fun a hF=>?_
    refine de (by kernel_rfl)<|?_
    refine tn<|th<|th<|?_
    refine rg<|?_
    refine ls<|q1 hF rfl (e_asg hF rfl) fun a hF=>?_
    refine re<|?_
    refine tn<|midK (fun a w=>∃ (vA2:Str),Z3l vA2=some r∧Fr 71 [(4,strv vA2)] a∧St w0 Nil [H] [] w) ?_ ?_
    ·
      refine wb<|lp (α:=Nat×Str×Int) (fun (gh:Nat×Str×Int) a w=>match gh with | (nn4,vB3,vB4)=>(Z3n N Z3l p1) nn4 vB3 vB4=some r∧Fr 71 [(1,.pointer (some ⟨b49,0,none⟩)),(4,strv vB3),(6,.int .i64 vB4)] a∧St w0 Nil [H] [blk b49 (.cells [.slice oa9 p1.Lines.length cap10,.int .i64 p1.Stays,.slice oa21 p1.Firsts.length cap22,.int .i64 p1.Locks,.slice oa33 p1.Threads.length cap34,.int .i64 p1.Recover.Regs,.int .i64 p1.Recover.Counts,.slice oa41 p1.Recover.L.length cap42,.slice oa45 p1.Claims.length cap46].toArray 29 (0,0))] w) (fun gh=>gh.1) (N,s91,0) ⟨hm,hF.has ⟨rfl,rfl,rfl,trivial⟩,hS⟩ ?_
      clear hm hF hS
      rintro ⟨nn4,vB3,vB4⟩ a w ⟨hm,hF,hS⟩
      obtain _ | nn4:=nn4
      · simp [Z3n] at hm
      rw [Z3n] at hm
      refine th<|th<|?_
      refine rg<|?_
      refine ls<|q1 hF rfl (e_move hF rfl) fun a hF=>?_
      refine ls<|q1 hF rfl (e_fa hF fa29_6 rfl) fun a hF=>?_
      refine ls<|q1 hF rfl (e_ld hF Tryz.isAgg27 rfl ((St.ld hS).cellB (.head _) rfl)) fun a hF=>?_
      refine ls<|q1 hF rfl (e_lenL (α:=(List api_Op)) (xs:=p1.Claims) hF Tryz.runUnderlying27 rfl) fun a hF=>?_
      refine ls<|q1 hF rfl (e_lss hF rfl rfl) fun a hF=>?_
      refine re<|?_
      rcases bdich (decide (vB4 < (p1.Claims.length:Int))) with hb93 | hb93
      ·
        replace hm:=itp_t hm hb93
        refine tn<|ctv hF rfl hb93<|wk<|?_
        refine tn<|th<|wb<|?_
        replace hm:=bind_some hm
        obtain ⟨x94,h95,hm⟩:=hm
        obtain ⟨c96,g97,hl98⟩:=SR.get hr48 h95
        obtain ⟨oa99,cap100,rfl,hc101,hr102⟩:=g97
        replace hm:=bind_some hm
        obtain ⟨r103,h104,hm⟩:=hm
        replace hm:=bind_some hm
        obtain ⟨s105,h106,hm⟩:=hm
        refine rg<|?_
        refine ls<|q1 hF rfl (e_move hF rfl) fun a hF=>?_
        refine ls<|q1 hF rfl (e_fa hF fa29_6 rfl) fun a hF=>?_
        refine ls<|q1 hF rfl (e_ld hF Tryz.isAgg27 rfl ((St.ld hS).cellB (.head _) rfl)) fun a hF=>?_
        refine ls<|q1 hF rfl (e_move hF rfl) fun a hF=>?_
        refine ls<|q1 hF rfl (e_iaI hF Tryz.runUnderlying27 Tryz.sizeOf54 rfl rfl h95 (SR.oaI hr48 (by decide) h95)) fun a hF=>?_
        refine ls<|q1 hF rfl (e_ld hF Tryz.isAgg54 rfl (PH.le.cell (Lds.le (St.ld hS)) (hl98 0 _ rfl))) fun a hF=>?_
        refine ls<|c1 hF rfl Tryz.call31 (Z49_c (hp_le _) hc101 (St.srH hS hr102) h104) ⟨rfl,trivial⟩ (fun v w a hR hF=>?_)
        obtain ⟨rfl,hk⟩:=hR
        replace hS:=hS.pass hk
        clear hk
        refine ls<|q1 hF rfl (e_catU hF rfl rfl h106) fun a hF=>?_
        refine ls<|q1 hF rfl (e_asg hF rfl) fun a hF=>?_
        refine re<|?_
        refine bn<|tn<|?_
        refine rg<|?_
        refine ls<|q1 hF rfl (e_move hF rfl) fun a hF=>?_
        refine ls<|q1 hF rfl (e_add hF rfl rfl) fun a hF=>?_
        refine ls<|q1 hF rfl (e_asg hF rfl) fun a hF=>?_
        refine re<|?_
        refine tn<|?_
        exact ⟨(nn4,s105,(IntKind.i64.wrap (vB4+1))),⟨hm,hF.has ⟨rfl,rfl,rfl,trivial⟩,hS⟩,Nat.lt_succ_self _⟩
      ·
        replace hm:=itp_f hm hb93
        refine tn<|cfv hF rfl hb93<|?_
        refine we<|tx<|tx<|bx<|?_
        refine tn<|?_
        replace hS:=hS.pickL .nil
        exact ⟨vB3,hm,hF.has ⟨rfl,trivial⟩,hS⟩
    clear hm hF hS
    rintro a w ⟨vA2,hm,hF,hS⟩
    unfold Z3l at hm
    refine th<|?_
    refine rg<|?_
    refine ls<|q1 hF rfl (e_move hF rfl) fun a hF=>?_
    refine ls<|q1 hF rfl (e_asg hF rfl) fun a hF=>?_
    refine ls<|q1 hF rfl (e_asg hF rfl) fun a hF=>?_
    refine re<|?_
    refine tn<|?_
    refine wr<|?_
    obtain rfl:=Option.some.inj hm
    exact r2 hF Tryz.results9 rfl rfl ⟨rfl,hS.keep⟩
  ·
    replace hm:=ite_f hm hb52
    refine tn<|ctv hF rfl (by rw [hb52];rfl)<|th<|?_
    refine rg<|?_
    refine ls<|q1 hF rfl (e_asg hF rfl) fun a hF=>?_
    refine ls<|q1 hF rfl (e_asg hF rfl) fun a hF=>?_
    refine re<|?_
    refine tn<|?_
    refine wr<|tr<|?_
    obtain rfl:=Option.some.inj hm
    exact r2 hF Tryz.results9 rfl rfl ⟨rfl,hS.keep⟩
set_option maxRecDepth 100000 in
theorem Z7_c {N:Nat} {w0:World} {H:PH} (hH:H.le w0) {p1:Str} {p2:Int} {r:(Int×Int×Int)} (hm:Z7 N p1 p2=some r):Tot Tryz.prog 42 #[strv p1,.int .i64 p2] w0 (fun v w'=>v=.tuple #[.int .i64 r.1,.int .i64 r.2.1,.int .i64 r.2.2]∧Keep Nil w0 w'):=by
  unfold Z7 at hm
  refine fn0 (args:=[strv p1,.int .i64 p2]) (F:=[(0,strv p1),(1,.int .i64 p2)]) Tryz.func42 rfl Tryz.ntmps42 rfl rfl fun a hF=>?_
  have hS:St w0 Nil [H] [] w0:=start1 hH
  refine th<|?_
  refine rg<|?_
  refine ls<|q1 hF rfl (e_asg hF rfl) fun a hF=>?_
  refine ls<|q1 hF rfl (e_asg hF rfl) fun a hF=>?_
  refine ls<|q1 hF rfl (e_asg hF rfl) fun a hF=>?_
  refine re<|?_
  refine tn<|th<|th<|?_
  refine rg<|?_
  refine ls<|q1 hF rfl (e_move hF rfl) fun a hF=>?_
  refine ls<|q1 hF rfl (e_lss hF rfl rfl) fun a hF=>?_
  refine ls<|q1 hF rfl (e_move hF rfl) fun a hF=>?_
  refine grp (N:=59) (Fk:=[(0,strv p1),(1,.int .i64 p2),(17,.bool ((decide (p2 < 0)) || (decide ((p1.length:Int) < p2))))]) (b:=(decide (p2 < 0))) 5 hS ?_ ?_ ?_
  ·
    intro hb key
    replace hF:=Fr.as hF (t:=12) rfl (congrArg Value.bool hb)
    refine ls<|gn hF rfl rfl rfl rfl fun a hF=>?_
    refine ls<|gn hF rfl rfl rfl rfl fun a hF=>?_
    refine ls<|gn hF rfl rfl rfl rfl fun a hF=>?_
    refine ls<|gn hF rfl rfl rfl rfl fun a hF=>?_
    refine ls<|q1 hF rfl (e_as (v':=.bool ((decide (p2 < 0)) || (decide ((p1.length:Int) < p2)))) (e_pickT hF rfl rfl) (by rw [hb];rfl)) fun a hF=>?_
    exact key _ _ (hF.has ⟨rfl,rfl,rfl,trivial⟩) hS
  ·
    intro hb key
    replace hF:=Fr.as hF (t:=12) rfl (congrArg Value.bool hb)
    refine ls<|gy hF rfl rfl<|q1 hF rfl (e_move hF rfl) fun a hF=>?_
    refine ls<|gy hF rfl rfl<|q1 hF rfl (e_move hF rfl) fun a hF=>?_
    refine ls<|gy hF rfl rfl<|q1 hF rfl (e_lenU (s:=p1) hF Tryz.runUnderlying9 rfl) fun a hF=>?_
    refine ls<|gy hF rfl rfl<|q1 hF rfl (e_gtr hF rfl rfl) fun a hF=>?_
    refine ls<|q1 hF rfl (e_as (v':=.bool ((decide (p2 < 0)) || (decide ((p1.length:Int) < p2)))) (e_pickF hF rfl rfl) (by rw [hb];rfl)) fun a hF=>?_
    exact key _ _ (hF.has ⟨rfl,rfl,rfl,trivial⟩) hS
  intro a w hF hS
  refine re<|?_
  rcases bdich ((decide (p2 < 0)) || (decide ((p1.length:Int) < p2))) with hb3 | hb3
  ·
    replace hm:=ite_t hm hb3
    refine tn<|ctv hF rfl hb3<|th<|?_
    refine rg<|?_
    refine ls<|q1 hF rfl (e_asg hF rfl) fun a hF=>?_
    refine ls<|q1 hF rfl (e_asg hF rfl) fun a hF=>?_
    refine ls<|q1 hF rfl (e_asg hF rfl) fun a hF=>?_
    refine re<|?_
    refine tn<|?_
    refine wr<|tr<|?_
    obtain rfl:=Option.some.inj hm
    exact Go.LM.r3 hF Tryz.results42 rfl rfl rfl ⟨rfl,hS.keep⟩
  ·
    replace hm:=ite_f hm hb3
    refine tn<|cfv hF rfl hb3<|wk<|?_
    refine tn<|th<|?_
    refine rg<|?_
    refine ls<|q1 hF rfl (e_asg hF rfl) fun a hF=>?_
    refine re<|?_
    refine tn<|th<|th<|?_
    refine rg<|?_
    refine ls<|q1 hF rfl (e_move hF rfl) fun a hF=>?_
    refine re<|?_
    refine tn<|midK (fun a w=>Z8=some r∧Fr 59 [] a∧St w0 Nil [H] [] w) ?_ ?_
    ·
      refine wb<|lp (α:=Nat×Int×Int) (fun (gh:Nat×Int×Int) a w=>match gh with | (nn2,vB1,vB2)=>(Z9 N Z8 p1 p2) nn2 vB1 vB2=some r∧Fr 59 [(0,strv p1),(1,.int .i64 p2),(7,.int .i64 vB1),(18,.int .i64 vB2)] a∧St w0 Nil [H] [] w) (fun gh=>gh.1) (N,0,0) ⟨hm,hF.has ⟨rfl,rfl,rfl,rfl,trivial⟩,hS⟩ ?_
      clear hm hF hS
      rintro ⟨nn2,vB1,vB2⟩ a w ⟨hm,hF,hS⟩
      obtain _ | nn2:=nn2
      · simp [Z9] at hm
      rw [Z9] at hm
      refine th<|?_
      refine rg<|?_
      refine ls<|q1 hF rfl (e_lss hF rfl rfl) fun a hF=>?_
      refine re<|?_
      rcases bdich (decide (vB2 < 6)) with hb4 | hb4
      ·
        replace hm:=itp_t hm hb4
        refine tn<|th<|ctv hF rfl hb4<|wk<|?_
        refine tn<|th<|wb<|th<|?_
        refine rg<|?_
        refine ls<|q1 hF rfl (e_move hF rfl) fun a hF=>?_
        refine ls<|q1 hF rfl (e_asg hF rfl) fun a hF=>?_
        refine re<|?_
        refine tn<|th<|th<|?_
        refine rg<|?_
        refine ls<|q1 hF rfl (e_move hF rfl) fun a hF=>?_
        refine ls<|q1 hF rfl (e_move hF rfl) fun a hF=>?_
        refine ls<|q1 hF rfl (e_add hF rfl rfl) fun a hF=>?_
        refine ls<|q1 hF rfl (e_move hF rfl) fun a hF=>?_
        refine ls<|q1 hF rfl (e_lenU (s:=p1) hF Tryz.runUnderlying9 rfl) fun a hF=>?_
        refine ls<|q1 hF rfl (e_eql hF rfl rfl) fun a hF=>?_
        refine re<|?_
        rcases bdich (decide ((IntKind.i64.wrap (p2+vB2))=(p1.length:Int))) with hb5 | hb5
        ·
          replace hm:=itp_t hm hb5
          refine tn<|ctv hF rfl hb5<|th<|?_
          refine rg<|?_
          refine ls<|q1 hF rfl (e_asg hF rfl) fun a hF=>?_
          refine ls<|q1 hF rfl (e_asg hF rfl) fun a hF=>?_
          refine ls<|q1 hF rfl (e_asg hF rfl) fun a hF=>?_
          refine re<|?_
          refine tn<|?_
          refine wr<|tr<|br<|tr<|tr<|br<|tr<|?_
          obtain rfl:=Option.some.inj hm
          exact Go.LM.r3 hF Tryz.results42 rfl rfl rfl ⟨rfl,hS.keep⟩
        ·
          replace hm:=itp_f hm hb5
          refine tn<|cfv hF rfl hb5<|wk<|?_
          refine tn<|th<|?_
          replace hm:=bind_some hm
          obtain ⟨xz6,h7,hm⟩:=hm
          refine rg<|?_
          refine ls<|q1 hF rfl (e_move hF rfl) fun a hF=>?_
          refine ls<|q1 hF rfl (e_move hF rfl) fun a hF=>?_
          refine ls<|q1 hF rfl (e_move hF rfl) fun a hF=>?_
          refine ls<|q1 hF rfl (e_add hF rfl rfl) fun a hF=>?_
          refine ls<|q1 hF rfl (e_byte (s:=p1) hF Tryz.runUnderlying9 rfl rfl h7) fun a hF=>?_
          refine ls<|q1 hF rfl (e_cvt hF Tryz.runUnderlying5 Tryz.runUnderlying3 rfl) fun a hF=>?_
          refine ls<|q1 hF rfl (e_asg hF rfl) fun a hF=>?_
          refine re<|?_
          refine tn<|th<|?_
          replace hm:=bind_some hm
          obtain ⟨xz8,h9,hm⟩:=hm
          refine rg<|?_
          refine ls<|q1 hF rfl (e_move hF rfl) fun a hF=>?_
          refine ls<|q1 hF rfl (e_move hF rfl) fun a hF=>?_
          refine ls<|q1 hF rfl (e_rem hF rfl rfl (by decide)) fun a hF=>?_
          refine ls<|q1 hF rfl (e_move hF rfl) fun a hF=>?_
          refine ls<|q1 hF rfl (e_mul hF rfl rfl) fun a hF=>?_
          refine ls<|q1 hF rfl (e_shlI hF rfl rfl h9) fun a hF=>?_
          refine ls<|q1 hF rfl (e_add hF rfl rfl) fun a hF=>?_
          refine ls<|q1 hF rfl (e_asg hF rfl) fun a hF=>?_
          refine re<|?_
          refine tn<|th<|wb<|th<|?_
          refine rg<|?_
          refine ls<|q1 hF rfl (e_move hF rfl) fun a hF=>?_
          refine ls<|q1 hF rfl (e_geq hF rfl rfl) fun a hF=>?_
          refine ls<|q1 hF rfl (e_asg hF rfl) fun a hF=>?_
          refine re<|?_
          rcases bdich (decide (128≤(IntKind.i64.wrap xz6))) with hb10 | hb10
          ·
            replace hm:=itp_t hm hb10
            refine tn<|ctv hF rfl hb10<|?_
            refine we<|bo rfl<|tx<|bx<|?_
            refine tn<|?_
            refine rg<|?_
            refine ls<|q1 hF rfl (e_add hF rfl rfl) fun a hF=>?_
            refine ls<|q1 hF rfl (e_move hF rfl) fun a hF=>?_
            refine re<|?_
            refine tn<|?_
            exact ⟨(nn2,(IntKind.i64.wrap (vB1+xz8)),(IntKind.i64.wrap (vB2+1))),⟨hm,hF.has ⟨rfl,rfl,rfl,rfl,trivial⟩,hS⟩,Nat.lt_succ_self _⟩
          ·
            replace hm:=itp_f hm hb10
            refine tn<|cfv hF rfl hb10<|th<|?_
            refine rg<|?_
            refine ls<|q1 hF rfl (e_move hF rfl) fun a hF=>?_
            refine ls<|q1 hF rfl (e_eql hF rfl rfl) fun a hF=>?_
            refine ls<|q1 hF rfl (e_move hF rfl) fun a hF=>?_
            refine grp (N:=59) (Fk:=[(1,.int .i64 p2),(7,.int .i64 (IntKind.i64.wrap (vB1+xz8))),(8,.int .i64 vB2),(49,.bool ((decide ((IntKind.i64.wrap xz6)=0)) && (decide (0 < vB2))))]) (b:=(decide ((IntKind.i64.wrap xz6)=0))) 3 hS ?_ ?_ ?_
            ·
              intro hb key
              replace hF:=Fr.as hF (t:=46) rfl (congrArg Value.bool hb)
              refine ls<|gy hF rfl rfl<|q1 hF rfl (e_move hF rfl) fun a hF=>?_
              refine ls<|gy hF rfl rfl<|q1 hF rfl (e_gtr hF rfl rfl) fun a hF=>?_
              refine ls<|q1 hF rfl (e_as (v':=.bool ((decide ((IntKind.i64.wrap xz6)=0)) && (decide (0 < vB2)))) (e_pickT hF rfl rfl) (by rw [hb];rfl)) fun a hF=>?_
              exact key _ _ (hF.has ⟨rfl,rfl,rfl,rfl,trivial⟩) hS
            ·
              intro hb key
              replace hF:=Fr.as hF (t:=46) rfl (congrArg Value.bool hb)
              refine ls<|gn hF rfl rfl rfl rfl fun a hF=>?_
              refine ls<|gn hF rfl rfl rfl rfl fun a hF=>?_
              refine ls<|q1 hF rfl (e_as (v':=.bool ((decide ((IntKind.i64.wrap xz6)=0)) && (decide (0 < vB2)))) (e_pickF hF rfl rfl) (by rw [hb];rfl)) fun a hF=>?_
              exact key _ _ (hF.has ⟨rfl,rfl,rfl,rfl,trivial⟩) hS
            intro a w hF hS
            refine ls<|q1 hF rfl (e_asg hF rfl) fun a hF=>?_
            refine re<|?_
            rcases bdich ((decide ((IntKind.i64.wrap xz6)=0)) && (decide (0 < vB2))) with hb11 | hb11
            ·
              replace hm:=ite_t hm hb11
              refine tn<|ctv hF rfl hb11<|th<|?_
              refine rg<|?_
              refine ls<|q1 hF rfl (e_asg hF rfl) fun a hF=>?_
              refine ls<|q1 hF rfl (e_asg hF rfl) fun a hF=>?_
              refine ls<|q1 hF rfl (e_asg hF rfl) fun a hF=>?_
              refine re<|?_
              refine tn<|?_
              refine wr<|br<|tr<|br<|tr<|tr<|br<|tr<|?_
              obtain rfl:=Option.some.inj hm
              exact Go.LM.r3 hF Tryz.results42 rfl rfl rfl ⟨rfl,hS.keep⟩
            ·
              replace hm:=ite_f hm hb11
              refine tn<|cfv hF rfl hb11<|th<|?_
              refine rg<|?_
              refine ls<|q1 hF rfl (e_move hF rfl) fun a hF=>?_
              refine ls<|q1 hF rfl (e_gtr hF rfl rfl) fun a hF=>?_
              refine ls<|q1 hF rfl (e_asg hF rfl) fun a hF=>?_
              refine re<|?_
              rcases bdich (decide (1099511627776 < (IntKind.i64.wrap (vB1+xz8)))) with hb12 | hb12
              ·
                replace hm:=itp_t hm hb12
                refine tn<|ctv hF rfl hb12<|th<|?_
                refine rg<|?_
                refine ls<|q1 hF rfl (e_asg hF rfl) fun a hF=>?_
                refine ls<|q1 hF rfl (e_asg hF rfl) fun a hF=>?_
                refine ls<|q1 hF rfl (e_asg hF rfl) fun a hF=>?_
                refine re<|?_
                refine tn<|?_
                refine wr<|br<|tr<|br<|tr<|tr<|br<|tr<|?_
                obtain rfl:=Option.some.inj hm
                exact Go.LM.r3 hF Tryz.results42 rfl rfl rfl ⟨rfl,hS.keep⟩
              ·
                replace hm:=itp_f hm hb12
                refine tn<|cfv hF rfl hb12<|wk<|?_
                refine bn<|tn<|th<|?_
                refine rg<|?_
                refine ls<|q1 hF rfl (e_move hF rfl) fun a hF=>?_
                refine ls<|q1 hF rfl (e_move hF rfl) fun a hF=>?_
                refine ls<|q1 hF rfl (e_move hF rfl) fun a hF=>?_
                refine ls<|q1 hF rfl (e_add hF rfl rfl) fun a hF=>?_
                refine ls<|q1 hF rfl (e_add hF rfl rfl) fun a hF=>?_
                refine ls<|q1 hF rfl (e_asg hF rfl) fun a hF=>?_
                refine ls<|q1 hF rfl (e_asg hF rfl) fun a hF=>?_
                refine ls<|q1 hF rfl (e_asg hF rfl) fun a hF=>?_
                refine re<|?_
                refine tn<|?_
                refine wr<|br<|tr<|tr<|br<|tr<|?_
                obtain rfl:=Option.some.inj hm
                exact Go.LM.r3 hF Tryz.results42 rfl rfl rfl ⟨rfl,hS.keep⟩
      ·
        replace hm:=itp_f hm hb4
        refine tn<|th<|cfv hF rfl hb4<|?_
        refine we<|tx<|tx<|bx<|?_
        refine tn<|?_
        exact ⟨hm,hF.has trivial,hS⟩
    clear hm hF hS
    rintro a w ⟨hm,hF,hS⟩
    unfold Z8 at hm
    refine th<|?_
    refine rg<|?_
    refine ls<|q1 hF rfl (e_asg hF rfl) fun a hF=>?_
    refine ls<|q1 hF rfl (e_asg hF rfl) fun a hF=>?_
    refine ls<|q1 hF rfl (e_asg hF rfl) fun a hF=>?_
    refine re<|?_
    refine tn<|?_
    refine wr<|?_
    obtain rfl:=Option.some.inj hm
    exact Go.LM.r3 hF Tryz.results42 rfl rfl rfl ⟨rfl,hS.keep⟩
set_option maxRecDepth 100000 in
theorem Zn_c {N:Nat} {w0:World} {H:PH} (hH:H.le w0) {b2:Nat} {p1:binary_reader} (hO:(sepA [blk b2 (.cells [strv p1.s,.int .i64 p1.at'].toArray 70 (0,0))]).ok (hp w0)) (hD:∀ b,(sepA [blk b2 (.cells [strv p1.s,.int .i64 p1.at'].toArray 70 (0,0))]).fp b→H b=none) {r:(Option (Int×binary_reader))} (hm:Zn N p1=some r):TotP Tryz.prog 73 #[.pointer (some ⟨b2,0,none⟩)] w0 (fun v w'=>∃ (r0:(Int×binary_reader)),r=some r0∧v=.int .i64 r0.1∧Mut w0 (sepA [blk b2 (.cells [strv p1.s,.int .i64 p1.at'].toArray 70 (0,0))]) (sepA [blk b2 (.cells [strv r0.2.s,.int .i64 r0.2.at'].toArray 70 (0,0))]) w') (fun w'=>r=none∧Keep (sepA [blk b2 (.cells [strv p1.s,.int .i64 p1.at'].toArray 70 (0,0))]).fp w0 w'):=by
  unfold Zn at hm
  refine fnP (args:=[.pointer (some ⟨b2,0,none⟩)]) (F:=[(0,.pointer (some ⟨b2,0,none⟩))]) Tryz.func73 rfl Tryz.ntmps73 rfl rfl fun a hF=>?_
  have hS:=startM hH hO hD
  refine th<|?_
  refine rg<|?_
  refine ls<|q1 hF rfl (e_asg hF rfl) fun a hF=>?_
  refine re<|?_
  refine tn<|th<|?_
  replace hm:=bind_some hm
  obtain ⟨rz3,h4,hm⟩:=hm
  refine rdS 16 hS wide fun w hS=>?_
  refine d1 (i:=0) rfl (by kernel_rfl) (by kernel_rfl) (St.ld hS) hF rfl (fun _ _ _ h=>h) (fun w hl=>(e_move hF rfl)) fun a hF=>?_
  refine d1 (i:=1) rfl (by kernel_rfl) (by kernel_rfl) (St.ld hS) hF rfl (fun _ _ _ h=>h) (fun w hl=>(e_nilp hF rfl)) fun a hF=>?_
  refine d1 (i:=2) rfl (by kernel_rfl) (by kernel_rfl) (St.ld hS) hF rfl (fun _ _ _ h=>h) (fun w hl=>(e_fa hF fa70_0 rfl)) fun a hF=>?_
  refine d1 (i:=3) rfl (by kernel_rfl) (by kernel_rfl) (St.ld hS) hF rfl (fun _ _ _ h=>h) (fun w hl=>(e_ld hF Tryz.isAgg9 rfl (hl.cellB (.head _) rfl))) fun a hF=>?_
  refine d1 (i:=4) rfl (by kernel_rfl) (by kernel_rfl) (St.ld hS) hF rfl (fun _ _ _ h=>h) (fun w hl=>(e_move hF rfl)) fun a hF=>?_
  refine d1 (i:=5) rfl (by kernel_rfl) (by kernel_rfl) (St.ld hS) hF rfl (fun _ _ _ h=>h) (fun w hl=>(e_nilp hF rfl)) fun a hF=>?_
  refine d1 (i:=6) rfl (by kernel_rfl) (by kernel_rfl) (St.ld hS) hF rfl (fun _ _ _ h=>h) (fun w hl=>(e_fa hF fa70_1 rfl)) fun a hF=>?_
  refine d1 (i:=7) rfl (by kernel_rfl) (by kernel_rfl) (St.ld hS) hF rfl (fun _ _ _ h=>h) (fun w hl=>(e_ld hF Tryz.isAgg3 rfl (hl.cellB (.head _) rfl))) fun a hF=>?_
  refine da1 (i:=8) (by kernel_rfl) ?_
  refine di (i:=8) rfl<|c1 hF rfl Tryz.call42 (Z7_c (hp_le _) h4) ⟨rfl,rfl,trivial⟩ (fun v w a hR hF=>?_)
  obtain ⟨rfl,hk⟩:=hR
  replace hS:=hS.pass hk
  clear hk
  refine ⟨fun _=>(St.ld hS),?_⟩
  refine d1 (i:=9) rfl (by kernel_rfl) (by kernel_rfl) (St.ld hS) hF rfl (fun _ _ _ h=>h) (fun w hl=>(e_move hF rfl)) fun a hF=>?_
  refine d1 (i:=10) rfl (by kernel_rfl) (by kernel_rfl) (St.ld hS) hF rfl (fun _ _ _ h=>h) (fun w hl=>(e_ext hF rfl rfl)) fun a hF=>?_
  refine d1 (i:=11) rfl (by kernel_rfl) (by kernel_rfl) (St.ld hS) hF rfl (fun _ _ _ h=>h) (fun w hl=>(e_ext hF rfl rfl)) fun a hF=>?_
  refine d1 (i:=12) rfl (by kernel_rfl) (by kernel_rfl) (St.ld hS) hF rfl (fun _ _ _ h=>h) (fun w hl=>(e_ext hF rfl rfl)) fun a hF=>?_
  refine d1 (i:=13) rfl (by kernel_rfl) (by kernel_rfl) (St.ld hS) hF rfl (fun _ _ _ h=>h) (fun w hl=>(e_asg hF rfl)) fun a hF=>?_
  refine d1 (i:=14) rfl (by kernel_rfl) (by kernel_rfl) (St.ld hS) hF rfl (fun _ _ _ h=>h) (fun w hl=>(e_asg hF rfl)) fun a hF=>?_
  refine d1 (i:=15) rfl (by kernel_rfl) (by kernel_rfl) (St.ld hS) hF rfl (fun _ _ _ h=>h) (fun w hl=>(e_asg hF rfl)) fun a hF=>?_
  refine de (by kernel_rfl)<|?_
  refine tn<|th<|th<|?_
  refine rg<|?_
  refine ls<|q1 hF rfl (e_move hF rfl) fun a hF=>?_
  refine ls<|q1 hF rfl (e_neq hF rfl rfl) fun a hF=>?_
  refine re<|?_
  rcases bdich (decide (rz3.2.2≠0)) with hb5 | hb5
  ·
    replace hm:=itp_t hm hb5
    refine tn<|ctv hF rfl hb5<|?_
    refine rg<|?_
    refine ls<|q1 hF rfl (e_move hF rfl) fun a hF=>?_
    refine ls<|q1 hF rfl (e_mki hF (mki31 _) rfl) fun a hF=>?_
    refine ls<|pnq hF rfl ?_
    obtain rfl:=Option.some.inj hm
    exact tpn<|pnB hF ⟨rfl,hS.keep⟩
  ·
    replace hm:=itp_f hm hb5
    refine tn<|cfv hF rfl hb5<|wk<|?_
    refine tn<|th<|?_
    refine rg<|?_
    refine ls<|q1 hF rfl (e_move hF rfl) fun a hF=>?_
    refine ls<|q1 hF rfl (e_move hF rfl) fun a hF=>?_
    refine ls<|q1 hF rfl (e_nilp hF rfl) fun a hF=>?_
    refine ls<|q1 hF rfl (e_fa hF fa70_1 rfl) fun a hF=>?_
    refine ls<|s_blk hF hS Tryz.sizeOf3 rfl rfl rfl rfl .head (.succ .zero) fun w hS=>?_
    refine re<|?_
    refine tn<|th<|?_
    refine rg<|?_
    refine ls<|q1 hF rfl (e_move hF rfl) fun a hF=>?_
    refine ls<|q1 hF rfl (e_asg hF rfl) fun a hF=>?_
    refine re<|?_
    refine tn<|?_
    refine wr<|?_
    obtain rfl:=Option.some.inj hm
    exact bpl (r1 hF Tryz.results73 rfl ⟨_,rfl,rfl,(hS.pickL (.cons .head .nil)).endMut⟩)
set_option maxRecDepth 100000 in
theorem Zm_c {N:Nat} {w0:World} {H:PH} (hH:H.le w0) {b2:Nat} {p1:binary_reader} (hO:(sepA [blk b2 (.cells [strv p1.s,.int .i64 p1.at'].toArray 70 (0,0))]).ok (hp w0)) (hD:∀ b,(sepA [blk b2 (.cells [strv p1.s,.int .i64 p1.at'].toArray 70 (0,0))]).fp b→H b=none) {r:(Option (Int×binary_reader))} (hm:Zm N p1=some r):TotP Tryz.prog 74 #[.pointer (some ⟨b2,0,none⟩)] w0 (fun v w'=>∃ (r0:(Int×binary_reader)),r=some r0∧v=.int .i64 r0.1∧Mut w0 (sepA [blk b2 (.cells [strv p1.s,.int .i64 p1.at'].toArray 70 (0,0))]) (sepA [blk b2 (.cells [strv r0.2.s,.int .i64 r0.2.at'].toArray 70 (0,0))]) w') (fun w'=>r=none∧Keep (sepA [blk b2 (.cells [strv p1.s,.int .i64 p1.at'].toArray 70 (0,0))]).fp w0 w'):=by
  unfold Zm at hm
  refine fnP (args:=[.pointer (some ⟨b2,0,none⟩)]) (F:=[(0,.pointer (some ⟨b2,0,none⟩))]) Tryz.func74 rfl Tryz.ntmps74 rfl rfl fun a hF=>?_
  have hS:=startM hH hO hD
  refine th<|?_
  refine rg<|?_
  refine ls<|q1 hF rfl (e_asg hF rfl) fun a hF=>?_
  refine re<|?_
  refine tn<|th<|?_
  refine rg<|?_
  refine ls<|q1 hF rfl (e_move hF rfl) fun a hF=>?_
  replace hS:=hS.pickL (.cons .head .nil)
  replace hS:=St.sep [blk b2 (.cells [strv p1.s,.int .i64 p1.at'].toArray 70 (0,0))] hS
  obtain ⟨ro5,h4,hm⟩:=Option.bindP_x hm
  refine ls<|c1p hF rfl Tryz.call73 (Zn_c (St.le hS) (p1:=p1) (b2:=b2) (St.sepOk hS) (St.sepDis hS) h4) ⟨rfl,trivial⟩ (fun _ _ w hE=>?_) (fun v w a hR hF=>?_)
  · obtain ⟨rfl,hk⟩:=hE;obtain rfl:=Option.some.inj hm;exact tpn<|pnB hF ⟨rfl,St.panK hS hk⟩
  obtain ⟨rz3,rfl,hR⟩:=hR
  replace hm:=Option.bindP_s hm
  obtain ⟨rfl,hk⟩:=hR
  replace hS:=(hS.mut hk .head).unsep
  clear hk
  refine ls<|q1 hF rfl (e_asg hF rfl) fun a hF=>?_
  refine re<|?_
  refine tn<|th<|th<|?_
  refine rg<|?_
  refine ls<|q1 hF rfl (e_move hF rfl) fun a hF=>?_
  refine ls<|q1 hF rfl (e_move hF rfl) fun a hF=>?_
  refine ls<|q1 hF rfl (e_nilp hF rfl) fun a hF=>?_
  refine ls<|q1 hF rfl (e_fa hF fa70_0 rfl) fun a hF=>?_
  refine ls<|q1 hF rfl (e_ld hF Tryz.isAgg9 rfl ((St.ld hS).cellB (.head _) rfl)) fun a hF=>?_
  refine ls<|q1 hF rfl (e_lenU (s:=rz3.2.s) hF Tryz.runUnderlying9 rfl) fun a hF=>?_
  refine ls<|q1 hF rfl (e_gtr hF rfl rfl) fun a hF=>?_
  refine re<|?_
  rcases bdich (decide ((rz3.2.s.length:Int) < rz3.1)) with hb6 | hb6
  ·
    replace hm:=itp_t hm hb6
    refine tn<|ctv hF rfl hb6<|?_
    refine rg<|?_
    refine ls<|q1 hF rfl (e_mki hF (mki31 _) rfl) fun a hF=>?_
    refine ls<|pnq hF rfl ?_
    obtain rfl:=Option.some.inj hm
    exact tpn<|pnB hF ⟨rfl,hS.keep⟩
  ·
    replace hm:=itp_f hm hb6
    refine tn<|cfv hF rfl hb6<|wk<|?_
    refine tn<|th<|?_
    refine rg<|?_
    refine ls<|q1 hF rfl (e_move hF rfl) fun a hF=>?_
    refine ls<|q1 hF rfl (e_asg hF rfl) fun a hF=>?_
    refine re<|?_
    refine tn<|?_
    refine wr<|?_
    obtain rfl:=Option.some.inj hm
    exact bpl (r1 hF Tryz.results74 rfl ⟨_,rfl,rfl,(hS.pickL (.cons .head .nil)).endMut⟩)
set_option maxRecDepth 100000 in
theorem Zo_c {N:Nat} {w0:World} {H:PH} (hH:H.le w0) {b2:Nat} {p1:binary_reader} (hO:(sepA [blk b2 (.cells [strv p1.s,.int .i64 p1.at'].toArray 70 (0,0))]).ok (hp w0)) (hD:∀ b,(sepA [blk b2 (.cells [strv p1.s,.int .i64 p1.at'].toArray 70 (0,0))]).fp b→H b=none) {r:(Option ((List Int)×binary_reader))} (hm:Zo N p1=some r):TotP Tryz.prog 72 #[.pointer (some ⟨b2,0,none⟩)] w0 (fun v w'=>∃ (r0:((List Int)×binary_reader)),r=some r0∧∃ (oa0:Option Addr) (cap0:Nat) (vs0:List Value),v=.slice oa0 r0.1.length cap0∧(∀ h,Rows h vs0 r0.1)∧Mut w0 (sepA [blk b2 (.cells [strv p1.s,.int .i64 p1.at'].toArray 70 (0,0))]) (sepA [blk b2 (.cells [strv r0.2.s,.int .i64 r0.2.at'].toArray 70 (0,0)),sla 3 1 oa0 r0.1.length cap0 vs0]) w') (fun w'=>r=none∧Keep (sepA [blk b2 (.cells [strv p1.s,.int .i64 p1.at'].toArray 70 (0,0))]).fp w0 w'):=by
  unfold Zo at hm
  refine fnP (args:=[.pointer (some ⟨b2,0,none⟩)]) (F:=[(0,.pointer (some ⟨b2,0,none⟩))]) Tryz.func72 rfl Tryz.ntmps72 rfl rfl fun a hF=>?_
  have hS:=startM hH hO hD
  refine th<|?_
  refine rg<|?_
  refine ls<|q1 hF rfl (e_asg hF rfl) fun a hF=>?_
  refine re<|?_
  refine tn<|th<|?_
  refine rg<|?_
  refine ls<|q1 hF rfl (e_asg hF rfl) fun a hF=>?_
  refine re<|?_
  refine tn<|th<|th<|?_
  refine rg<|?_
  refine ls<|q1 hF rfl (e_move hF rfl) fun a hF=>?_
  replace hS:=hS.pickL (.cons .head .nil)
  replace hS:=St.sep [blk b2 (.cells [strv p1.s,.int .i64 p1.at'].toArray 70 (0,0))] hS
  obtain ⟨ro5,h4,hm⟩:=Option.bindP_x hm
  refine ls<|c1p hF rfl Tryz.call74 (Zm_c (St.le hS) (p1:=p1) (b2:=b2) (St.sepOk hS) (St.sepDis hS) h4) ⟨rfl,trivial⟩ (fun _ _ w hE=>?_) (fun v w a hR hF=>?_)
  · obtain ⟨rfl,hk⟩:=hE;obtain rfl:=Option.some.inj hm;exact tpn<|tpn<|pnB hF ⟨rfl,St.panK hS hk⟩
  obtain ⟨rz3,rfl,hR⟩:=hR
  replace hm:=Option.bindP_s hm
  obtain ⟨rfl,hk⟩:=hR
  replace hS:=(hS.mut hk .head).unsep
  clear hk
  refine ls<|q1 hF rfl (e_move hF rfl) fun a hF=>?_
  refine re<|?_
  refine tn<|midK (fun a w=>∃ (vA1:binary_reader) (vA2:(List Int)) (oaA3:Option Addr) (capA4:Nat) (vsA5:List Value),Zp vA1 vA2=some r∧Fr 15 [(0,.pointer (some ⟨b2,0,none⟩)),(3,.slice oaA3 vA2.length capA4)] a∧St w0 (sepA [blk b2 (.cells [strv p1.s,.int .i64 p1.at'].toArray 70 (0,0))]).fp [H] [blk b2 (.cells [strv vA1.s,.int .i64 vA1.at'].toArray 70 (0,0)),sla 3 1 oaA3 vA2.length capA4 vsA5] w∧Rows H vsA5 vA2) ?_ ?_
  ·
    replace hS:=St.nilS hS 3 1
    replace hS:=hS.pickL (.cons (.tail .head) (.cons .head .nil))
    refine wb<|lp (α:=Nat×binary_reader×(List Int)×Int) (fun (gh:Nat×binary_reader×(List Int)×Int) a w=>match gh with | (nn2,vB1,vB2,vB8)=>∃ (oaB3:Option Addr) (capB4:Nat) (vsB5:List Value),(Zq N Zp rz3) nn2 vB1 vB2 vB8=some r∧Fr 15 [(0,.pointer (some ⟨b2,0,none⟩)),(3,.slice oaB3 vB2.length capB4),(5,.int .i64 rz3.1),(6,.int .i64 vB8)] a∧St w0 (sepA [blk b2 (.cells [strv p1.s,.int .i64 p1.at'].toArray 70 (0,0))]).fp [H] [blk b2 (.cells [strv vB1.s,.int .i64 vB1.at'].toArray 70 (0,0)),sla 3 1 oaB3 vB2.length capB4 vsB5] w∧Rows H vsB5 vB2) (fun gh=>gh.1) (N,rz3.2,[],0) ⟨none,0,[],hm,hF.has ⟨rfl,rfl,rfl,rfl,trivial⟩,hS,.nil⟩ ?_
    clear hm hF hS
    rintro ⟨nn2,vB1,vB2,vB8⟩ a w ⟨oaB3,capB4,vsB5,hm,hF,hS,hvB6⟩
    obtain _ | nn2:=nn2
    · simp [Zq] at hm
    rw [Zq] at hm
    refine th<|?_
    refine rg<|?_
    refine ls<|q1 hF rfl (e_lss hF rfl rfl) fun a hF=>?_
    refine re<|?_
    rcases bdich (decide (vB8 < rz3.1)) with hb6 | hb6
    ·
      replace hm:=itp_t hm hb6
      refine tn<|th<|ctv hF rfl hb6<|wk<|?_
      refine tn<|th<|wb<|?_
      refine rg<|?_
      refine ls<|q1 hF rfl (e_move hF rfl) fun a hF=>?_
      refine ls<|q1 hF rfl (e_move hF rfl) fun a hF=>?_
      replace hS:=hS.pickL (.cons .head (.cons .head .nil))
      replace hS:=St.sep [blk b2 (.cells [strv vB1.s,.int .i64 vB1.at'].toArray 70 (0,0))] hS
      obtain ⟨ro9,h8,hm⟩:=Option.bindP_x hm
      refine ls<|c1p hF rfl Tryz.call73 (Zn_c (St.le hS) (p1:=vB1) (b2:=b2) (St.sepOk hS) (St.sepDis hS) h8) ⟨rfl,trivial⟩ (fun _ _ w hE=>?_) (fun v w a hR hF=>?_)
      · obtain ⟨rfl,hk⟩:=hE;obtain rfl:=Option.some.inj hm;exact bpn<|tpn<|tpn<|bpn<|tpn<|pnB hF ⟨rfl,St.panK hS hk⟩
      obtain ⟨rz7,rfl,hR⟩:=hR
      replace hm:=Option.bindP_s hm
      replace hm:=bind_some hm
      obtain ⟨l13,h14,hm⟩:=hm
      obtain ⟨rfl,hk⟩:=hR
      replace hS:=(hS.mut hk .head).unsep
      clear hk
      refine ls<|a_bsl (e:=3) (sz:=1) [.int .i64 rz7.1] hF rfl hS rfl rfl rfl (fun w=>by kernel_rfl) fun b11 w a hS hF=>?_
      have hv10:Rows (α:=Int) H [.int .i64 rz7.1] ([rz7.1]:List Int):=(.cons (c:=[.int .i64 rz7.1]) rfl .nil)
      refine ls<|m_app (α:=Int) (xs:=vB2) (ys:=([rz7.1]:List Int)) hF rfl hS Tryz.underlying22 info3 rfl (by decide) rfl rfl rfl (.tail _ (.tail _ (.head _))) hvB6 (hS.rdO (.head _)) hv10 h14 fun oa15 cap16 vs17 w a hv18 hU hF=>?_
      replace hS:=hU _ (.tail (.tail .head))
      clear hU
      replace hS:=hS.drop .head
      refine ls<|q1 hF rfl (e_asg hF rfl) fun a hF=>?_
      refine re<|?_
      refine bn<|tn<|?_
      refine rg<|?_
      refine ls<|q1 hF rfl (e_add hF rfl rfl) fun a hF=>?_
      refine ls<|q1 hF rfl (e_move hF rfl) fun a hF=>?_
      refine re<|?_
      refine tn<|?_
      exact ⟨(nn2,rz7.2,l13,(IntKind.i64.wrap (vB8+1))),⟨oa15,cap16,vs17,hm,hF.has ⟨rfl,rfl,rfl,rfl,trivial⟩,hS,hv18⟩,Nat.lt_succ_self _⟩
    ·
      replace hm:=itp_f hm hb6
      refine tn<|th<|cfv hF rfl hb6<|?_
      refine we<|tx<|tx<|bx<|?_
      refine tn<|?_
      exact ⟨vB1,vB2,oaB3,capB4,vsB5,hm,hF.has ⟨rfl,rfl,trivial⟩,hS,hvB6⟩
  clear hm hF hS
  rintro a w ⟨vA1,vA2,oaA3,capA4,vsA5,hm,hF,hS,hvA6⟩
  unfold Zp at hm
  refine th<|?_
  refine rg<|?_
  refine ls<|q1 hF rfl (e_move hF rfl) fun a hF=>?_
  refine ls<|q1 hF rfl (e_asg hF rfl) fun a hF=>?_
  refine re<|?_
  refine tn<|?_
  refine wr<|?_
  obtain rfl:=Option.some.inj hm
  exact bpl (r1 hF Tryz.results72 rfl ⟨_,rfl,_,_,_,rfl,(fun _=>Rows.ind hvA6),(hS.pickL (.cons .head (.cons .head .nil))).endMut⟩)
set_option maxRecDepth 100000 in
theorem Zr_c {N:Nat} {w0:World} {H:PH} (hH:H.le w0) {b2:Nat} {p1:binary_reader} (hO:(sepA [blk b2 (.cells [strv p1.s,.int .i64 p1.at'].toArray 70 (0,0))]).ok (hp w0)) (hD:∀ b,(sepA [blk b2 (.cells [strv p1.s,.int .i64 p1.at'].toArray 70 (0,0))]).fp b→H b=none) {r:(Option ((List api_Op)×binary_reader))} (hm:Zr N p1=some r):TotP Tryz.prog 76 #[.pointer (some ⟨b2,0,none⟩)] w0 (fun v w'=>∃ (r0:((List api_Op)×binary_reader)),r=some r0∧∃ (oa0:Option Addr) (cap0:Nat) (vs0:List Value),v=.slice oa0 r0.1.length cap0∧(∀ h,Rows h vs0 r0.1)∧Mut w0 (sepA [blk b2 (.cells [strv p1.s,.int .i64 p1.at'].toArray 70 (0,0))]) (sepA [blk b2 (.cells [strv r0.2.s,.int .i64 r0.2.at'].toArray 70 (0,0)),sla 83 2 oa0 r0.1.length cap0 vs0]) w') (fun w'=>r=none∧Keep (sepA [blk b2 (.cells [strv p1.s,.int .i64 p1.at'].toArray 70 (0,0))]).fp w0 w'):=by
  unfold Zr at hm
  refine fnP (args:=[.pointer (some ⟨b2,0,none⟩)]) (F:=[(0,.pointer (some ⟨b2,0,none⟩))]) Tryz.func76 rfl Tryz.ntmps76 rfl rfl fun a hF=>?_
  have hS:=startM hH hO hD
  refine th<|?_
  refine rg<|?_
  refine ls<|q1 hF rfl (e_asg hF rfl) fun a hF=>?_
  refine re<|?_
  refine tn<|th<|?_
  refine rg<|?_
  refine ls<|q1 hF rfl (e_asg hF rfl) fun a hF=>?_
  refine re<|?_
  refine tn<|th<|th<|?_
  refine rg<|?_
  refine ls<|q1 hF rfl (e_move hF rfl) fun a hF=>?_
  replace hS:=hS.pickL (.cons .head .nil)
  replace hS:=St.sep [blk b2 (.cells [strv p1.s,.int .i64 p1.at'].toArray 70 (0,0))] hS
  obtain ⟨ro5,h4,hm⟩:=Option.bindP_x hm
  refine ls<|c1p hF rfl Tryz.call74 (Zm_c (St.le hS) (p1:=p1) (b2:=b2) (St.sepOk hS) (St.sepDis hS) h4) ⟨rfl,trivial⟩ (fun _ _ w hE=>?_) (fun v w a hR hF=>?_)
  · obtain ⟨rfl,hk⟩:=hE;obtain rfl:=Option.some.inj hm;exact tpn<|tpn<|pnB hF ⟨rfl,St.panK hS hk⟩
  obtain ⟨rz3,rfl,hR⟩:=hR
  replace hm:=Option.bindP_s hm
  obtain ⟨rfl,hk⟩:=hR
  replace hS:=(hS.mut hk .head).unsep
  clear hk
  refine ls<|q1 hF rfl (e_move hF rfl) fun a hF=>?_
  refine re<|?_
  refine tn<|midK (fun a w=>∃ (vA1:binary_reader) (vA2:(List api_Op)) (oaA3:Option Addr) (capA4:Nat) (vsA5:List Value),Zs vA1 vA2=some r∧Fr 21 [(0,.pointer (some ⟨b2,0,none⟩)),(3,.slice oaA3 vA2.length capA4)] a∧St w0 (sepA [blk b2 (.cells [strv p1.s,.int .i64 p1.at'].toArray 70 (0,0))]).fp [H] [blk b2 (.cells [strv vA1.s,.int .i64 vA1.at'].toArray 70 (0,0)),sla 83 2 oaA3 vA2.length capA4 vsA5] w∧Rows H vsA5 vA2) ?_ ?_
  ·
    replace hS:=St.nilS hS 83 2
    replace hS:=hS.pickL (.cons (.tail .head) (.cons .head .nil))
    refine wb<|lp (α:=Nat×binary_reader×(List api_Op)×Int) (fun (gh:Nat×binary_reader×(List api_Op)×Int) a w=>match gh with | (nn2,vB1,vB2,vB8)=>∃ (oaB3:Option Addr) (capB4:Nat) (vsB5:List Value),(Zt N Zs rz3) nn2 vB1 vB2 vB8=some r∧Fr 21 [(0,.pointer (some ⟨b2,0,none⟩)),(3,.slice oaB3 vB2.length capB4),(6,.int .i64 rz3.1),(7,.int .i64 vB8)] a∧St w0 (sepA [blk b2 (.cells [strv p1.s,.int .i64 p1.at'].toArray 70 (0,0))]).fp [H] [blk b2 (.cells [strv vB1.s,.int .i64 vB1.at'].toArray 70 (0,0)),sla 83 2 oaB3 vB2.length capB4 vsB5] w∧Rows H vsB5 vB2) (fun gh=>gh.1) (N,rz3.2,[],0) ⟨none,0,[],hm,hF.has ⟨rfl,rfl,rfl,rfl,trivial⟩,hS,.nil⟩ ?_
    clear hm hF hS
    rintro ⟨nn2,vB1,vB2,vB8⟩ a w ⟨oaB3,capB4,vsB5,hm,hF,hS,hvB6⟩
    obtain _ | nn2:=nn2
    · simp [Zt] at hm
    rw [Zt] at hm
    refine th<|?_
    refine rg<|?_
    refine ls<|q1 hF rfl (e_lss hF rfl rfl) fun a hF=>?_
    refine re<|?_
    rcases bdich (decide (vB8 < rz3.1)) with hb6 | hb6
    ·
      replace hm:=itp_t hm hb6
      refine tn<|th<|ctv hF rfl hb6<|wk<|?_
      refine tn<|th<|wb<|th<|?_
      refine rg<|?_
      refine ls<|a_alloc (cs:=[.int .i64 0,.int .i64 0].toArray) hF rfl hS Tryz.zeroValue83 rfl fun b7 w a hS hF=>?_
      refine re<|?_
      refine tn<|th<|?_
      refine rg<|?_
      refine ls<|q1 hF rfl (e_move hF rfl) fun a hF=>?_
      replace hS:=hS.pickL (.cons (.tail .head) (.cons .head (.cons .head .nil)))
      replace hS:=St.sep [blk b2 (.cells [strv vB1.s,.int .i64 vB1.at'].toArray 70 (0,0))] hS
      obtain ⟨ro10,h9,hm⟩:=Option.bindP_x hm
      refine ls<|c1p hF rfl Tryz.call73 (Zn_c (St.le hS) (p1:=vB1) (b2:=b2) (St.sepOk hS) (St.sepDis hS) h9) ⟨rfl,trivial⟩ (fun _ _ w hE=>?_) (fun v w a hR hF=>?_)
      · obtain ⟨rfl,hk⟩:=hE;obtain rfl:=Option.some.inj hm;exact tpn<|bpn<|tpn<|tpn<|bpn<|tpn<|pnB hF ⟨rfl,St.panK hS hk⟩
      obtain ⟨rz8,rfl,hR⟩:=hR
      replace hm:=Option.bindP_s hm
      obtain ⟨rfl,hk⟩:=hR
      replace hS:=(hS.mut hk .head).unsep
      clear hk
      refine ls<|q1 hF rfl (e_fa hF fa83_0 rfl) fun a hF=>?_
      refine ls<|s_blk hF hS Tryz.sizeOf3 rfl rfl rfl rfl (.tail .head) .zero fun w hS=>?_
      refine re<|?_
      refine tn<|th<|?_
      refine rg<|?_
      refine ls<|q1 hF rfl (e_move hF rfl) fun a hF=>?_
      replace hS:=hS.pickL (.cons .head (.cons .head (.cons .head .nil)))
      replace hS:=St.sep [blk b2 (.cells [strv rz8.2.s,.int .i64 rz8.2.at'].toArray 70 (0,0))] hS
      obtain ⟨ro13,h12,hm⟩:=Option.bindP_x hm
      refine ls<|c1p hF rfl Tryz.call73 (Zn_c (St.le hS) (p1:=rz8.2) (b2:=b2) (St.sepOk hS) (St.sepDis hS) h12) ⟨rfl,trivial⟩ (fun _ _ w hE=>?_) (fun v w a hR hF=>?_)
      · obtain ⟨rfl,hk⟩:=hE;obtain rfl:=Option.some.inj hm;exact tpn<|bpn<|tpn<|tpn<|bpn<|tpn<|pnB hF ⟨rfl,St.panK hS hk⟩
      obtain ⟨r11,rfl,hR⟩:=hR
      replace hm:=Option.bindP_s hm
      obtain ⟨rfl,hk⟩:=hR
      replace hS:=(hS.mut hk .head).unsep
      clear hk
      refine ls<|q1 hF rfl (e_fa hF fa83_1 rfl) fun a hF=>?_
      refine ls<|s_blk hF hS Tryz.sizeOf3 rfl rfl rfl rfl (.tail .head) (.succ .zero) fun w hS=>?_
      refine re<|?_
      refine tn<|?_
      replace hm:=bind_some hm
      obtain ⟨l17,h18,hm⟩:=hm
      refine rg<|?_
      refine ls<|q1 hF rfl (e_move hF rfl) fun a hF=>?_
      refine ls<|q1 hF rfl (e_ldA hF Tryz.isAgg83 Tryz.sizeOf83 rfl rfl ((St.ld hS).cellsB (.tail _ (.head _)))) fun a hF=>?_
      refine ls<|a_bsl (e:=83) (sz:=2) [.int .i64 rz8.1,.int .i64 r11.1] hF rfl hS rfl rfl rfl (fun w=>by kernel_rfl) fun b15 w a hS hF=>?_
      have hv14:Rows (α:=api_Op) H [.int .i64 rz8.1,.int .i64 r11.1] ([(api_Op.mk rz8.1 r11.1)]:List api_Op):=(.cons (c:=[.int .i64 rz8.1,.int .i64 r11.1]) ⟨_,_,rfl,rfl,rfl⟩ .nil)
      refine ls<|m_app (α:=api_Op) (xs:=vB2) (ys:=([(api_Op.mk rz8.1 r11.1)]:List api_Op)) hF rfl hS Tryz.underlying54 info83 rfl (by decide) rfl rfl rfl (.tail _ (.tail _ (.tail _ (.head _)))) hvB6 (hS.rdO (.head _)) hv14 h18 fun oa19 cap20 vs21 w a hv22 hU hF=>?_
      replace hS:=hU _ (.tail (.tail (.tail .head)))
      clear hU
      replace hS:=hS.drop .head
      refine ls<|q1 hF rfl (e_asg hF rfl) fun a hF=>?_
      refine re<|?_
      refine bn<|tn<|?_
      refine rg<|?_
      refine ls<|q1 hF rfl (e_add hF rfl rfl) fun a hF=>?_
      refine ls<|q1 hF rfl (e_move hF rfl) fun a hF=>?_
      refine re<|?_
      refine tn<|?_
      replace hS:=hS.pickL (.cons .head (.cons (.tail .head) .nil))
      exact ⟨(nn2,r11.2,l17,(IntKind.i64.wrap (vB8+1))),⟨oa19,cap20,vs21,hm,hF.has ⟨rfl,rfl,rfl,rfl,trivial⟩,hS,hv22⟩,Nat.lt_succ_self _⟩
    ·
      replace hm:=itp_f hm hb6
      refine tn<|th<|cfv hF rfl hb6<|?_
      refine we<|tx<|tx<|bx<|?_
      refine tn<|?_
      exact ⟨vB1,vB2,oaB3,capB4,vsB5,hm,hF.has ⟨rfl,rfl,trivial⟩,hS,hvB6⟩
  clear hm hF hS
  rintro a w ⟨vA1,vA2,oaA3,capA4,vsA5,hm,hF,hS,hvA6⟩
  unfold Zs at hm
  refine th<|?_
  refine rg<|?_
  refine ls<|q1 hF rfl (e_move hF rfl) fun a hF=>?_
  refine ls<|q1 hF rfl (e_asg hF rfl) fun a hF=>?_
  refine re<|?_
  refine tn<|?_
  refine wr<|?_
  obtain rfl:=Option.some.inj hm
  exact bpl (r1 hF Tryz.results76 rfl ⟨_,rfl,_,_,_,rfl,(fun _=>Rows.ind hvA6),(hS.pickL (.cons .head (.cons .head .nil))).endMut⟩)
set_option maxHeartbeats 4000000 in
set_option maxRecDepth 100000 in
theorem Zh_c {N:Nat} {w0:World} {H:PH} (hH:H.le w0) {b2:Nat} {p1:binary_reader} (hO:(sepA [blk b2 (.cells [strv p1.s,.int .i64 p1.at'].toArray 70 (0,0))]).ok (hp w0)) (hD:∀ b,(sepA [blk b2 (.cells [strv p1.s,.int .i64 p1.at'].toArray 70 (0,0))]).fp b→H b=none) {r:(Option (api_Code×binary_reader))} (hm:Zh N p1=some r):TotP Tryz.prog 75 #[.pointer (some ⟨b2,0,none⟩)] w0 (fun v w'=>∃ (r0:(api_Code×binary_reader)),r=some r0∧∃ (H':PH) (cs0:List Value),v=.agg cs0.toArray∧Enc.rep H' cs0 r0.1∧ExtM w0 (sepA [blk b2 (.cells [strv p1.s,.int .i64 p1.at'].toArray 70 (0,0))]).fp H H'∧H'.le w'∧(∀ b,(sepA [blk b2 (.cells [strv r0.2.s,.int .i64 r0.2.at'].toArray 70 (0,0))]).fp b→H' b=none)∧Mut w0 (sepA [blk b2 (.cells [strv p1.s,.int .i64 p1.at'].toArray 70 (0,0))]) (sepA [blk b2 (.cells [strv r0.2.s,.int .i64 r0.2.at'].toArray 70 (0,0))]) w') (fun w'=>r=none∧Keep (sepA [blk b2 (.cells [strv p1.s,.int .i64 p1.at'].toArray 70 (0,0))]).fp w0 w'):=by
  unfold Zh at hm
  refine fnP (args:=[.pointer (some ⟨b2,0,none⟩)]) (F:=[(0,.pointer (some ⟨b2,0,none⟩))]) Tryz.func75 rfl Tryz.ntmps75 rfl rfl fun a hF=>?_
  have hS:=startM hH hO hD
  refine th<|?_
  refine rg<|?_
  refine ls<|a_alloc (cs:=[.int .i64 0,.int .i64 0,.slice none 0 0].toArray) hF rfl hS Tryz.zeroValue26 rfl fun b3 w a hS hF=>?_
  refine re<|?_
  refine tn<|th<|?_
  refine rg<|?_
  refine ls<|a_alloc (cs:=[.int .i64 0,.int .i64 0,.slice none 0 0].toArray) hF rfl hS Tryz.zeroValue26 rfl fun b4 w a hS hF=>?_
  refine re<|?_
  refine tn<|th<|?_
  refine rg<|?_
  refine ls<|q1 hF rfl (e_move hF rfl) fun a hF=>?_
  replace hS:=hS.pickL (.cons (.tail (.tail .head)) (.cons .head (.cons .head .nil)))
  replace hS:=St.sep [blk b2 (.cells [strv p1.s,.int .i64 p1.at'].toArray 70 (0,0))] hS
  obtain ⟨ro7,h6,hm⟩:=Option.bindP_x hm
  refine ls<|c1p hF rfl Tryz.call73 (Zn_c (St.le hS) (p1:=p1) (b2:=b2) (St.sepOk hS) (St.sepDis hS) h6) ⟨rfl,trivial⟩ (fun _ _ w hE=>?_) (fun v w a hR hF=>?_)
  · obtain ⟨rfl,hk⟩:=hE;obtain rfl:=Option.some.inj hm;exact tpn<|pnB hF ⟨rfl,St.panK hS hk⟩
  obtain ⟨rz5,rfl,hR⟩:=hR
  replace hm:=Option.bindP_s hm
  obtain ⟨rfl,hk⟩:=hR
  replace hS:=(hS.mut hk .head).unsep
  clear hk
  refine ls<|q1 hF rfl (e_fa hF fa26_0 rfl) fun a hF=>?_
  refine ls<|s_blk hF hS Tryz.sizeOf3 rfl rfl rfl rfl (.tail .head) .zero fun w hS=>?_
  refine re<|?_
  refine tn<|th<|?_
  refine rg<|?_
  refine ls<|q1 hF rfl (e_move hF rfl) fun a hF=>?_
  replace hS:=hS.pickL (.cons .head (.cons .head (.cons .head .nil)))
  replace hS:=St.sep [blk b2 (.cells [strv rz5.2.s,.int .i64 rz5.2.at'].toArray 70 (0,0))] hS
  obtain ⟨ro10,h9,hm⟩:=Option.bindP_x hm
  refine ls<|c1p hF rfl Tryz.call73 (Zn_c (St.le hS) (p1:=rz5.2) (b2:=b2) (St.sepOk hS) (St.sepDis hS) h9) ⟨rfl,trivial⟩ (fun _ _ w hE=>?_) (fun v w a hR hF=>?_)
  · obtain ⟨rfl,hk⟩:=hE;obtain rfl:=Option.some.inj hm;exact tpn<|pnB hF ⟨rfl,St.panK hS hk⟩
  obtain ⟨rz8,rfl,hR⟩:=hR
  replace hm:=Option.bindP_s hm
  obtain ⟨rfl,hk⟩:=hR
  replace hS:=(hS.mut hk .head).unsep
  clear hk
  refine ls<|q1 hF rfl (e_fa hF fa26_1 rfl) fun a hF=>?_
  refine ls<|s_blk hF hS Tryz.sizeOf3 rfl rfl rfl rfl (.tail .head) (.succ .zero) fun w hS=>?_
  refine re<|?_
  refine tn<|th<|th<|?_
  refine rg<|?_
  refine ls<|q1 hF rfl (e_move hF rfl) fun a hF=>?_
  replace hS:=hS.pickL (.cons .head (.cons .head (.cons .head .nil)))
  replace hS:=St.sep [blk b2 (.cells [strv rz8.2.s,.int .i64 rz8.2.at'].toArray 70 (0,0))] hS
  obtain ⟨ro13,h12,hm⟩:=Option.bindP_x hm
  refine ls<|c1p hF rfl Tryz.call74 (Zm_c (St.le hS) (p1:=rz8.2) (b2:=b2) (St.sepOk hS) (St.sepDis hS) h12) ⟨rfl,trivial⟩ (fun _ _ w hE=>?_) (fun v w a hR hF=>?_)
  · obtain ⟨rfl,hk⟩:=hE;obtain rfl:=Option.some.inj hm;exact tpn<|tpn<|pnB hF ⟨rfl,St.panK hS hk⟩
  obtain ⟨r11,rfl,hR⟩:=hR
  replace hm:=Option.bindP_s hm
  obtain ⟨rfl,hk⟩:=hR
  replace hS:=(hS.mut hk .head).unsep
  clear hk
  refine ls<|q1 hF rfl (e_move hF rfl) fun a hF=>?_
  refine re<|?_
  refine tn<|midK (fun a w=>∃ (vA2:binary_reader) (vA3:(List api_Instr)) (HA1:PH) (oaA4:Option Addr) (capA5:Nat) (vsA6:List Value),(Zi rz5 rz8) vA2 vA3=some r∧ExtM w0 (sepA [blk b2 (.cells [strv p1.s,.int .i64 p1.at'].toArray 70 (0,0))]).fp H HA1∧Fr 46 [(0,.pointer (some ⟨b2,0,none⟩)),(2,.pointer (some ⟨b3,0,none⟩)),(3,.pointer (some ⟨b4,0,none⟩))] a∧St w0 (sepA [blk b2 (.cells [strv p1.s,.int .i64 p1.at'].toArray 70 (0,0))]).fp [HA1] [blk b2 (.cells [strv vA2.s,.int .i64 vA2.at'].toArray 70 (0,0)),blk b3 (.cells [.int .i64 0,.int .i64 0,.slice none 0 0].toArray 26 (0,0)),sla 85 6 oaA4 vA3.length capA5 vsA6,blk b4 (.cells [.int .i64 rz5.1,.int .i64 rz8.1,.slice oaA4 vA3.length capA5].toArray 26 (0,0))] w∧Rows HA1 vsA6 vA3) ?_ ?_
  ·
    replace hS:=St.nilS hS 85 6
    replace hS:=hS.pickL (.cons (.tail .head) (.cons (.tail (.tail .head)) (.cons .head (.cons .head .nil))))
    refine wb<|lp (α:=Nat×binary_reader×(List api_Instr)×Int) (fun (gh:Nat×binary_reader×(List api_Instr)×Int) a w=>match gh with | (nn2,vB2,vB3,vB9)=>∃ (HB1:PH) (oaB4:Option Addr) (capB5:Nat) (vsB6:List Value),(Zl N (Zi rz5 rz8) r11) nn2 vB2 vB3 vB9=some r∧ExtM w0 (sepA [blk b2 (.cells [strv p1.s,.int .i64 p1.at'].toArray 70 (0,0))]).fp H HB1∧Fr 46 [(0,.pointer (some ⟨b2,0,none⟩)),(2,.pointer (some ⟨b3,0,none⟩)),(3,.pointer (some ⟨b4,0,none⟩)),(14,.int .i64 r11.1),(15,.int .i64 vB9)] a∧St w0 (sepA [blk b2 (.cells [strv p1.s,.int .i64 p1.at'].toArray 70 (0,0))]).fp [HB1] [blk b2 (.cells [strv vB2.s,.int .i64 vB2.at'].toArray 70 (0,0)),blk b3 (.cells [.int .i64 0,.int .i64 0,.slice none 0 0].toArray 26 (0,0)),sla 85 6 oaB4 vB3.length capB5 vsB6,blk b4 (.cells [.int .i64 rz5.1,.int .i64 rz8.1,.slice oaB4 vB3.length capB5].toArray 26 (0,0))] w∧Rows HB1 vsB6 vB3) (fun gh=>gh.1) (N,r11.2,[],0) ⟨H,none,0,[],hm,(ExtM.refl _ _ _),hF.has ⟨rfl,rfl,rfl,rfl,rfl,trivial⟩,hS,.nil⟩ ?_
    clear hm hF hS
    rintro ⟨nn2,vB2,vB3,vB9⟩ a w ⟨HB1,oaB4,capB5,vsB6,hm,hxHB1,hF,hS,hvB7⟩
    obtain _ | nn2:=nn2
    · simp [Zl] at hm
    rw [Zl] at hm
    refine th<|?_
    refine rg<|?_
    refine ls<|q1 hF rfl (e_lss hF rfl rfl) fun a hF=>?_
    refine re<|?_
    rcases bdich (decide (vB9 < r11.1)) with hb14 | hb14
    ·
      replace hm:=itp_t hm hb14
      refine tn<|th<|ctv hF rfl hb14<|wk<|?_
      refine tn<|th<|midK (fun a w=>∃ (vC2:binary_reader) (vC3:(List api_Instr)) (HC1:PH) (oaC4:Option Addr) (capC5:Nat) (vsC6:List Value),(Zj (Zl N (Zi rz5 rz8) r11 nn2) vB9) vC2 vC3=some r∧ExtM w0 (sepA [blk b2 (.cells [strv p1.s,.int .i64 p1.at'].toArray 70 (0,0))]).fp HB1 HC1∧Fr 46 [(0,.pointer (some ⟨b2,0,none⟩)),(2,.pointer (some ⟨b3,0,none⟩)),(3,.pointer (some ⟨b4,0,none⟩)),(14,.int .i64 r11.1),(15,.int .i64 vB9)] a∧St w0 (sepA [blk b2 (.cells [strv p1.s,.int .i64 p1.at'].toArray 70 (0,0))]).fp [HC1] [blk b2 (.cells [strv vC2.s,.int .i64 vC2.at'].toArray 70 (0,0)),blk b3 (.cells [.int .i64 0,.int .i64 0,.slice none 0 0].toArray 26 (0,0)),sla 85 6 oaC4 vC3.length capC5 vsC6,blk b4 (.cells [.int .i64 rz5.1,.int .i64 rz8.1,.slice oaC4 vC3.length capC5].toArray 26 (0,0))] w∧Rows HC1 vsC6 vC3) ?_ ?_
      ·
        refine wb<|th<|?_
        refine rg<|?_
        refine ls<|a_alloc (cs:=[.int .i64 0,.int .i64 0,.int .i64 0,.slice none 0 0,.slice none 0 0,.int .i64 0].toArray) hF rfl hS Tryz.zeroValue85 rfl fun b15 w a hS hF=>?_
        refine re<|?_
        refine tn<|th<|th<|?_
        refine rg<|?_
        refine ls<|q1 hF rfl (e_fa hF fa85_0 rfl) fun a hF=>?_
        refine ls<|q1 hF rfl (e_fa hF fa85_1 rfl) fun a hF=>?_
        refine ls<|q1 hF rfl (e_fa hF fa85_2 rfl) fun a hF=>?_
        refine ls<|q1 hF rfl (e_fa hF fa85_5 rfl) fun a hF=>?_
        refine ls<|a_bsl (e:=167) (sz:=1) [.pointer (some ⟨b15,0,none⟩),.pointer (some ⟨b15,1,none⟩),.pointer (some ⟨b15,2,none⟩),.pointer (some ⟨b15,5,none⟩)] hF rfl hS rfl rfl rfl (fun w=>by kernel_rfl) fun b16 w a hS hF=>?_
        refine ls<|q1 hF rfl (e_lenS hF Tryz.runUnderlying168 rfl) fun a hF=>?_
        refine ls<|q1 hF rfl (e_move hF rfl) fun a hF=>?_
        refine re<|?_
        refine tn<|midK (fun a w=>∃ (vD1:binary_reader) (vD2:Int) (vD3:Int) (vD4:Int) (vD5:Int),(Zk N (Zj (Zl N (Zi rz5 rz8) r11 nn2) vB9) vB3) vD1 vD2 vD3 vD4 vD5=some r∧Fr 46 [(0,.pointer (some ⟨b2,0,none⟩)),(2,.pointer (some ⟨b3,0,none⟩)),(3,.pointer (some ⟨b4,0,none⟩)),(4,.pointer (some ⟨b15,0,none⟩)),(14,.int .i64 r11.1),(15,.int .i64 vB9)] a∧St w0 (sepA [blk b2 (.cells [strv p1.s,.int .i64 p1.at'].toArray 70 (0,0))]).fp [HB1] [blk b2 (.cells [strv vD1.s,.int .i64 vD1.at'].toArray 70 (0,0)),blk b3 (.cells [.int .i64 0,.int .i64 0,.slice none 0 0].toArray 26 (0,0)),sla 85 6 oaB4 vB3.length capB5 vsB6,blk b4 (.cells [.int .i64 rz5.1,.int .i64 rz8.1,.slice oaB4 vB3.length capB5].toArray 26 (0,0)),blk b15 (.cells [.int .i64 vD2,.int .i64 vD3,.int .i64 vD4,.slice none 0 0,.slice none 0 0,.int .i64 vD5].toArray 85 (0,0))] w) ?_ ?_
        ·
          refine wb<|wl0<|wl1<|th<|?_
          refine rg<|?_
          refine ls<|q1 hF rfl ((e_as (e_lss hF rfl rfl) (by rfl))) fun a hF=>?_
          refine re<|?_
          refine tn<|th<|ct hF rfl<|wk<|?_
          refine tn<|th<|wb<|th<|?_
          refine rg<|?_
          refine ls<|q1 hF rfl (e_ia (oa:=some ⟨b16,0,none⟩) (i:=0) hF Tryz.runUnderlying168 Tryz.sizeOf167 rfl rfl rfl (by decide) rfl) fun a hF=>?_
          refine ls<|q1 hF rfl (e_ld hF Tryz.isAgg167 rfl (Lds.elO (oa:=some ⟨b16,0,none⟩) (j:=0) (St.ld hS) (.head _) rfl)) fun a hF=>?_
          refine ls<|q1 hF rfl (e_asg hF rfl) fun a hF=>?_
          refine re<|?_
          refine tn<|?_
          refine rg<|?_
          refine ls<|q1 hF rfl (e_move hF rfl) fun a hF=>?_
          refine ls<|q1 hF rfl (e_move hF rfl) fun a hF=>?_
          replace hS:=hS.pickL (.cons (.tail (.tail .head)) (.cons .head (.cons .head (.cons .head (.cons .head (.cons .head .nil))))))
          replace hS:=St.sep [blk b2 (.cells [strv vB2.s,.int .i64 vB2.at'].toArray 70 (0,0))] hS
          obtain ⟨ro20,h19,hm⟩:=Option.bindP_x hm
          refine ls<|c1p hF rfl Tryz.call73 (Zn_c (St.le hS) (p1:=vB2) (b2:=b2) (St.sepOk hS) (St.sepDis hS) h19) ⟨rfl,trivial⟩ (fun _ _ w hE=>?_) (fun v w a hR hF=>?_)
          · obtain ⟨rfl,hk⟩:=hE;obtain rfl:=Option.some.inj hm;exact bpn<|tpn<|tpn<|bpn<|tpn<|bpn<|tpn<|tpn<|bpn<|tpn<|pnB hF ⟨rfl,St.panK hS hk⟩
          obtain ⟨r18,rfl,hR⟩:=hR
          replace hm:=Option.bindP_s hm
          obtain ⟨rfl,hk⟩:=hR
          replace hS:=(hS.mut hk .head).unsep
          clear hk
          refine ls<|q1 hF rfl (e_nilp hF rfl) fun a hF=>?_
          refine ls<|s_blk hF hS Tryz.sizeOf3 rfl rfl rfl rfl (.tail (.tail .head)) .zero fun w hS=>?_
          refine re<|?_
          refine bn<|tn<|?_
          refine rg<|?_
          refine ls<|q1 hF rfl ((e_as (e_add hF rfl rfl) (congrArg (Value.int .i64) (show IntKind.i64.wrap (0+1)=1 by decide)))) fun a hF=>?_
          refine ls<|q1 hF rfl (e_move hF rfl) fun a hF=>?_
          refine re<|?_
          refine tn<|wl1<|th<|?_
          refine rg<|?_
          refine ls<|q1 hF rfl ((e_as (e_lss hF rfl rfl) (by rfl))) fun a hF=>?_
          refine re<|?_
          refine tn<|th<|ct hF rfl<|wk<|?_
          refine tn<|th<|wb<|th<|?_
          refine rg<|?_
          refine ls<|q1 hF rfl (e_ia (oa:=some ⟨b16,0,none⟩) (i:=1) hF Tryz.runUnderlying168 Tryz.sizeOf167 rfl rfl rfl (by decide) rfl) fun a hF=>?_
          refine ls<|q1 hF rfl (e_ld hF Tryz.isAgg167 rfl (Lds.elO (oa:=some ⟨b16,0,none⟩) (j:=1) (St.ld hS) (.tail _ (.head _)) rfl)) fun a hF=>?_
          refine ls<|q1 hF rfl (e_asg hF rfl) fun a hF=>?_
          refine re<|?_
          refine tn<|?_
          refine rg<|?_
          refine ls<|q1 hF rfl (e_move hF rfl) fun a hF=>?_
          refine ls<|q1 hF rfl (e_move hF rfl) fun a hF=>?_
          replace hS:=hS.pickL (.cons .head (.cons .head (.cons .head (.cons .head (.cons .head (.cons .head .nil))))))
          replace hS:=St.sep [blk b2 (.cells [strv r18.2.s,.int .i64 r18.2.at'].toArray 70 (0,0))] hS
          obtain ⟨ro23,h22,hm⟩:=Option.bindP_x hm
          refine ls<|c1p hF rfl Tryz.call73 (Zn_c (St.le hS) (p1:=r18.2) (b2:=b2) (St.sepOk hS) (St.sepDis hS) h22) ⟨rfl,trivial⟩ (fun _ _ w hE=>?_) (fun v w a hR hF=>?_)
          · obtain ⟨rfl,hk⟩:=hE;obtain rfl:=Option.some.inj hm;exact bpn<|tpn<|tpn<|bpn<|tpn<|bpn<|tpn<|tpn<|bpn<|tpn<|pnB hF ⟨rfl,St.panK hS hk⟩
          obtain ⟨r21,rfl,hR⟩:=hR
          replace hm:=Option.bindP_s hm
          obtain ⟨rfl,hk⟩:=hR
          replace hS:=(hS.mut hk .head).unsep
          clear hk
          refine ls<|q1 hF rfl (e_nilp hF rfl) fun a hF=>?_
          refine ls<|s_blk hF hS Tryz.sizeOf3 rfl rfl rfl rfl (.tail (.tail .head)) (.succ .zero) fun w hS=>?_
          refine re<|?_
          refine bn<|tn<|?_
          refine rg<|?_
          refine ls<|q1 hF rfl ((e_as (e_add hF rfl rfl) (congrArg (Value.int .i64) (show IntKind.i64.wrap (1+1)=2 by decide)))) fun a hF=>?_
          refine ls<|q1 hF rfl (e_move hF rfl) fun a hF=>?_
          refine re<|?_
          refine tn<|wl1<|th<|?_
          refine rg<|?_
          refine ls<|q1 hF rfl ((e_as (e_lss hF rfl rfl) (by rfl))) fun a hF=>?_
          refine re<|?_
          refine tn<|th<|ct hF rfl<|wk<|?_
          refine tn<|th<|wb<|th<|?_
          refine rg<|?_
          refine ls<|q1 hF rfl (e_ia (oa:=some ⟨b16,0,none⟩) (i:=2) hF Tryz.runUnderlying168 Tryz.sizeOf167 rfl rfl rfl (by decide) rfl) fun a hF=>?_
          refine ls<|q1 hF rfl (e_ld hF Tryz.isAgg167 rfl (Lds.elO (oa:=some ⟨b16,0,none⟩) (j:=2) (St.ld hS) (.tail _ (.head _)) rfl)) fun a hF=>?_
          refine ls<|q1 hF rfl (e_asg hF rfl) fun a hF=>?_
          refine re<|?_
          refine tn<|?_
          refine rg<|?_
          refine ls<|q1 hF rfl (e_move hF rfl) fun a hF=>?_
          refine ls<|q1 hF rfl (e_move hF rfl) fun a hF=>?_
          replace hS:=hS.pickL (.cons .head (.cons .head (.cons .head (.cons .head (.cons .head (.cons .head .nil))))))
          replace hS:=St.sep [blk b2 (.cells [strv r21.2.s,.int .i64 r21.2.at'].toArray 70 (0,0))] hS
          obtain ⟨ro26,h25,hm⟩:=Option.bindP_x hm
          refine ls<|c1p hF rfl Tryz.call73 (Zn_c (St.le hS) (p1:=r21.2) (b2:=b2) (St.sepOk hS) (St.sepDis hS) h25) ⟨rfl,trivial⟩ (fun _ _ w hE=>?_) (fun v w a hR hF=>?_)
          · obtain ⟨rfl,hk⟩:=hE;obtain rfl:=Option.some.inj hm;exact bpn<|tpn<|tpn<|bpn<|tpn<|bpn<|tpn<|tpn<|bpn<|tpn<|pnB hF ⟨rfl,St.panK hS hk⟩
          obtain ⟨r24,rfl,hR⟩:=hR
          replace hm:=Option.bindP_s hm
          obtain ⟨rfl,hk⟩:=hR
          replace hS:=(hS.mut hk .head).unsep
          clear hk
          refine ls<|q1 hF rfl (e_nilp hF rfl) fun a hF=>?_
          refine ls<|s_blk hF hS Tryz.sizeOf3 rfl rfl rfl rfl (.tail (.tail .head)) (.succ (.succ .zero)) fun w hS=>?_
          refine re<|?_
          refine bn<|tn<|?_
          refine rg<|?_
          refine ls<|q1 hF rfl ((e_as (e_add hF rfl rfl) (congrArg (Value.int .i64) (show IntKind.i64.wrap (2+1)=3 by decide)))) fun a hF=>?_
          refine ls<|q1 hF rfl (e_move hF rfl) fun a hF=>?_
          refine re<|?_
          refine tn<|wl1<|th<|?_
          refine rg<|?_
          refine ls<|q1 hF rfl ((e_as (e_lss hF rfl rfl) (by rfl))) fun a hF=>?_
          refine re<|?_
          refine tn<|th<|ct hF rfl<|wk<|?_
          refine tn<|th<|wb<|th<|?_
          refine rg<|?_
          refine ls<|q1 hF rfl (e_ia (oa:=some ⟨b16,0,none⟩) (i:=3) hF Tryz.runUnderlying168 Tryz.sizeOf167 rfl rfl rfl (by decide) rfl) fun a hF=>?_
          refine ls<|q1 hF rfl (e_ld hF Tryz.isAgg167 rfl (Lds.elO (oa:=some ⟨b16,0,none⟩) (j:=3) (St.ld hS) (.tail _ (.head _)) rfl)) fun a hF=>?_
          refine ls<|q1 hF rfl (e_asg hF rfl) fun a hF=>?_
          refine re<|?_
          refine tn<|?_
          refine rg<|?_
          refine ls<|q1 hF rfl (e_move hF rfl) fun a hF=>?_
          refine ls<|q1 hF rfl (e_move hF rfl) fun a hF=>?_
          replace hS:=hS.pickL (.cons .head (.cons .head (.cons .head (.cons .head (.cons .head (.cons .head .nil))))))
          replace hS:=St.sep [blk b2 (.cells [strv r24.2.s,.int .i64 r24.2.at'].toArray 70 (0,0))] hS
          obtain ⟨ro29,h28,hm⟩:=Option.bindP_x hm
          refine ls<|c1p hF rfl Tryz.call73 (Zn_c (St.le hS) (p1:=r24.2) (b2:=b2) (St.sepOk hS) (St.sepDis hS) h28) ⟨rfl,trivial⟩ (fun _ _ w hE=>?_) (fun v w a hR hF=>?_)
          · obtain ⟨rfl,hk⟩:=hE;obtain rfl:=Option.some.inj hm;exact bpn<|tpn<|tpn<|bpn<|tpn<|bpn<|tpn<|tpn<|bpn<|tpn<|pnB hF ⟨rfl,St.panK hS hk⟩
          obtain ⟨r27,rfl,hR⟩:=hR
          replace hm:=Option.bindP_s hm
          obtain ⟨rfl,hk⟩:=hR
          replace hS:=(hS.mut hk .head).unsep
          clear hk
          refine ls<|q1 hF rfl (e_nilp hF rfl) fun a hF=>?_
          refine ls<|s_blk hF hS Tryz.sizeOf3 rfl rfl rfl rfl (.tail (.tail .head)) (.succ (.succ (.succ (.succ (.succ .zero))))) fun w hS=>?_
          refine re<|?_
          refine bn<|tn<|?_
          refine rg<|?_
          refine ls<|q1 hF rfl ((e_as (e_add hF rfl rfl) (congrArg (Value.int .i64) (show IntKind.i64.wrap (3+1)=4 by decide)))) fun a hF=>?_
          refine ls<|q1 hF rfl (e_move hF rfl) fun a hF=>?_
          refine re<|?_
          refine tn<|wl1<|th<|?_
          refine rg<|?_
          refine ls<|q1 hF rfl ((e_as (e_lss hF rfl rfl) (by rfl))) fun a hF=>?_
          refine re<|?_
          refine tn<|th<|cf hF rfl<|?_
          refine we<|tx<|tx<|bx<|?_
          refine tn<|?_
          replace hS:=hS.pickL (.cons .head (.cons (.tail (.tail .head)) (.cons (.tail (.tail .head)) (.cons (.tail (.tail .head)) (.cons (.tail .head) .nil)))))
          exact ⟨r27.2,r18.1,r21.1,r24.1,r27.1,hm,hF.has ⟨rfl,rfl,rfl,rfl,rfl,rfl,trivial⟩,hS⟩
        clear hm hF hS
        rintro a w ⟨vD1,vD2,vD3,vD4,vD5,hm,hF,hS⟩
        unfold Zk at hm
        refine th<|?_
        refine rg<|?_
        refine ls<|q1 hF rfl (e_move hF rfl) fun a hF=>?_
        replace hS:=hS.pickL (.cons .head (.cons .head (.cons .head (.cons .head (.cons .head .nil)))))
        replace hS:=St.sep [blk b2 (.cells [strv vD1.s,.int .i64 vD1.at'].toArray 70 (0,0))] hS
        obtain ⟨ro32,h31,hm⟩:=Option.bindP_x hm
        refine ls<|c1p hF rfl Tryz.call76 (Zr_c (St.le hS) (p1:=vD1) (b2:=b2) (St.sepOk hS) (St.sepDis hS) h31) ⟨rfl,trivial⟩ (fun _ _ w hE=>?_) (fun v w a hR hF=>?_)
        · obtain ⟨rfl,hk⟩:=hE;obtain rfl:=Option.some.inj hm;exact tpn<|bpn<|tpn<|tpn<|bpn<|tpn<|pnB hF ⟨rfl,St.panK hS hk⟩
        obtain ⟨r30,rfl,hR⟩:=hR
        replace hm:=Option.bindP_s hm
        obtain ⟨oa33,cap34,vs35,rfl,hv36,hk⟩:=hR
        replace hS:=(hS.mut hk .head).unsep
        clear hk
        replace hv36:=hv36 HB1
        refine ls<|q1 hF rfl (e_fa hF fa85_3 rfl) fun a hF=>?_
        refine ls<|s_blk hF hS Tryz.sizeOf54 rfl rfl rfl rfl (.tail (.tail (.tail (.tail (.tail .head))))) (.succ (.succ (.succ .zero))) fun w hS=>?_
        refine re<|?_
        refine tn<|th<|?_
        refine rg<|?_
        refine ls<|q1 hF rfl (e_move hF rfl) fun a hF=>?_
        replace hS:=hS.pickL (.cons .head (.cons .head (.cons .head (.cons .head (.cons .head (.cons .head .nil))))))
        replace hS:=St.sep [blk b2 (.cells [strv r30.2.s,.int .i64 r30.2.at'].toArray 70 (0,0))] hS
        obtain ⟨ro40,h39,hm⟩:=Option.bindP_x hm
        refine ls<|c1p hF rfl Tryz.call76 (Zr_c (St.le hS) (p1:=r30.2) (b2:=b2) (St.sepOk hS) (St.sepDis hS) h39) ⟨rfl,trivial⟩ (fun _ _ w hE=>?_) (fun v w a hR hF=>?_)
        · obtain ⟨rfl,hk⟩:=hE;obtain rfl:=Option.some.inj hm;exact tpn<|bpn<|tpn<|tpn<|bpn<|tpn<|pnB hF ⟨rfl,St.panK hS hk⟩
        obtain ⟨r38,rfl,hR⟩:=hR
        replace hm:=Option.bindP_s hm
        obtain ⟨oa41,cap42,vs43,rfl,hv44,hk⟩:=hR
        replace hS:=(hS.mut hk .head).unsep
        clear hk
        replace hv44:=hv44 HB1
        refine ls<|q1 hF rfl (e_fa hF fa85_4 rfl) fun a hF=>?_
        refine ls<|s_blk hF hS Tryz.sizeOf54 rfl rfl rfl rfl (.tail (.tail (.tail (.tail (.tail (.tail .head)))))) (.succ (.succ (.succ (.succ .zero)))) fun w hS=>?_
        refine re<|?_
        refine tn<|?_
        replace hm:=bind_some hm
        obtain ⟨l57,h58,hm⟩:=hm
        refine rg<|?_
        refine ls<|q1 hF rfl (e_fa hF fa26_2 rfl) fun a hF=>?_
        refine ls<|q1 hF rfl (e_ld hF Tryz.isAgg24 rfl ((St.ld hS).cellB (.tail _ (.tail _ (.tail _ (.tail _ (.tail _ (.head _)))))) rfl)) fun a hF=>?_
        refine ls<|q1 hF rfl (e_ldA hF Tryz.isAgg85 Tryz.sizeOf85 rfl rfl ((St.ld hS).cellsB (.tail _ (.tail _ (.tail _ (.tail _ (.tail _ (.tail _ (.head _))))))))) fun a hF=>?_
        obtain ⟨H49,hx46,hr47,hc48,hS⟩:=St.frzSM hS (.tail (.tail .head)) hv36
        obtain ⟨H53,hx50,hr51,hc52,hS⟩:=St.frzSM hS (.tail .head) (hv44.mono hx46.sub)
        refine ls<|a_bsl (e:=85) (sz:=6) [.int .i64 vD2,.int .i64 vD3,.int .i64 vD4,.slice oa33 r30.1.length cap34,.slice oa41 r38.1.length cap42,.int .i64 vD5] hF rfl hS rfl rfl rfl (fun w=>by kernel_rfl) fun b55 w a hS hF=>?_
        have hv54:Rows (α:=api_Instr) H53 [.int .i64 vD2,.int .i64 vD3,.int .i64 vD4,.slice oa33 r30.1.length cap34,.slice oa41 r38.1.length cap42,.int .i64 vD5] ([(api_Instr.mk vD2 vD3 vD4 r30.1 r38.1 vD5)]:List api_Instr):=(.cons (c:=[.int .i64 vD2,.int .i64 vD3,.int .i64 vD4,.slice oa33 r30.1.length cap34,.slice oa41 r38.1.length cap42,.int .i64 vD5]) ⟨_,_,rfl,rfl,⟨_,_,rfl,rfl,⟨_,_,rfl,rfl,⟨_,_,rfl,⟨_,_,rfl,hc48,(hr47.mono hx50.sub)⟩,⟨_,_,rfl,⟨_,_,rfl,hc52,hr51⟩,rfl⟩⟩⟩⟩⟩ .nil)
        refine ls<|m_app (α:=api_Instr) (xs:=vB3) (ys:=([(api_Instr.mk vD2 vD3 vD4 r30.1 r38.1 vD5)]:List api_Instr)) hF rfl hS Tryz.underlying24 info85 rfl (by decide) rfl rfl rfl (.tail _ (.tail _ (.tail _ (.head _)))) (hvB7.mono (fun b o h=>hx50.sub b o (hx46.sub b o h))) (hS.rdO (.head _)) hv54 h58 fun oa59 cap60 vs61 w a hv62 hU hF=>?_
        replace hS:=hU _ (.tail (.tail (.tail .head)))
        clear hU
        replace hS:=hS.drop .head
        refine ls<|q1 hF rfl (e_fa hF fa26_2 rfl) fun a hF=>?_
        refine ls<|s_blk hF hS Tryz.sizeOf24 rfl rfl rfl rfl (.tail (.tail (.tail .head))) (.succ (.succ .zero)) fun w hS=>?_
        refine re<|?_
        refine bn<|tn<|?_
        replace hS:=hS.pickL (.cons .head (.cons .head (.cons .head (.cons .head .nil))))
        exact ⟨r38.2,l57,H53,oa59,cap60,vs61,hm,(ExtM.trans hx46 hx50),hF.has ⟨rfl,rfl,rfl,rfl,rfl,trivial⟩,hS,hv62⟩
      clear hm hF hS
      rintro a w ⟨vC2,vC3,HC1,oaC4,capC5,vsC6,hm,hxHC1,hF,hS,hvC7⟩
      unfold Zj at hm
      refine rg<|?_
      refine ls<|q1 hF rfl (e_add hF rfl rfl) fun a hF=>?_
      refine ls<|q1 hF rfl (e_move hF rfl) fun a hF=>?_
      refine re<|?_
      refine tn<|?_
      exact ⟨(nn2,vC2,vC3,(IntKind.i64.wrap (vB9+1))),⟨HC1,oaC4,capC5,vsC6,hm,(ExtM.trans hxHB1 hxHC1),hF.has ⟨rfl,rfl,rfl,rfl,rfl,trivial⟩,hS,hvC7⟩,Nat.lt_succ_self _⟩
    ·
      replace hm:=itp_f hm hb14
      refine tn<|th<|cfv hF rfl hb14<|?_
      refine we<|tx<|tx<|bx<|?_
      refine tn<|?_
      exact ⟨vB2,vB3,HB1,oaB4,capB5,vsB6,hm,hxHB1,hF.has ⟨rfl,rfl,rfl,trivial⟩,hS,hvB7⟩
  clear hm hF hS
  rintro a w ⟨vA2,vA3,HA1,oaA4,capA5,vsA6,hm,hxHA1,hF,hS,hvA7⟩
  unfold Zi at hm
  refine th<|?_
  refine rg<|?_
  refine ls<|q1 hF rfl (e_ldA hF Tryz.isAgg26 Tryz.sizeOf26 rfl rfl ((St.ld hS).cellsB (.tail _ (.tail _ (.tail _ (.head _)))))) fun a hF=>?_
  refine ls<|s_blkA hF hS Tryz.sizeOf26 rfl rfl rfl rfl (one_cells rfl) (.tail .head) fun w hS=>?_
  refine re<|?_
  refine tn<|?_
  refine wr<|?_
  obtain ⟨H66,hx63,hr64,hc65,hS⟩:=St.frzSM hS (.tail (.tail .head)) hvA7
  obtain rfl:=Option.some.inj hm
  exact bpl (r1c (vs:=[.int .i64 rz5.1,.int .i64 rz8.1,.slice oaA4 vA3.length capA5]) (.inl rfl) hF Tryz.results75 rfl Tryz.isAgg26 Tryz.sizeOf26 rfl ((St.ld hS).cellsB (.tail _ (.head _))) ⟨_,rfl,H66,_,rfl,(show Enc.rep (α:=api_Code) H66 [.int .i64 rz5.1,.int .i64 rz8.1,.slice oaA4 vA3.length capA5] (api_Code.mk rz5.1 rz8.1 vA3) from ⟨_,_,rfl,rfl,⟨_,_,rfl,rfl,⟨_,_,rfl,hc65,hr64⟩⟩⟩),(ExtM.trans hxHA1 hx63),(St.le hS),(St.disL (hS.pickL (.cons .head .nil))),(hS.pickL (.cons .head .nil)).endMut⟩)
set_option maxHeartbeats 4000000 in
set_option maxRecDepth 100000 in
theorem Zu_c {N:Nat} {w0:World} {H:PH} (hH:H.le w0) {b2:Nat} {p1:binary_reader} (hO:(sepA [blk b2 (.cells [strv p1.s,.int .i64 p1.at'].toArray 70 (0,0))]).ok (hp w0)) (hD:∀ b,(sepA [blk b2 (.cells [strv p1.s,.int .i64 p1.at'].toArray 70 (0,0))]).fp b→H b=none) {r:(Option (api_Unit×binary_reader))} (hm:Zu N p1=some r):TotP Tryz.prog 33 #[.pointer (some ⟨b2,0,none⟩)] w0 (fun v w'=>∃ (r0:(api_Unit×binary_reader)),r=some r0∧∃ (H':PH) (cs0:List Value),v=.agg cs0.toArray∧Enc.rep H' cs0 r0.1∧ExtM w0 (sepA [blk b2 (.cells [strv p1.s,.int .i64 p1.at'].toArray 70 (0,0))]).fp H H'∧H'.le w'∧(∀ b,(sepA [blk b2 (.cells [strv r0.2.s,.int .i64 r0.2.at'].toArray 70 (0,0))]).fp b→H' b=none)∧Mut w0 (sepA [blk b2 (.cells [strv p1.s,.int .i64 p1.at'].toArray 70 (0,0))]) (sepA [blk b2 (.cells [strv r0.2.s,.int .i64 r0.2.at'].toArray 70 (0,0))]) w') (fun w'=>r=none∧Keep (sepA [blk b2 (.cells [strv p1.s,.int .i64 p1.at'].toArray 70 (0,0))]).fp w0 w'):=by
  unfold Zu at hm
  refine fnP (args:=[.pointer (some ⟨b2,0,none⟩)]) (F:=[(0,.pointer (some ⟨b2,0,none⟩))]) Tryz.func33 rfl Tryz.ntmps33 rfl rfl fun a hF=>?_
  have hS:=startM hH hO hD
  refine th<|?_
  refine rg<|?_
  refine ls<|a_alloc (cs:=[.slice none 0 0,.int .i64 0,.slice none 0 0,.int .i64 0,.slice none 0 0,.int .i64 0,.int .i64 0,.slice none 0 0,.slice none 0 0].toArray) hF rfl hS Tryz.zeroValue29 rfl fun b3 w a hS hF=>?_
  refine re<|?_
  refine tn<|th<|?_
  refine rg<|?_
  refine ls<|a_alloc (cs:=[.slice none 0 0,.int .i64 0,.slice none 0 0,.int .i64 0,.slice none 0 0,.int .i64 0,.int .i64 0,.slice none 0 0,.slice none 0 0].toArray) hF rfl hS Tryz.zeroValue29 rfl fun b4 w a hS hF=>?_
  refine re<|?_
  refine tn<|th<|?_
  refine rg<|?_
  refine ls<|q1 hF rfl (e_move hF rfl) fun a hF=>?_
  replace hS:=hS.pickL (.cons (.tail (.tail .head)) (.cons .head (.cons .head .nil)))
  replace hS:=St.sep [blk b2 (.cells [strv p1.s,.int .i64 p1.at'].toArray 70 (0,0))] hS
  obtain ⟨ro7,h6,hm⟩:=Option.bindP_x hm
  refine ls<|c1p hF rfl Tryz.call72 (Zo_c (St.le hS) (p1:=p1) (b2:=b2) (St.sepOk hS) (St.sepDis hS) h6) ⟨rfl,trivial⟩ (fun _ _ w hE=>?_) (fun v w a hR hF=>?_)
  · obtain ⟨rfl,hk⟩:=hE;obtain rfl:=Option.some.inj hm;exact tpn<|pnB hF ⟨rfl,St.panK hS hk⟩
  obtain ⟨rz5,rfl,hR⟩:=hR
  replace hm:=Option.bindP_s hm
  obtain ⟨oa8,cap9,vs10,rfl,hv11,hk⟩:=hR
  replace hS:=(hS.mut hk .head).unsep
  clear hk
  replace hv11:=hv11 H
  refine ls<|q1 hF rfl (e_fa hF fa29_0 rfl) fun a hF=>?_
  refine ls<|s_blk hF hS Tryz.sizeOf22 rfl rfl rfl rfl (.tail (.tail .head)) .zero fun w hS=>?_
  refine re<|?_
  refine tn<|th<|?_
  refine rg<|?_
  refine ls<|q1 hF rfl (e_move hF rfl) fun a hF=>?_
  replace hS:=hS.pickL (.cons .head (.cons .head (.cons .head (.cons .head .nil))))
  replace hS:=St.sep [blk b2 (.cells [strv rz5.2.s,.int .i64 rz5.2.at'].toArray 70 (0,0))] hS
  obtain ⟨ro15,h14,hm⟩:=Option.bindP_x hm
  refine ls<|c1p hF rfl Tryz.call73 (Zn_c (St.le hS) (p1:=rz5.2) (b2:=b2) (St.sepOk hS) (St.sepDis hS) h14) ⟨rfl,trivial⟩ (fun _ _ w hE=>?_) (fun v w a hR hF=>?_)
  · obtain ⟨rfl,hk⟩:=hE;obtain rfl:=Option.some.inj hm;exact tpn<|pnB hF ⟨rfl,St.panK hS hk⟩
  obtain ⟨r13,rfl,hR⟩:=hR
  replace hm:=Option.bindP_s hm
  obtain ⟨rfl,hk⟩:=hR
  replace hS:=(hS.mut hk .head).unsep
  clear hk
  refine ls<|q1 hF rfl (e_fa hF fa29_1 rfl) fun a hF=>?_
  refine ls<|s_blk hF hS Tryz.sizeOf3 rfl rfl rfl rfl (.tail (.tail .head)) (.succ .zero) fun w hS=>?_
  refine re<|?_
  refine tn<|th<|?_
  refine rg<|?_
  refine ls<|q1 hF rfl (e_move hF rfl) fun a hF=>?_
  replace hS:=hS.pickL (.cons .head (.cons .head (.cons .head (.cons .head .nil))))
  replace hS:=St.sep [blk b2 (.cells [strv r13.2.s,.int .i64 r13.2.at'].toArray 70 (0,0))] hS
  obtain ⟨ro18,h17,hm⟩:=Option.bindP_x hm
  refine ls<|c1p hF rfl Tryz.call72 (Zo_c (St.le hS) (p1:=r13.2) (b2:=b2) (St.sepOk hS) (St.sepDis hS) h17) ⟨rfl,trivial⟩ (fun _ _ w hE=>?_) (fun v w a hR hF=>?_)
  · obtain ⟨rfl,hk⟩:=hE;obtain rfl:=Option.some.inj hm;exact tpn<|pnB hF ⟨rfl,St.panK hS hk⟩
  obtain ⟨r16,rfl,hR⟩:=hR
  replace hm:=Option.bindP_s hm
  obtain ⟨oa19,cap20,vs21,rfl,hv22,hk⟩:=hR
  replace hS:=(hS.mut hk .head).unsep
  clear hk
  replace hv22:=hv22 H
  refine ls<|q1 hF rfl (e_fa hF fa29_2 rfl) fun a hF=>?_
  refine ls<|s_blk hF hS Tryz.sizeOf22 rfl rfl rfl rfl (.tail (.tail (.tail .head))) (.succ (.succ .zero)) fun w hS=>?_
  refine re<|?_
  refine tn<|th<|?_
  refine rg<|?_
  refine ls<|q1 hF rfl (e_move hF rfl) fun a hF=>?_
  replace hS:=hS.pickL (.cons .head (.cons .head (.cons .head (.cons .head (.cons .head .nil)))))
  replace hS:=St.sep [blk b2 (.cells [strv r16.2.s,.int .i64 r16.2.at'].toArray 70 (0,0))] hS
  obtain ⟨ro26,h25,hm⟩:=Option.bindP_x hm
  refine ls<|c1p hF rfl Tryz.call73 (Zn_c (St.le hS) (p1:=r16.2) (b2:=b2) (St.sepOk hS) (St.sepDis hS) h25) ⟨rfl,trivial⟩ (fun _ _ w hE=>?_) (fun v w a hR hF=>?_)
  · obtain ⟨rfl,hk⟩:=hE;obtain rfl:=Option.some.inj hm;exact tpn<|pnB hF ⟨rfl,St.panK hS hk⟩
  obtain ⟨r24,rfl,hR⟩:=hR
  replace hm:=Option.bindP_s hm
  obtain ⟨rfl,hk⟩:=hR
  replace hS:=(hS.mut hk .head).unsep
  clear hk
  refine ls<|q1 hF rfl (e_fa hF fa29_3 rfl) fun a hF=>?_
  refine ls<|s_blk hF hS Tryz.sizeOf3 rfl rfl rfl rfl (.tail (.tail (.tail .head))) (.succ (.succ (.succ .zero))) fun w hS=>?_
  refine re<|?_
  refine tn<|th<|th<|?_
  refine rg<|?_
  refine ls<|q1 hF rfl (e_move hF rfl) fun a hF=>?_
  replace hS:=hS.pickL (.cons .head (.cons .head (.cons .head (.cons .head (.cons .head .nil)))))
  replace hS:=St.sep [blk b2 (.cells [strv r24.2.s,.int .i64 r24.2.at'].toArray 70 (0,0))] hS
  obtain ⟨ro29,h28,hm⟩:=Option.bindP_x hm
  refine ls<|c1p hF rfl Tryz.call74 (Zm_c (St.le hS) (p1:=r24.2) (b2:=b2) (St.sepOk hS) (St.sepDis hS) h28) ⟨rfl,trivial⟩ (fun _ _ w hE=>?_) (fun v w a hR hF=>?_)
  · obtain ⟨rfl,hk⟩:=hE;obtain rfl:=Option.some.inj hm;exact tpn<|tpn<|pnB hF ⟨rfl,St.panK hS hk⟩
  obtain ⟨r27,rfl,hR⟩:=hR
  replace hm:=Option.bindP_s hm
  obtain ⟨rfl,hk⟩:=hR
  replace hS:=(hS.mut hk .head).unsep
  clear hk
  refine ls<|q1 hF rfl (e_move hF rfl) fun a hF=>?_
  refine re<|?_
  refine tn<|midK (fun a w=>∃ (vA2:binary_reader) (vA3:(List api_Code)) (HA1:PH) (oaA4:Option Addr) (capA5:Nat) (vsA6:List Value),(Zv N rz5 r13 r16 r24) vA2 vA3=some r∧ExtM w0 (sepA [blk b2 (.cells [strv p1.s,.int .i64 p1.at'].toArray 70 (0,0))]).fp H HA1∧Fr 44 [(0,.pointer (some ⟨b2,0,none⟩)),(2,.pointer (some ⟨b3,0,none⟩)),(3,.pointer (some ⟨b4,0,none⟩))] a∧St w0 (sepA [blk b2 (.cells [strv p1.s,.int .i64 p1.at'].toArray 70 (0,0))]).fp [HA1] [blk b2 (.cells [strv vA2.s,.int .i64 vA2.at'].toArray 70 (0,0)),blk b3 (.cells [.slice none 0 0,.int .i64 0,.slice none 0 0,.int .i64 0,.slice none 0 0,.int .i64 0,.int .i64 0,.slice none 0 0,.slice none 0 0].toArray 29 (0,0)),sla 3 1 oa8 rz5.1.length cap9 vs10,sla 3 1 oa19 r16.1.length cap20 vs21,sla 26 3 oaA4 vA3.length capA5 vsA6,blk b4 (.cells [.slice oa8 rz5.1.length cap9,.int .i64 r13.1,.slice oa19 r16.1.length cap20,.int .i64 r24.1,.slice oaA4 vA3.length capA5,.int .i64 0,.int .i64 0,.slice none 0 0,.slice none 0 0].toArray 29 (0,0))] w∧Rows HA1 vsA6 vA3) ?_ ?_
  ·
    replace hS:=St.nilS hS 26 3
    replace hS:=hS.pickL (.cons (.tail .head) (.cons (.tail (.tail (.tail (.tail .head)))) (.cons (.tail (.tail .head)) (.cons (.tail .head) (.cons .head (.cons .head .nil))))))
    refine wb<|lp (α:=Nat×binary_reader×(List api_Code)×Int) (fun (gh:Nat×binary_reader×(List api_Code)×Int) a w=>match gh with | (nn2,vB2,vB3,vB9)=>∃ (HB1:PH) (oaB4:Option Addr) (capB5:Nat) (vsB6:List Value),(Zx N (Zv N rz5 r13 r16 r24) r27) nn2 vB2 vB3 vB9=some r∧ExtM w0 (sepA [blk b2 (.cells [strv p1.s,.int .i64 p1.at'].toArray 70 (0,0))]).fp H HB1∧Fr 44 [(0,.pointer (some ⟨b2,0,none⟩)),(2,.pointer (some ⟨b3,0,none⟩)),(3,.pointer (some ⟨b4,0,none⟩)),(17,.int .i64 r27.1),(18,.int .i64 vB9)] a∧St w0 (sepA [blk b2 (.cells [strv p1.s,.int .i64 p1.at'].toArray 70 (0,0))]).fp [HB1] [blk b2 (.cells [strv vB2.s,.int .i64 vB2.at'].toArray 70 (0,0)),blk b3 (.cells [.slice none 0 0,.int .i64 0,.slice none 0 0,.int .i64 0,.slice none 0 0,.int .i64 0,.int .i64 0,.slice none 0 0,.slice none 0 0].toArray 29 (0,0)),sla 3 1 oa8 rz5.1.length cap9 vs10,sla 3 1 oa19 r16.1.length cap20 vs21,sla 26 3 oaB4 vB3.length capB5 vsB6,blk b4 (.cells [.slice oa8 rz5.1.length cap9,.int .i64 r13.1,.slice oa19 r16.1.length cap20,.int .i64 r24.1,.slice oaB4 vB3.length capB5,.int .i64 0,.int .i64 0,.slice none 0 0,.slice none 0 0].toArray 29 (0,0))] w∧Rows HB1 vsB6 vB3) (fun gh=>gh.1) (N,r27.2,[],0) ⟨H,none,0,[],hm,(ExtM.refl _ _ _),hF.has ⟨rfl,rfl,rfl,rfl,rfl,trivial⟩,hS,.nil⟩ ?_
    clear hm hF hS
    rintro ⟨nn2,vB2,vB3,vB9⟩ a w ⟨HB1,oaB4,capB5,vsB6,hm,hxHB1,hF,hS,hvB7⟩
    obtain _ | nn2:=nn2
    · simp [Zx] at hm
    rw [Zx] at hm
    refine th<|?_
    refine rg<|?_
    refine ls<|q1 hF rfl (e_lss hF rfl rfl) fun a hF=>?_
    refine re<|?_
    rcases bdich (decide (vB9 < r27.1)) with hb30 | hb30
    ·
      replace hm:=itp_t hm hb30
      refine tn<|th<|ctv hF rfl hb30<|wk<|?_
      refine tn<|th<|wb<|?_
      refine rdL (sub_cons (.tail _ (.head _)) (sub_cons (.tail _ (.tail _ (.head _))) (sub_cons (.tail _ (.tail _ (.tail _ (.head _)))) (sub_cons (.tail _ (.tail _ (.tail _ (.tail _ (.tail _ (.head _)))))) sub_nil)))) 7 hS wide fun w hS=>?_
      refine d1 (i:=0) rfl (by kernel_rfl) (by kernel_rfl) (St.ldsX hS (fun _ _ h=>h) (sub_cons (.tail _ (.head _)) (sub_cons (.tail _ (.tail _ (.head _))) (sub_cons (.tail _ (.tail _ (.tail _ (.head _)))) (sub_cons (.tail _ (.tail _ (.tail _ (.tail _ (.tail _ (.head _)))))) sub_nil))))) hF rfl (fun _ _ _ h=>h) (fun w hl=>(e_fa hF fa29_4 rfl)) fun a hF=>?_
      refine d1 (i:=1) rfl (by kernel_rfl) (by kernel_rfl) (St.ldsX hS (fun _ _ h=>h) (sub_cons (.tail _ (.head _)) (sub_cons (.tail _ (.tail _ (.head _))) (sub_cons (.tail _ (.tail _ (.tail _ (.head _)))) (sub_cons (.tail _ (.tail _ (.tail _ (.tail _ (.tail _ (.head _)))))) sub_nil))))) hF rfl (fun _ _ _ h=>h) (fun w hl=>(e_ld hF Tryz.isAgg23 rfl (hl.cellB (.tail _ (.tail _ (.tail _ (.head _)))) rfl))) fun a hF=>?_
      refine d1 (i:=2) rfl (by kernel_rfl) (by kernel_rfl) (St.ldsX hS (fun _ _ h=>h) (sub_cons (.tail _ (.head _)) (sub_cons (.tail _ (.tail _ (.head _))) (sub_cons (.tail _ (.tail _ (.tail _ (.head _)))) (sub_cons (.tail _ (.tail _ (.tail _ (.tail _ (.tail _ (.head _)))))) sub_nil))))) hF rfl (fun _ _ _ h=>h) (fun w hl=>(e_move hF rfl)) fun a hF=>?_
      refine da1 (i:=3) (by kernel_rfl) ?_
      replace hS:=hS.pickL (.cons .head (.cons .head (.cons .head (.cons .head (.cons .head (.cons .head .nil))))))
      replace hS:=St.sep [blk b2 (.cells [strv vB2.s,.int .i64 vB2.at'].toArray 70 (0,0))] hS
      obtain ⟨ro33,h32,hm⟩:=Option.bindP_x hm
      refine di (i:=3) rfl<|c1p hF rfl Tryz.call75 (Zh_c (St.le hS) (p1:=vB2) (b2:=b2) (St.sepOk hS) (St.sepDis hS) h32) ⟨rfl,trivial⟩ (fun _ _ w hE=>?_) (fun v w a hR hF=>?_)
      · obtain ⟨rfl,hk⟩:=hE;obtain rfl:=Option.some.inj hm;exact bpn<|tpn<|tpn<|bpn<|tpn<|pnB hF ⟨rfl,St.panK hS hk⟩
      obtain ⟨r31,rfl,hR⟩:=hR
      replace hm:=Option.bindP_s hm
      replace hm:=bind_some hm
      obtain ⟨l47,h48,hm⟩:=hm
      obtain ⟨H37,cs38,rfl,g39,hx34,hl35,hd36,hk⟩:=hR
      obtain ⟨hS,hx34⟩:=And.intro (St.mutH hS hk hx34 hl35 hd36) (St.extcMM hS hx34)
      replace hS:=hS.unsep
      clear hk
      obtain ⟨oa40,cap41,rfl,hc42,hr43⟩:=api_Code_open g39
      refine ⟨fun _=>(St.ldsX hS hx34.sub (sub_cons (.tail _ (.head _)) (sub_cons (.tail _ (.tail _ (.head _))) (sub_cons (.tail _ (.tail _ (.tail _ (.head _)))) (sub_cons (.tail _ (.tail _ (.tail _ (.tail _ (.tail _ (.head _)))))) sub_nil))))),?_⟩
      refine da1 (i:=4) (by kernel_rfl) ?_
      refine di (i:=4) rfl<|a_bsl (e:=26) (sz:=3) [.int .i64 r31.1.Regs,.int .i64 r31.1.Counts,.slice oa40 r31.1.L.length cap41] hF rfl hS rfl rfl rfl (fun w=>by kernel_rfl) fun b45 w a hS hF=>?_
      have hv44:Rows (α:=api_Code) H37 [.int .i64 r31.1.Regs,.int .i64 r31.1.Counts,.slice oa40 r31.1.L.length cap41] ([r31.1]:List api_Code):=(.cons (c:=[.int .i64 r31.1.Regs,.int .i64 r31.1.Counts,.slice oa40 r31.1.L.length cap41]) ⟨_,_,rfl,rfl,⟨_,_,rfl,rfl,⟨_,_,rfl,hc42,hr43⟩⟩⟩ .nil)
      refine ⟨fun _=>(St.ldsX hS hx34.sub (sub_cons (.tail _ (.tail _ (.head _))) (sub_cons (.tail _ (.tail _ (.tail _ (.head _)))) (sub_cons (.tail _ (.tail _ (.tail _ (.tail _ (.head _))))) (sub_cons (.tail _ (.tail _ (.tail _ (.tail _ (.tail _ (.tail _ (.head _))))))) sub_nil))))),?_⟩
      refine da1 (i:=5) (by kernel_rfl) ?_
      refine di (i:=5) rfl<|m_app (α:=api_Code) (xs:=vB3) (ys:=([r31.1]:List api_Code)) hF rfl hS Tryz.underlying23 info26 rfl (by decide) rfl rfl rfl (.tail _ (.tail _ (.tail _ (.tail _ (.tail _ (.head _)))))) (hvB7.mono hx34.sub) (hS.rdO (.head _)) hv44 h48 fun oa49 cap50 vs51 w a hv52 hU hF=>?_
      replace hS:=hU _ (.tail (.tail (.tail (.tail (.tail .head)))))
      clear hU
      replace hS:=hS.drop .head
      refine ⟨fun _=>(St.ldsX hS hx34.sub (sub_cons (.tail _ (.head _)) (sub_cons (.tail _ (.tail _ (.head _))) (sub_cons (.tail _ (.tail _ (.tail _ (.head _)))) (sub_cons (.tail _ (.tail _ (.tail _ (.tail _ (.tail _ (.head _)))))) sub_nil))))),?_⟩
      refine d1 (i:=6) rfl (by kernel_rfl) (by kernel_rfl) (St.ldsX hS hx34.sub (sub_cons (.tail _ (.head _)) (sub_cons (.tail _ (.tail _ (.head _))) (sub_cons (.tail _ (.tail _ (.tail _ (.head _)))) (sub_cons (.tail _ (.tail _ (.tail _ (.tail _ (.tail _ (.head _)))))) sub_nil))))) hF rfl (fun _ _ _ h=>h) (fun w hl=>(e_fa hF fa29_4 rfl)) fun a hF=>?_
      refine da1 (i:=7) (by kernel_rfl) ?_
      refine di (i:=7) rfl<|s_blk hF hS Tryz.sizeOf23 rfl rfl rfl rfl (.tail (.tail (.tail (.tail (.tail .head))))) (.succ (.succ (.succ (.succ .zero)))) fun w hS=>?_
      refine ⟨fun h=>absurd rfl h,?_⟩
      refine de (by kernel_rfl)<|?_
      refine bn<|tn<|?_
      refine rg<|?_
      refine ls<|q1 hF rfl (e_add hF rfl rfl) fun a hF=>?_
      refine ls<|q1 hF rfl (e_move hF rfl) fun a hF=>?_
      refine re<|?_
      refine tn<|?_
      exact ⟨(nn2,r31.2,l47,(IntKind.i64.wrap (vB9+1))),⟨H37,oa49,cap50,vs51,hm,(ExtM.trans hxHB1 hx34),hF.has ⟨rfl,rfl,rfl,rfl,rfl,trivial⟩,hS,hv52⟩,Nat.lt_succ_self _⟩
    ·
      replace hm:=itp_f hm hb30
      refine tn<|th<|cfv hF rfl hb30<|?_
      refine we<|tx<|tx<|bx<|?_
      refine tn<|?_
      exact ⟨vB2,vB3,HB1,oaB4,capB5,vsB6,hm,hxHB1,hF.has ⟨rfl,rfl,rfl,trivial⟩,hS,hvB7⟩
  clear hm hF hS
  rintro a w ⟨vA2,vA3,HA1,oaA4,capA5,vsA6,hm,hxHA1,hF,hS,hvA7⟩
  unfold Zv at hm
  refine th<|?_
  refine rg<|?_
  refine ls<|q1 hF rfl (e_move hF rfl) fun a hF=>?_
  replace hS:=hS.pickL (.cons .head (.cons .head (.cons .head (.cons .head (.cons .head (.cons .head .nil))))))
  replace hS:=St.sep [blk b2 (.cells [strv vA2.s,.int .i64 vA2.at'].toArray 70 (0,0))] hS
  obtain ⟨ro55,h54,hm⟩:=Option.bindP_x hm
  refine ls<|c1p hF rfl Tryz.call75 (Zh_c (St.le hS) (p1:=vA2) (b2:=b2) (St.sepOk hS) (St.sepDis hS) h54) ⟨rfl,trivial⟩ (fun _ _ w hE=>?_) (fun v w a hR hF=>?_)
  · obtain ⟨rfl,hk⟩:=hE;obtain rfl:=Option.some.inj hm;exact tpn<|pnB hF ⟨rfl,St.panK hS hk⟩
  obtain ⟨r53,rfl,hR⟩:=hR
  replace hm:=Option.bindP_s hm
  obtain ⟨H59,cs60,rfl,g61,hx56,hl57,hd58,hk⟩:=hR
  obtain ⟨hS,hx56⟩:=And.intro (St.mutH hS hk hx56 hl57 hd58) (St.extcMM hS hx56)
  replace hS:=hS.unsep
  clear hk
  obtain ⟨oa62,cap63,rfl,hc64,hr65⟩:=api_Code_open g61
  refine ls<|q1 hF rfl (e_fa hF fa29_5 rfl) fun a hF=>?_
  refine ls<|s_blkP [.slice oa8 rz5.1.length cap9,.int .i64 r13.1,.slice oa19 r16.1.length cap20,.int .i64 r24.1,.slice oaA4 vA3.length capA5] [.int .i64 0,.int .i64 0,.slice none 0 0] [.int .i64 r53.1.Regs,.int .i64 r53.1.Counts,.slice oa62 r53.1.L.length cap63] [.slice none 0 0] (c:=[.slice oa8 rz5.1.length cap9,.int .i64 r13.1,.slice oa19 r16.1.length cap20,.int .i64 r24.1,.slice oaA4 vA3.length capA5,.int .i64 0,.int .i64 0,.slice none 0 0,.slice none 0 0]) (c':=[.slice oa8 rz5.1.length cap9,.int .i64 r13.1,.slice oa19 r16.1.length cap20,.int .i64 r24.1,.slice oaA4 vA3.length capA5,.int .i64 r53.1.Regs,.int .i64 r53.1.Counts,.slice oa62 r53.1.L.length cap63,.slice none 0 0]) hF hS Tryz.sizeOf26 rfl rfl rfl rfl rfl (one_cells rfl) rfl rfl (.tail (.tail (.tail (.tail (.tail .head))))) fun w hS=>?_
  refine re<|?_
  refine tn<|th<|th<|?_
  refine rg<|?_
  refine ls<|q1 hF rfl (e_move hF rfl) fun a hF=>?_
  replace hS:=hS.pickL (.cons .head (.cons .head (.cons .head (.cons .head (.cons .head (.cons .head .nil))))))
  replace hS:=St.sep [blk b2 (.cells [strv r53.2.s,.int .i64 r53.2.at'].toArray 70 (0,0))] hS
  obtain ⟨ro68,h67,hm⟩:=Option.bindP_x hm
  refine ls<|c1p hF rfl Tryz.call74 (Zm_c (St.le hS) (p1:=r53.2) (b2:=b2) (St.sepOk hS) (St.sepDis hS) h67) ⟨rfl,trivial⟩ (fun _ _ w hE=>?_) (fun v w a hR hF=>?_)
  · obtain ⟨rfl,hk⟩:=hE;obtain rfl:=Option.some.inj hm;exact tpn<|tpn<|pnB hF ⟨rfl,St.panK hS hk⟩
  obtain ⟨r66,rfl,hR⟩:=hR
  replace hm:=Option.bindP_s hm
  obtain ⟨rfl,hk⟩:=hR
  replace hS:=(hS.mut hk .head).unsep
  clear hk
  refine ls<|q1 hF rfl (e_move hF rfl) fun a hF=>?_
  refine re<|?_
  refine tn<|midK (fun a w=>∃ (vA10:binary_reader) (vA11:(List (List api_Op))) (HA9:PH) (oaA12:Option Addr) (capA13:Nat) (vsA14:List Value),(Zw rz5 r13 r16 r24 vA3 r53) vA10 vA11=some r∧ExtM w0 (sepA [blk b2 (.cells [strv p1.s,.int .i64 p1.at'].toArray 70 (0,0))]).fp H59 HA9∧Fr 44 [(0,.pointer (some ⟨b2,0,none⟩)),(2,.pointer (some ⟨b3,0,none⟩)),(3,.pointer (some ⟨b4,0,none⟩))] a∧St w0 (sepA [blk b2 (.cells [strv p1.s,.int .i64 p1.at'].toArray 70 (0,0))]).fp [HA9] [blk b2 (.cells [strv vA10.s,.int .i64 vA10.at'].toArray 70 (0,0)),blk b3 (.cells [.slice none 0 0,.int .i64 0,.slice none 0 0,.int .i64 0,.slice none 0 0,.int .i64 0,.int .i64 0,.slice none 0 0,.slice none 0 0].toArray 29 (0,0)),sla 3 1 oa8 rz5.1.length cap9 vs10,sla 3 1 oa19 r16.1.length cap20 vs21,sla 26 3 oaA4 vA3.length capA5 vsA6,sla 54 1 oaA12 vA11.length capA13 vsA14,blk b4 (.cells [.slice oa8 rz5.1.length cap9,.int .i64 r13.1,.slice oa19 r16.1.length cap20,.int .i64 r24.1,.slice oaA4 vA3.length capA5,.int .i64 r53.1.Regs,.int .i64 r53.1.Counts,.slice oa62 r53.1.L.length cap63,.slice oaA12 vA11.length capA13].toArray 29 (0,0))] w∧Rows HA9 vsA14 vA11) ?_ ?_
  ·
    replace hS:=St.nilS hS 54 1
    replace hS:=hS.pickL (.cons (.tail .head) (.cons (.tail .head) (.cons (.tail .head) (.cons (.tail .head) (.cons (.tail .head) (.cons .head (.cons .head .nil)))))))
    refine wb<|lp (α:=Nat×binary_reader×(List (List api_Op))×Int) (fun (gh:Nat×binary_reader×(List (List api_Op))×Int) a w=>match gh with | (nn4,vB11,vB12,vB18)=>∃ (HB10:PH) (oaB13:Option Addr) (capB14:Nat) (vsB15:List Value),(Zy N (Zw rz5 r13 r16 r24 vA3 r53) r66) nn4 vB11 vB12 vB18=some r∧ExtM w0 (sepA [blk b2 (.cells [strv p1.s,.int .i64 p1.at'].toArray 70 (0,0))]).fp H59 HB10∧Fr 44 [(0,.pointer (some ⟨b2,0,none⟩)),(2,.pointer (some ⟨b3,0,none⟩)),(3,.pointer (some ⟨b4,0,none⟩)),(32,.int .i64 r66.1),(33,.int .i64 vB18)] a∧St w0 (sepA [blk b2 (.cells [strv p1.s,.int .i64 p1.at'].toArray 70 (0,0))]).fp [HB10] [blk b2 (.cells [strv vB11.s,.int .i64 vB11.at'].toArray 70 (0,0)),blk b3 (.cells [.slice none 0 0,.int .i64 0,.slice none 0 0,.int .i64 0,.slice none 0 0,.int .i64 0,.int .i64 0,.slice none 0 0,.slice none 0 0].toArray 29 (0,0)),sla 3 1 oa8 rz5.1.length cap9 vs10,sla 3 1 oa19 r16.1.length cap20 vs21,sla 26 3 oaA4 vA3.length capA5 vsA6,sla 54 1 oaB13 vB12.length capB14 vsB15,blk b4 (.cells [.slice oa8 rz5.1.length cap9,.int .i64 r13.1,.slice oa19 r16.1.length cap20,.int .i64 r24.1,.slice oaA4 vA3.length capA5,.int .i64 r53.1.Regs,.int .i64 r53.1.Counts,.slice oa62 r53.1.L.length cap63,.slice oaB13 vB12.length capB14].toArray 29 (0,0))] w∧Rows HB10 vsB15 vB12) (fun gh=>gh.1) (N,r66.2,[],0) ⟨H59,none,0,[],hm,(ExtM.refl _ _ _),hF.has ⟨rfl,rfl,rfl,rfl,rfl,trivial⟩,hS,.nil⟩ ?_
    clear hm hF hS
    rintro ⟨nn4,vB11,vB12,vB18⟩ a w ⟨HB10,oaB13,capB14,vsB15,hm,hxHB10,hF,hS,hvB16⟩
    obtain _ | nn4:=nn4
    · simp [Zy] at hm
    rw [Zy] at hm
    refine th<|?_
    refine rg<|?_
    refine ls<|q1 hF rfl (e_lss hF rfl rfl) fun a hF=>?_
    refine re<|?_
    rcases bdich (decide (vB18 < r66.1)) with hb69 | hb69
    ·
      replace hm:=itp_t hm hb69
      refine tn<|th<|ctv hF rfl hb69<|wk<|?_
      refine tn<|th<|wb<|?_
      refine rdL (sub_cons (.tail _ (.head _)) (sub_cons (.tail _ (.tail _ (.head _))) (sub_cons (.tail _ (.tail _ (.tail _ (.head _)))) (sub_cons (.tail _ (.tail _ (.tail _ (.tail _ (.head _))))) (sub_cons (.tail _ (.tail _ (.tail _ (.tail _ (.tail _ (.tail _ (.head _))))))) sub_nil))))) 7 hS wide fun w hS=>?_
      refine d1 (i:=0) rfl (by kernel_rfl) (by kernel_rfl) (St.ldsX hS (fun _ _ h=>h) (sub_cons (.tail _ (.head _)) (sub_cons (.tail _ (.tail _ (.head _))) (sub_cons (.tail _ (.tail _ (.tail _ (.head _)))) (sub_cons (.tail _ (.tail _ (.tail _ (.tail _ (.head _))))) (sub_cons (.tail _ (.tail _ (.tail _ (.tail _ (.tail _ (.tail _ (.head _))))))) sub_nil)))))) hF rfl (fun _ _ _ h=>h) (fun w hl=>(e_fa hF fa29_6 rfl)) fun a hF=>?_
      refine d1 (i:=1) rfl (by kernel_rfl) (by kernel_rfl) (St.ldsX hS (fun _ _ h=>h) (sub_cons (.tail _ (.head _)) (sub_cons (.tail _ (.tail _ (.head _))) (sub_cons (.tail _ (.tail _ (.tail _ (.head _)))) (sub_cons (.tail _ (.tail _ (.tail _ (.tail _ (.head _))))) (sub_cons (.tail _ (.tail _ (.tail _ (.tail _ (.tail _ (.tail _ (.head _))))))) sub_nil)))))) hF rfl (fun _ _ _ h=>h) (fun w hl=>(e_ld hF Tryz.isAgg27 rfl (hl.cellB (.tail _ (.tail _ (.tail _ (.tail _ (.head _))))) rfl))) fun a hF=>?_
      refine d1 (i:=2) rfl (by kernel_rfl) (by kernel_rfl) (St.ldsX hS (fun _ _ h=>h) (sub_cons (.tail _ (.head _)) (sub_cons (.tail _ (.tail _ (.head _))) (sub_cons (.tail _ (.tail _ (.tail _ (.head _)))) (sub_cons (.tail _ (.tail _ (.tail _ (.tail _ (.head _))))) (sub_cons (.tail _ (.tail _ (.tail _ (.tail _ (.tail _ (.tail _ (.head _))))))) sub_nil)))))) hF rfl (fun _ _ _ h=>h) (fun w hl=>(e_move hF rfl)) fun a hF=>?_
      refine da1 (i:=3) (by kernel_rfl) ?_
      replace hS:=hS.pickL (.cons .head (.cons .head (.cons .head (.cons .head (.cons .head (.cons .head (.cons .head .nil)))))))
      replace hS:=St.sep [blk b2 (.cells [strv vB11.s,.int .i64 vB11.at'].toArray 70 (0,0))] hS
      obtain ⟨ro72,h71,hm⟩:=Option.bindP_x hm
      refine di (i:=3) rfl<|c1p hF rfl Tryz.call76 (Zr_c (St.le hS) (p1:=vB11) (b2:=b2) (St.sepOk hS) (St.sepDis hS) h71) ⟨rfl,trivial⟩ (fun _ _ w hE=>?_) (fun v w a hR hF=>?_)
      · obtain ⟨rfl,hk⟩:=hE;obtain rfl:=Option.some.inj hm;exact bpn<|tpn<|tpn<|bpn<|tpn<|pnB hF ⟨rfl,St.panK hS hk⟩
      obtain ⟨r70,rfl,hR⟩:=hR
      replace hm:=Option.bindP_s hm
      replace hm:=bind_some hm
      obtain ⟨l85,h86,hm⟩:=hm
      obtain ⟨oa73,cap74,vs75,rfl,hv76,hk⟩:=hR
      replace hS:=(hS.mut hk .head).unsep
      clear hk
      replace hv76:=hv76 HB10
      refine ⟨fun _=>(St.ldsX hS (fun _ _ h=>h) (sub_cons (.tail _ (.tail _ (.head _))) (sub_cons (.tail _ (.tail _ (.tail _ (.head _)))) (sub_cons (.tail _ (.tail _ (.tail _ (.tail _ (.head _))))) (sub_cons (.tail _ (.tail _ (.tail _ (.tail _ (.tail _ (.head _)))))) (sub_cons (.tail _ (.tail _ (.tail _ (.tail _ (.tail _ (.tail _ (.tail _ (.head _)))))))) sub_nil)))))),?_⟩
      refine da1 (i:=4) (by kernel_rfl) ?_
      obtain ⟨H81,hx78,hr79,hc80,hS⟩:=St.frzSM hS (.tail .head) hv76
      refine di (i:=4) rfl<|a_bsl (e:=54) (sz:=1) [.slice oa73 r70.1.length cap74] hF rfl hS rfl rfl rfl (fun w=>by kernel_rfl) fun b83 w a hS hF=>?_
      have hv82:Rows (α:=(List api_Op)) H81 [.slice oa73 r70.1.length cap74] ([r70.1]:List (List api_Op)):=(.cons (c:=[.slice oa73 r70.1.length cap74]) ⟨_,_,rfl,hc80,hr79⟩ .nil)
      refine ⟨fun _=>(St.ldsX hS hx78.sub (sub_cons (.tail _ (.tail _ (.head _))) (sub_cons (.tail _ (.tail _ (.tail _ (.head _)))) (sub_cons (.tail _ (.tail _ (.tail _ (.tail _ (.head _))))) (sub_cons (.tail _ (.tail _ (.tail _ (.tail _ (.tail _ (.head _)))))) (sub_cons (.tail _ (.tail _ (.tail _ (.tail _ (.tail _ (.tail _ (.tail _ (.head _)))))))) sub_nil)))))),?_⟩
      refine da1 (i:=5) (by kernel_rfl) ?_
      refine di (i:=5) rfl<|m_app (α:=(List api_Op)) (xs:=vB12) (ys:=([r70.1]:List (List api_Op))) hF rfl hS Tryz.underlying27 info54 rfl (by decide) rfl rfl rfl (.tail _ (.tail _ (.tail _ (.tail _ (.tail _ (.tail _ (.head _))))))) (hvB16.mono hx78.sub) (hS.rdO (.head _)) hv82 h86 fun oa87 cap88 vs89 w a hv90 hU hF=>?_
      replace hS:=hU _ (.tail (.tail (.tail (.tail (.tail (.tail .head))))))
      clear hU
      replace hS:=hS.drop .head
      refine ⟨fun _=>(St.ldsX hS hx78.sub (sub_cons (.tail _ (.head _)) (sub_cons (.tail _ (.tail _ (.head _))) (sub_cons (.tail _ (.tail _ (.tail _ (.head _)))) (sub_cons (.tail _ (.tail _ (.tail _ (.tail _ (.head _))))) (sub_cons (.tail _ (.tail _ (.tail _ (.tail _ (.tail _ (.tail _ (.head _))))))) sub_nil)))))),?_⟩
      refine d1 (i:=6) rfl (by kernel_rfl) (by kernel_rfl) (St.ldsX hS hx78.sub (sub_cons (.tail _ (.head _)) (sub_cons (.tail _ (.tail _ (.head _))) (sub_cons (.tail _ (.tail _ (.tail _ (.head _)))) (sub_cons (.tail _ (.tail _ (.tail _ (.tail _ (.head _))))) (sub_cons (.tail _ (.tail _ (.tail _ (.tail _ (.tail _ (.tail _ (.head _))))))) sub_nil)))))) hF rfl (fun _ _ _ h=>h) (fun w hl=>(e_fa hF fa29_6 rfl)) fun a hF=>?_
      refine da1 (i:=7) (by kernel_rfl) ?_
      refine di (i:=7) rfl<|s_blk hF hS Tryz.sizeOf27 rfl rfl rfl rfl (.tail (.tail (.tail (.tail (.tail (.tail .head)))))) (.succ (.succ (.succ (.succ (.succ (.succ (.succ (.succ .zero)))))))) fun w hS=>?_
      refine ⟨fun h=>absurd rfl h,?_⟩
      refine de (by kernel_rfl)<|?_
      refine bn<|tn<|?_
      refine rg<|?_
      refine ls<|q1 hF rfl (e_add hF rfl rfl) fun a hF=>?_
      refine ls<|q1 hF rfl (e_move hF rfl) fun a hF=>?_
      refine re<|?_
      refine tn<|?_
      exact ⟨(nn4,r70.2,l85,(IntKind.i64.wrap (vB18+1))),⟨H81,oa87,cap88,vs89,hm,(ExtM.trans hxHB10 hx78),hF.has ⟨rfl,rfl,rfl,rfl,rfl,trivial⟩,hS,hv90⟩,Nat.lt_succ_self _⟩
    ·
      replace hm:=itp_f hm hb69
      refine tn<|th<|cfv hF rfl hb69<|?_
      refine we<|tx<|tx<|bx<|?_
      refine tn<|?_
      exact ⟨vB11,vB12,HB10,oaB13,capB14,vsB15,hm,hxHB10,hF.has ⟨rfl,rfl,rfl,trivial⟩,hS,hvB16⟩
  clear hm hF hS
  rintro a w ⟨vA10,vA11,HA9,oaA12,capA13,vsA14,hm,hxHA9,hF,hS,hvA15⟩
  unfold Zw at hm
  refine th<|?_
  refine rg<|?_
  refine ls<|q1 hF rfl (e_ldA hF Tryz.isAgg29 Tryz.sizeOf29 rfl rfl ((St.ld hS).cellsB (.tail _ (.tail _ (.tail _ (.tail _ (.tail _ (.tail _ (.head _))))))))) fun a hF=>?_
  refine ls<|s_blkA hF hS Tryz.sizeOf29 rfl rfl rfl rfl (one_cells rfl) (.tail .head) fun w hS=>?_
  refine re<|?_
  refine tn<|?_
  refine wr<|?_
  obtain ⟨H94,hx91,hr92,hc93,hS⟩:=St.frzSM hS (.tail (.tail .head)) (hv11.mono (fun b o h=>(fun b o h=>hxHA9.sub b o (hx56.sub b o h)) b o (hxHA1.sub b o h)))
  obtain ⟨H98,hx95,hr96,hc97,hS⟩:=St.frzSM hS (.tail (.tail .head)) (hv22.mono (fun b o h=>(fun b o h=>(fun b o h=>hx91.sub b o (hxHA9.sub b o h)) b o (hx56.sub b o h)) b o (hxHA1.sub b o h)))
  obtain ⟨H102,hx99,hr100,hc101,hS⟩:=St.frzSM hS (.tail (.tail .head)) (hvA7.mono (fun b o h=>(fun b o h=>(fun b o h=>hx95.sub b o (hx91.sub b o h)) b o (hxHA9.sub b o h)) b o (hx56.sub b o h)))
  obtain ⟨H106,hx103,hr104,hc105,hS⟩:=St.frzSM hS (.tail (.tail .head)) (hvA15.mono (fun b o h=>(fun b o h=>hx99.sub b o (hx95.sub b o h)) b o (hx91.sub b o h)))
  obtain rfl:=Option.some.inj hm
  exact bpl (r1c (vs:=[.slice oa8 rz5.1.length cap9,.int .i64 r13.1,.slice oa19 r16.1.length cap20,.int .i64 r24.1,.slice oaA4 vA3.length capA5,.int .i64 r53.1.Regs,.int .i64 r53.1.Counts,.slice oa62 r53.1.L.length cap63,.slice oaA12 vA11.length capA13]) (.inl rfl) hF Tryz.results33 rfl Tryz.isAgg29 Tryz.sizeOf29 rfl ((St.ld hS).cellsB (.tail _ (.head _))) ⟨_,rfl,H106,_,rfl,(show Enc.rep (α:=api_Unit) H106 [.slice oa8 rz5.1.length cap9,.int .i64 r13.1,.slice oa19 r16.1.length cap20,.int .i64 r24.1,.slice oaA4 vA3.length capA5,.int .i64 r53.1.Regs,.int .i64 r53.1.Counts,.slice oa62 r53.1.L.length cap63,.slice oaA12 vA11.length capA13] (api_Unit.mk rz5.1 r13.1 r16.1 r24.1 vA3 r53.1 vA11) from ⟨_,_,rfl,⟨_,_,rfl,hc93,(hr92.mono (fun b o h=>(fun b o h=>hx103.sub b o (hx99.sub b o h)) b o (hx95.sub b o h)))⟩,⟨_,_,rfl,rfl,⟨_,_,rfl,⟨_,_,rfl,hc97,(hr96.mono (fun b o h=>hx103.sub b o (hx99.sub b o h)))⟩,⟨_,_,rfl,rfl,⟨_,_,rfl,⟨_,_,rfl,hc101,(hr100.mono hx103.sub)⟩,⟨_,_,rfl,⟨_,_,rfl,rfl,⟨_,_,rfl,rfl,⟨_,_,rfl,hc64,(hr65.mono (fun b o h=>(fun b o h=>(fun b o h=>(fun b o h=>hx103.sub b o (hx99.sub b o h)) b o (hx95.sub b o h)) b o (hx91.sub b o h)) b o (hxHA9.sub b o h)))⟩⟩⟩,⟨_,_,rfl,hc105,hr104⟩⟩⟩⟩⟩⟩⟩),(ExtM.trans hxHA1 (ExtM.trans hx56 (ExtM.trans hxHA9 (ExtM.trans hx91 (ExtM.trans hx95 (ExtM.trans hx99 hx103)))))),(St.le hS),(St.disL (hS.pickL (.cons .head .nil))),(hS.pickL (.cons .head .nil)).endMut⟩)
set_option maxRecDepth 100000 in
theorem Z0_c {N:Nat} {w0:World} {H:PH} (hH:H.le w0) {p1:Str} {r:(api_Unit×Int)} (hm:Z0 N p1=some r):Tot Tryz.prog 10 #[strv p1] w0 (fun v w'=>∃ (H':PH) (cs0:List Value),v=.tuple #[.agg cs0.toArray,.int .i64 r.2]∧Enc.rep H' cs0 r.1∧Ext w0 H H'∧H'.le w'∧Keep Nil w0 w'):=by
  unfold Z0 at hm
  refine fnD (args:=[strv p1]) (F:=[(0,strv p1)]) Tryz.func10 rfl Tryz.ntmps10 rfl rfl fun a hF=>?_
  have hS:St w0 Nil [H] [] w0:=start1 hH
  refine th<|?_
  refine rg<|?_
  refine ls<|a_alloc (cs:=[.slice none 0 0,.int .i64 0,.slice none 0 0,.int .i64 0,.slice none 0 0,.int .i64 0,.int .i64 0,.slice none 0 0,.slice none 0 0].toArray) hF rfl hS Tryz.zeroValue29 rfl fun b2 w a hS hF=>?_
  refine ls<|a_alloc (cs:=[.int .i64 0].toArray) hF rfl hS Tryz.zeroValue31 rfl fun b3 w a hS hF=>?_
  refine re<|?_
  refine tn<|th<|?_
  refine dfr (vs:=[.pointer (some ⟨b2,0,none⟩),.pointer (some ⟨b3,0,none⟩)]) hF rfl ⟨rfl,rfl,trivial⟩ fun a hF=>?_
  refine tn<|th<|?_
  refine rg<|?_
  refine ls<|q1 hF rfl (e_move hF rfl) fun a hF=>?_
  refine ls<|q1 hF rfl (e_bldK [strv p1] [strv p1,.int .i64 0] hF ⟨rfl,trivial⟩ (fun w=>by kernel_rfl)) fun a hF=>?_
  refine ls<|a_box (cs:=[strv p1,.int .i64 0].toArray) hF rfl hS rfl rfl fun b4 w a hS hF=>?_
  refine ls<|q1 hF rfl (e_asg hF rfl) fun a hF=>?_
  refine re<|?_
  refine tn<|th<|?_
  refine rg<|?_
  refine ls<|q1 hF rfl (e_move hF rfl) fun a hF=>?_
  replace hS:=hS.pickL (.cons .head (.cons .head (.cons .head .nil)))
  replace hS:=St.sep [blk b4 (.cells [strv p1,.int .i64 0].toArray 70 (0,0))] hS
  obtain ⟨ro7,h6,hm⟩:=Option.bindQ_x hm (by simp)
  refine ls<|c1p hF rfl Tryz.call33 (Zu_c (St.le hS) (p1:=(binary_reader.mk p1 0)) (b2:=b4) (St.sepOk hS) (St.sepDis hS) h6) ⟨rfl,trivial⟩ (fun _ _ w hE=>?_) (fun v w a hR hF=>?_)
  ·
    obtain ⟨rfl,hk⟩:=hE
    replace hS:=St.panS hS hk
    clear hk
    obtain rfl:=Option.some.inj hm
    exact tpn<|lvP hF Tryz.call32 (binary_Decode_catch hS (.tail .head) .head rfl) fun w hS=>⟨_,res2ka (vs:=[.slice none 0 0,.int .i64 0,.slice none 0 0,.int .i64 0,.slice none 0 0,.int .i64 0,.int .i64 0,.slice none 0 0,.slice none 0 0]) hF Tryz.results10 rfl rfl Tryz.isAgg29 Tryz.sizeOf29 rfl Tryz.isAgg31 ((St.ld hS).cellsB (.tail _ (.head _))) ((St.ld hS).cellB (.head _) rfl),⟨H,_,rfl,(show Enc.rep (α:=api_Unit) H [.slice none 0 0,.int .i64 0,.slice none 0 0,.int .i64 0,.slice none 0 0,.int .i64 0,.int .i64 0,.slice none 0 0,.slice none 0 0] (api_Unit.mk [] 0 [] 0 [] (api_Code.mk 0 0 []) []) from ⟨_,_,rfl,⟨none,0,rfl,Nat.le_refl _,SR.nil _ _⟩,⟨_,_,rfl,rfl,⟨_,_,rfl,⟨none,0,rfl,Nat.le_refl _,SR.nil _ _⟩,⟨_,_,rfl,rfl,⟨_,_,rfl,⟨none,0,rfl,Nat.le_refl _,SR.nil _ _⟩,⟨_,_,rfl,⟨_,_,rfl,rfl,⟨_,_,rfl,rfl,⟨none,0,rfl,Nat.le_refl _,SR.nil _ _⟩⟩⟩,⟨none,0,rfl,Nat.le_refl _,SR.nil _ _⟩⟩⟩⟩⟩⟩⟩),(Ext.refl _ _),(St.le hS),hS.keep⟩⟩
  obtain ⟨rz5,rfl,hR⟩:=hR
  replace hm:=Option.bindQ_s hm
  obtain ⟨H11,cs12,rfl,g13,hx8,hl9,hd10,hk⟩:=hR
  obtain ⟨hS,hx8⟩:=And.intro (St.mutH hS hk hx8 hl9 hd10) (St.extc0 hS hx8)
  replace hS:=hS.unsep
  clear hk
  have g14:Enc.rep (α:=(List Int)×Int×(List Int)×Int×(List api_Code)×api_Code×(List (List api_Op))) H11 cs12 (rz5.1.Lines,rz5.1.Stays,rz5.1.Firsts,rz5.1.Locks,rz5.1.Threads,rz5.1.Recover,rz5.1.Claims):=g13
  obtain ⟨q15,q16,rfl,g17,g18⟩:=g14
  obtain ⟨oa19,cap20,rfl,hc21,hr22⟩:=g17
  obtain ⟨q23,q24,rfl,g25,g26⟩:=g18
  obtain rfl:q23=[.int .i64 rz5.1.Stays]:=g25
  obtain ⟨q27,q28,rfl,g29,g30⟩:=g26
  obtain ⟨oa31,cap32,rfl,hc33,hr34⟩:=g29
  obtain ⟨q35,q36,rfl,g37,g38⟩:=g30
  obtain rfl:q35=[.int .i64 rz5.1.Locks]:=g37
  obtain ⟨q39,q40,rfl,g41,g42⟩:=g38
  obtain ⟨oa43,cap44,rfl,hc45,hr46⟩:=g41
  obtain ⟨q47,q48,rfl,g49,g50⟩:=g42
  obtain ⟨oa51,cap52,rfl,hc53,hr54⟩:=api_Code_open g49
  obtain ⟨oa55,cap56,rfl,hc57,hr58⟩:=g50
  refine ls<|s_blkA hF hS Tryz.sizeOf29 rfl rfl rfl rfl (one_cells rfl) (.tail (.tail .head)) fun w hS=>?_
  refine re<|?_
  refine tn<|th<|th<|?_
  replace hm:=bind_some hm
  obtain ⟨r59,h60,hm⟩:=hm
  refine rg<|?_
  refine ls<|q1 hF rfl (e_ldA hF Tryz.isAgg29 Tryz.sizeOf29 rfl rfl ((St.ld hS).cellsB (.tail _ (.tail _ (.head _))))) fun a hF=>?_
  refine ls<|c1 hF rfl Tryz.call8 (Z2_c (hp_le _) (Enc.mono (St.up hS) (show Enc.rep (α:=api_Unit) H11 [.slice oa19 rz5.1.Lines.length cap20,.int .i64 rz5.1.Stays,.slice oa31 rz5.1.Firsts.length cap32,.int .i64 rz5.1.Locks,.slice oa43 rz5.1.Threads.length cap44,.int .i64 rz5.1.Recover.Regs,.int .i64 rz5.1.Recover.Counts,.slice oa51 rz5.1.Recover.L.length cap52,.slice oa55 rz5.1.Claims.length cap56] rz5.1 from ⟨_,_,rfl,⟨_,_,rfl,hc21,hr22⟩,⟨_,_,rfl,rfl,⟨_,_,rfl,⟨_,_,rfl,hc33,hr34⟩,⟨_,_,rfl,rfl,⟨_,_,rfl,⟨_,_,rfl,hc45,hr46⟩,⟨_,_,rfl,⟨_,_,rfl,rfl,⟨_,_,rfl,rfl,⟨_,_,rfl,hc53,hr54⟩⟩⟩,⟨_,_,rfl,hc57,hr58⟩⟩⟩⟩⟩⟩⟩)) h60) ⟨rfl,trivial⟩ (fun v w a hR hF=>?_)
  obtain ⟨rfl,hk⟩:=hR
  replace hS:=hS.pass hk
  clear hk
  refine ls<|q1 hF rfl (e_move hF rfl) fun a hF=>?_
  refine ls<|q1 hF rfl (e_ext hF rfl rfl) fun a hF=>?_
  refine ls<|q1 hF rfl (e_ext hF rfl rfl) fun a hF=>?_
  refine ls<|q1 hF rfl (e_asg hF rfl) fun a hF=>?_
  refine ls<|q1 hF rfl (e_asg hF rfl) fun a hF=>?_
  refine re<|?_
  refine tn<|th<|?_
  refine rg<|?_
  refine ls<|q1 hF rfl (e_move hF rfl) fun a hF=>?_
  refine ls<|q1 hF rfl (e_neq hF rfl rfl) fun a hF=>?_
  refine ls<|q1 hF rfl (e_move hF rfl) fun a hF=>?_
  refine grp (N:=⟨27,[dfD 32 [.pointer (some ⟨b2,0,none⟩),.pointer (some ⟨b3,0,none⟩)]],[]⟩) (Fk:=[(2,.pointer (some ⟨b2,0,none⟩)),(3,.pointer (some ⟨b3,0,none⟩)),(24,.bool ((decide (r59.2≠0)) || (decide (r59.1≠p1))))]) (b:=(decide (r59.2≠0))) 4 hS ?_ ?_ ?_
  ·
    intro hb key
    replace hF:=Fr.as hF (t:=20) rfl (congrArg Value.bool hb)
    refine ls<|gn hF rfl rfl rfl rfl fun a hF=>?_
    refine ls<|gn hF rfl rfl rfl rfl fun a hF=>?_
    refine ls<|gn hF rfl rfl rfl rfl fun a hF=>?_
    refine ls<|q1 hF rfl (e_as (v':=.bool ((decide (r59.2≠0)) || (decide (r59.1≠p1)))) (e_pickT hF rfl rfl) (by rw [hb];rfl)) fun a hF=>?_
    exact key _ _ (hF.has ⟨rfl,rfl,rfl,trivial⟩) hS
  ·
    intro hb key
    replace hF:=Fr.as hF (t:=20) rfl (congrArg Value.bool hb)
    refine ls<|gy hF rfl rfl<|q1 hF rfl (e_move hF rfl) fun a hF=>?_
    refine ls<|gy hF rfl rfl<|q1 hF rfl (e_move hF rfl) fun a hF=>?_
    refine ls<|gy hF rfl rfl<|q1 hF rfl (e_neqU (m:=r59.1) (n:=p1) hF rfl rfl) fun a hF=>?_
    refine ls<|q1 hF rfl (e_as (v':=.bool ((decide (r59.2≠0)) || (decide (r59.1≠p1)))) (e_pickF hF rfl rfl) (by rw [hb];rfl)) fun a hF=>?_
    exact key _ _ (hF.has ⟨rfl,rfl,rfl,trivial⟩) hS
  intro a w hF hS
  refine re<|?_
  rcases bdich ((decide (r59.2≠0)) || (decide (r59.1≠p1))) with hb61 | hb61
  ·
    replace hm:=ite_t hm hb61
    refine tn<|ctv hF rfl hb61<|?_
    refine rg<|?_
    refine ls<|q1 hF rfl (e_mki hF (mki31 _) rfl) fun a hF=>?_
    refine ls<|pnq hF rfl ?_
    obtain rfl:=Option.some.inj hm
    exact tpn<|lvP hF Tryz.call32 (binary_Decode_catch hS (.tail (.tail .head)) (.tail .head) rfl) fun w hS=>⟨_,res2ka (vs:=[.slice none 0 0,.int .i64 0,.slice none 0 0,.int .i64 0,.slice none 0 0,.int .i64 0,.int .i64 0,.slice none 0 0,.slice none 0 0]) hF Tryz.results10 rfl rfl Tryz.isAgg29 Tryz.sizeOf29 rfl Tryz.isAgg31 ((St.ld hS).cellsB (.tail _ (.tail _ (.head _)))) ((St.ld hS).cellB (.tail _ (.head _)) rfl),⟨H11,_,rfl,(show Enc.rep (α:=api_Unit) H11 [.slice none 0 0,.int .i64 0,.slice none 0 0,.int .i64 0,.slice none 0 0,.int .i64 0,.int .i64 0,.slice none 0 0,.slice none 0 0] (api_Unit.mk [] 0 [] 0 [] (api_Code.mk 0 0 []) []) from ⟨_,_,rfl,⟨none,0,rfl,Nat.le_refl _,SR.nil _ _⟩,⟨_,_,rfl,rfl,⟨_,_,rfl,⟨none,0,rfl,Nat.le_refl _,SR.nil _ _⟩,⟨_,_,rfl,rfl,⟨_,_,rfl,⟨none,0,rfl,Nat.le_refl _,SR.nil _ _⟩,⟨_,_,rfl,⟨_,_,rfl,rfl,⟨_,_,rfl,rfl,⟨none,0,rfl,Nat.le_refl _,SR.nil _ _⟩⟩⟩,⟨none,0,rfl,Nat.le_refl _,SR.nil _ _⟩⟩⟩⟩⟩⟩⟩),hx8,(St.le hS),hS.keep⟩⟩
  ·
    replace hm:=ite_f hm hb61
    refine tn<|cfv hF rfl hb61<|wk<|?_
    refine tn<|th<|?_
    refine rg<|?_
    refine ls<|q1 hF rfl (e_ldA hF Tryz.isAgg29 Tryz.sizeOf29 rfl rfl ((St.ld hS).cellsB (.tail _ (.tail _ (.head _))))) fun a hF=>?_
    refine ls<|s_blkA hF hS Tryz.sizeOf29 rfl rfl rfl rfl (one_cells rfl) (.tail (.tail .head)) fun w hS=>?_
    refine ls<|s_blk hF hS Tryz.sizeOf31 rfl rfl rfl rfl (.tail .head) .zero fun w hS=>?_
    refine re<|?_
    refine tn<|?_
    refine wr<|?_
    obtain rfl:=Option.some.inj hm
    exact lvR hF Tryz.call32 (binary_Decode_idle _ _ _) (res2ka (vs:=[.slice oa19 rz5.1.Lines.length cap20,.int .i64 rz5.1.Stays,.slice oa31 rz5.1.Firsts.length cap32,.int .i64 rz5.1.Locks,.slice oa43 rz5.1.Threads.length cap44,.int .i64 rz5.1.Recover.Regs,.int .i64 rz5.1.Recover.Counts,.slice oa51 rz5.1.Recover.L.length cap52,.slice oa55 rz5.1.Claims.length cap56]) hF Tryz.results10 rfl rfl Tryz.isAgg29 Tryz.sizeOf29 rfl Tryz.isAgg31 ((St.ld hS).cellsB (.tail _ (.tail _ (.head _)))) ((St.ld hS).cellB (.tail _ (.head _)) rfl)) ⟨H11,_,rfl,(show Enc.rep (α:=api_Unit) H11 [.slice oa19 rz5.1.Lines.length cap20,.int .i64 rz5.1.Stays,.slice oa31 rz5.1.Firsts.length cap32,.int .i64 rz5.1.Locks,.slice oa43 rz5.1.Threads.length cap44,.int .i64 rz5.1.Recover.Regs,.int .i64 rz5.1.Recover.Counts,.slice oa51 rz5.1.Recover.L.length cap52,.slice oa55 rz5.1.Claims.length cap56] rz5.1 from ⟨_,_,rfl,⟨_,_,rfl,hc21,hr22⟩,⟨_,_,rfl,rfl,⟨_,_,rfl,⟨_,_,rfl,hc33,hr34⟩,⟨_,_,rfl,rfl,⟨_,_,rfl,⟨_,_,rfl,hc45,hr46⟩,⟨_,_,rfl,⟨_,_,rfl,rfl,⟨_,_,rfl,rfl,⟨_,_,rfl,hc53,hr54⟩⟩⟩,⟨_,_,rfl,hc57,hr58⟩⟩⟩⟩⟩⟩⟩),hx8,(St.le hS),hS.keep⟩
set_option maxRecDepth 100000 in
theorem Z3o_c {N:Nat} {w0:World} {H:PH} (hH:H.le w0) {p1:Str} {p2:Int} {r:(Int×Int×Int)} (hm:Z3o N p1 p2=some r):Tot Tryz.prog 77 #[strv p1,.int .i64 p2] w0 (fun v w'=>v=.tuple #[.int .i64 r.1,.int .i64 r.2.1,.int .i64 r.2.2]∧Keep Nil w0 w'):=by
  unfold Z3o at hm
  refine fn0 (args:=[strv p1,.int .i64 p2]) (F:=[(0,strv p1),(1,.int .i64 p2)]) Tryz.func77 rfl Tryz.ntmps77 rfl rfl fun a hF=>?_
  have hS:St w0 Nil [H] [] w0:=start1 hH
  refine th<|?_
  refine rg<|?_
  refine ls<|q1 hF rfl (e_asg hF rfl) fun a hF=>?_
  refine ls<|q1 hF rfl (e_asg hF rfl) fun a hF=>?_
  refine ls<|q1 hF rfl (e_asg hF rfl) fun a hF=>?_
  refine re<|?_
  refine tn<|th<|th<|?_
  refine rg<|?_
  refine ls<|q1 hF rfl (e_move hF rfl) fun a hF=>?_
  refine ls<|q1 hF rfl (e_lss hF rfl rfl) fun a hF=>?_
  refine ls<|q1 hF rfl (e_move hF rfl) fun a hF=>?_
  refine grp (N:=56) (Fk:=[(0,strv p1),(1,.int .i64 p2),(18,.bool ((decide (p2 < 0)) || (decide ((p1.length:Int) < p2))))]) (b:=(decide (p2 < 0))) 5 hS ?_ ?_ ?_
  ·
    intro hb key
    replace hF:=Fr.as hF (t:=13) rfl (congrArg Value.bool hb)
    refine ls<|gn hF rfl rfl rfl rfl fun a hF=>?_
    refine ls<|gn hF rfl rfl rfl rfl fun a hF=>?_
    refine ls<|gn hF rfl rfl rfl rfl fun a hF=>?_
    refine ls<|gn hF rfl rfl rfl rfl fun a hF=>?_
    refine ls<|q1 hF rfl (e_as (v':=.bool ((decide (p2 < 0)) || (decide ((p1.length:Int) < p2)))) (e_pickT hF rfl rfl) (by rw [hb];rfl)) fun a hF=>?_
    exact key _ _ (hF.has ⟨rfl,rfl,rfl,trivial⟩) hS
  ·
    intro hb key
    replace hF:=Fr.as hF (t:=13) rfl (congrArg Value.bool hb)
    refine ls<|gy hF rfl rfl<|q1 hF rfl (e_move hF rfl) fun a hF=>?_
    refine ls<|gy hF rfl rfl<|q1 hF rfl (e_move hF rfl) fun a hF=>?_
    refine ls<|gy hF rfl rfl<|q1 hF rfl (e_lenU (s:=p1) hF Tryz.runUnderlying9 rfl) fun a hF=>?_
    refine ls<|gy hF rfl rfl<|q1 hF rfl (e_gtr hF rfl rfl) fun a hF=>?_
    refine ls<|q1 hF rfl (e_as (v':=.bool ((decide (p2 < 0)) || (decide ((p1.length:Int) < p2)))) (e_pickF hF rfl rfl) (by rw [hb];rfl)) fun a hF=>?_
    exact key _ _ (hF.has ⟨rfl,rfl,rfl,trivial⟩) hS
  intro a w hF hS
  refine re<|?_
  rcases bdich ((decide (p2 < 0)) || (decide ((p1.length:Int) < p2))) with hb3 | hb3
  ·
    replace hm:=ite_t hm hb3
    refine tn<|ctv hF rfl hb3<|th<|?_
    refine rg<|?_
    refine ls<|q1 hF rfl (e_asg hF rfl) fun a hF=>?_
    refine ls<|q1 hF rfl (e_asg hF rfl) fun a hF=>?_
    refine ls<|q1 hF rfl (e_asg hF rfl) fun a hF=>?_
    refine re<|?_
    refine tn<|?_
    refine wr<|tr<|?_
    obtain rfl:=Option.some.inj hm
    exact Go.LM.r3 hF Tryz.results77 rfl rfl rfl ⟨rfl,hS.keep⟩
  ·
    replace hm:=ite_f hm hb3
    refine tn<|cfv hF rfl hb3<|wk<|?_
    refine tn<|th<|?_
    refine rg<|?_
    refine ls<|q1 hF rfl (e_asg hF rfl) fun a hF=>?_
    refine ls<|q1 hF rfl (e_asg hF rfl) fun a hF=>?_
    refine re<|?_
    refine tn<|th<|th<|?_
    refine rg<|?_
    refine ls<|q1 hF rfl (e_move hF rfl) fun a hF=>?_
    refine ls<|q1 hF rfl (e_asg hF rfl) fun a hF=>?_
    refine re<|?_
    refine tn<|midK (fun a w=>Z3p=some r∧Fr 56 [] a∧St w0 Nil [H] [] w) ?_ ?_
    ·
      refine wb<|lp (α:=Nat×Int×Int×Int) (fun (gh:Nat×Int×Int×Int) a w=>match gh with | (nn2,vB1,vB2,vB3)=>(Z3q N Z3p p1 p2) nn2 vB1 vB2 vB3=some r∧Fr 56 [(0,strv p1),(1,.int .i64 p2),(7,.int .i64 vB1),(8,.int .i64 vB2),(9,.int .i64 vB3)] a∧St w0 Nil [H] [] w) (fun gh=>gh.1) (N,0,1,p2) ⟨hm,hF.has ⟨rfl,rfl,rfl,rfl,rfl,trivial⟩,hS⟩ ?_
      clear hm hF hS
      rintro ⟨nn2,vB1,vB2,vB3⟩ a w ⟨hm,hF,hS⟩
      obtain _ | nn2:=nn2
      · simp [Z3q] at hm
      rw [Z3q] at hm
      refine th<|th<|?_
      refine rg<|?_
      refine ls<|q1 hF rfl (e_move hF rfl) fun a hF=>?_
      refine ls<|q1 hF rfl (e_move hF rfl) fun a hF=>?_
      refine ls<|q1 hF rfl (e_add hF rfl rfl) fun a hF=>?_
      refine ls<|q1 hF rfl (e_lss hF rfl rfl) fun a hF=>?_
      refine re<|?_
      rcases bdich (decide (vB3 < (IntKind.i64.wrap (p2+6)))) with hb4 | hb4
      ·
        replace hm:=itp_t hm hb4
        refine tn<|ctv hF rfl hb4<|wk<|?_
        refine tn<|th<|wb<|th<|th<|?_
        refine rg<|?_
        refine ls<|q1 hF rfl (e_move hF rfl) fun a hF=>?_
        refine ls<|q1 hF rfl (e_move hF rfl) fun a hF=>?_
        refine ls<|q1 hF rfl (e_lenU (s:=p1) hF Tryz.runUnderlying9 rfl) fun a hF=>?_
        refine ls<|q1 hF rfl (e_geq hF rfl rfl) fun a hF=>?_
        refine re<|?_
        rcases bdich (decide ((p1.length:Int)≤vB3)) with hb5 | hb5
        ·
          replace hm:=itp_t hm hb5
          refine tn<|ctv hF rfl hb5<|th<|?_
          refine rg<|?_
          refine ls<|q1 hF rfl (e_asg hF rfl) fun a hF=>?_
          refine ls<|q1 hF rfl (e_asg hF rfl) fun a hF=>?_
          refine ls<|q1 hF rfl (e_asg hF rfl) fun a hF=>?_
          refine re<|?_
          refine tn<|?_
          refine wr<|tr<|br<|tr<|tr<|br<|tr<|?_
          obtain rfl:=Option.some.inj hm
          exact Go.LM.r3 hF Tryz.results77 rfl rfl rfl ⟨rfl,hS.keep⟩
        ·
          replace hm:=itp_f hm hb5
          refine tn<|cfv hF rfl hb5<|wk<|?_
          refine tn<|th<|?_
          replace hm:=bind_some hm
          obtain ⟨xz6,h7,hm⟩:=hm
          refine rg<|?_
          refine ls<|q1 hF rfl (e_move hF rfl) fun a hF=>?_
          refine ls<|q1 hF rfl (e_move hF rfl) fun a hF=>?_
          refine ls<|q1 hF rfl (e_byte (s:=p1) hF Tryz.runUnderlying9 rfl rfl h7) fun a hF=>?_
          refine ls<|q1 hF rfl (e_cvt hF Tryz.runUnderlying5 Tryz.runUnderlying3 rfl) fun a hF=>?_
          refine ls<|q1 hF rfl (e_asg hF rfl) fun a hF=>?_
          refine re<|?_
          refine tn<|th<|?_
          refine rg<|?_
          refine ls<|q1 hF rfl (e_move hF rfl) fun a hF=>?_
          refine ls<|q1 hF rfl (e_move hF rfl) fun a hF=>?_
          refine ls<|q1 hF rfl (e_rem hF rfl rfl (by decide)) fun a hF=>?_
          refine ls<|q1 hF rfl (e_move hF rfl) fun a hF=>?_
          refine ls<|q1 hF rfl (e_mul hF rfl rfl) fun a hF=>?_
          refine ls<|q1 hF rfl (e_add hF rfl rfl) fun a hF=>?_
          refine ls<|q1 hF rfl (e_asg hF rfl) fun a hF=>?_
          refine re<|?_
          refine tn<|th<|?_
          refine rg<|?_
          refine ls<|q1 hF rfl (e_move hF rfl) fun a hF=>?_
          refine ls<|q1 hF rfl (e_mul hF rfl rfl) fun a hF=>?_
          refine ls<|q1 hF rfl (e_asg hF rfl) fun a hF=>?_
          refine re<|?_
          refine tn<|th<|?_
          refine rg<|?_
          refine ls<|q1 hF rfl (e_move hF rfl) fun a hF=>?_
          refine ls<|q1 hF rfl (e_lss hF rfl rfl) fun a hF=>?_
          refine re<|?_
          rcases bdich (decide ((IntKind.i64.wrap xz6) < 128)) with hb8 | hb8
          ·
            replace hm:=itp_t hm hb8
            refine tn<|ctv hF rfl hb8<|th<|th<|?_
            refine rg<|?_
            refine ls<|q1 hF rfl (e_move hF rfl) fun a hF=>?_
            refine ls<|q1 hF rfl (e_eql hF rfl rfl) fun a hF=>?_
            refine ls<|q1 hF rfl (e_move hF rfl) fun a hF=>?_
            refine grp (N:=56) (Fk:=[(7,.int .i64 (IntKind.i64.wrap (vB1+(IntKind.i64.wrap (((IntKind.i64.wrap xz6).tmod 128) * vB2))))),(9,.int .i64 vB3),(50,.bool ((decide ((IntKind.i64.wrap xz6)=0)) && (decide (p2 < vB3))))]) (b:=(decide ((IntKind.i64.wrap xz6)=0))) 4 hS ?_ ?_ ?_
            ·
              intro hb key
              replace hF:=Fr.as hF (t:=46) rfl (congrArg Value.bool hb)
              refine ls<|gy hF rfl rfl<|q1 hF rfl (e_move hF rfl) fun a hF=>?_
              refine ls<|gy hF rfl rfl<|q1 hF rfl (e_move hF rfl) fun a hF=>?_
              refine ls<|gy hF rfl rfl<|q1 hF rfl (e_gtr hF rfl rfl) fun a hF=>?_
              refine ls<|q1 hF rfl (e_as (v':=.bool ((decide ((IntKind.i64.wrap xz6)=0)) && (decide (p2 < vB3)))) (e_pickT hF rfl rfl) (by rw [hb];rfl)) fun a hF=>?_
              exact key _ _ (hF.has ⟨rfl,rfl,rfl,trivial⟩) hS
            ·
              intro hb key
              replace hF:=Fr.as hF (t:=46) rfl (congrArg Value.bool hb)
              refine ls<|gn hF rfl rfl rfl rfl fun a hF=>?_
              refine ls<|gn hF rfl rfl rfl rfl fun a hF=>?_
              refine ls<|gn hF rfl rfl rfl rfl fun a hF=>?_
              refine ls<|q1 hF rfl (e_as (v':=.bool ((decide ((IntKind.i64.wrap xz6)=0)) && (decide (p2 < vB3)))) (e_pickF hF rfl rfl) (by rw [hb];rfl)) fun a hF=>?_
              exact key _ _ (hF.has ⟨rfl,rfl,rfl,trivial⟩) hS
            intro a w hF hS
            refine re<|?_
            rcases bdich ((decide ((IntKind.i64.wrap xz6)=0)) && (decide (p2 < vB3))) with hb9 | hb9
            ·
              replace hm:=ite_t hm hb9
              refine tn<|ctv hF rfl hb9<|th<|?_
              refine rg<|?_
              refine ls<|q1 hF rfl (e_asg hF rfl) fun a hF=>?_
              refine ls<|q1 hF rfl (e_asg hF rfl) fun a hF=>?_
              refine ls<|q1 hF rfl (e_asg hF rfl) fun a hF=>?_
              refine re<|?_
              refine tn<|?_
              refine wr<|tr<|br<|tr<|tr<|br<|tr<|?_
              obtain rfl:=Option.some.inj hm
              exact Go.LM.r3 hF Tryz.results77 rfl rfl rfl ⟨rfl,hS.keep⟩
            ·
              replace hm:=ite_f hm hb9
              refine tn<|cfv hF rfl hb9<|wk<|?_
              refine tn<|th<|th<|?_
              refine rg<|?_
              refine ls<|q1 hF rfl (e_move hF rfl) fun a hF=>?_
              refine ls<|q1 hF rfl (e_gtr hF rfl rfl) fun a hF=>?_
              refine re<|?_
              rcases bdich (decide (1099511627776 < (IntKind.i64.wrap (vB1+(IntKind.i64.wrap (((IntKind.i64.wrap xz6).tmod 128) * vB2)))))) with hb10 | hb10
              ·
                replace hm:=itp_t hm hb10
                refine tn<|ctv hF rfl hb10<|th<|?_
                refine rg<|?_
                refine ls<|q1 hF rfl (e_asg hF rfl) fun a hF=>?_
                refine ls<|q1 hF rfl (e_asg hF rfl) fun a hF=>?_
                refine ls<|q1 hF rfl (e_asg hF rfl) fun a hF=>?_
                refine re<|?_
                refine tn<|?_
                refine wr<|tr<|br<|tr<|tr<|br<|tr<|?_
                obtain rfl:=Option.some.inj hm
                exact Go.LM.r3 hF Tryz.results77 rfl rfl rfl ⟨rfl,hS.keep⟩
              ·
                replace hm:=itp_f hm hb10
                refine tn<|cfv hF rfl hb10<|wk<|?_
                refine tn<|th<|?_
                refine rg<|?_
                refine ls<|q1 hF rfl (e_move hF rfl) fun a hF=>?_
                refine ls<|q1 hF rfl (e_move hF rfl) fun a hF=>?_
                refine ls<|q1 hF rfl (e_add hF rfl rfl) fun a hF=>?_
                refine ls<|q1 hF rfl (e_asg hF rfl) fun a hF=>?_
                refine ls<|q1 hF rfl (e_asg hF rfl) fun a hF=>?_
                refine ls<|q1 hF rfl (e_asg hF rfl) fun a hF=>?_
                refine re<|?_
                refine tn<|?_
                refine wr<|br<|tr<|tr<|br<|tr<|?_
                obtain rfl:=Option.some.inj hm
                exact Go.LM.r3 hF Tryz.results77 rfl rfl rfl ⟨rfl,hS.keep⟩
          ·
            replace hm:=itp_f hm hb8
            refine tn<|cfv hF rfl hb8<|wk<|?_
            refine bn<|tn<|?_
            refine rg<|?_
            refine ls<|q1 hF rfl (e_move hF rfl) fun a hF=>?_
            refine ls<|q1 hF rfl (e_add hF rfl rfl) fun a hF=>?_
            refine ls<|q1 hF rfl (e_asg hF rfl) fun a hF=>?_
            refine re<|?_
            refine tn<|?_
            exact ⟨(nn2,(IntKind.i64.wrap (vB1+(IntKind.i64.wrap (((IntKind.i64.wrap xz6).tmod 128) * vB2)))),(IntKind.i64.wrap (128 * vB2)),(IntKind.i64.wrap (vB3+1))),⟨hm,hF.has ⟨rfl,rfl,rfl,rfl,rfl,trivial⟩,hS⟩,Nat.lt_succ_self _⟩
      ·
        replace hm:=itp_f hm hb4
        refine tn<|cfv hF rfl hb4<|?_
        refine we<|tx<|tx<|bx<|?_
        refine tn<|?_
        exact ⟨hm,hF.has trivial,hS⟩
    clear hm hF hS
    rintro a w ⟨hm,hF,hS⟩
    unfold Z3p at hm
    refine th<|?_
    refine rg<|?_
    refine ls<|q1 hF rfl (e_asg hF rfl) fun a hF=>?_
    refine ls<|q1 hF rfl (e_asg hF rfl) fun a hF=>?_
    refine ls<|q1 hF rfl (e_asg hF rfl) fun a hF=>?_
    refine re<|?_
    refine tn<|?_
    refine wr<|?_
    obtain rfl:=Option.some.inj hm
    exact Go.LM.r3 hF Tryz.results77 rfl rfl rfl ⟨rfl,hS.keep⟩
end Go.LM.BINZ
