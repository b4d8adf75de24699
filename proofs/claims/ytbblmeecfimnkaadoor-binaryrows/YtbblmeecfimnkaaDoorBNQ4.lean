/- Walks, lifted by program. No condition beyond the theorems' own premises. -/
import Derived.Test.YtbblmeecfimnkaaDoorBNQ3
namespace Go.LM.BIN
open Go Go.LL Go.MD Go.LM Go.Proofs Go.MD.BIN
set_option maxRecDepth 100000
set_option maxHeartbeats 4000000 in
set_option maxRecDepth 100000 in
theorem Zu_c {N:Nat} {w0:World} {H:PH} (hH:H.le w0) {b2:Nat} {p1:binary_reader} (hO:(sepA [blk b2 (.cells [strv p1.s,.int .i64 p1.at'].toArray 72 (0,0))]).ok (hp w0)) (hD:∀ b,(sepA [blk b2 (.cells [strv p1.s,.int .i64 p1.at'].toArray 72 (0,0))]).fp b→H b=none) {r:(Option (api_Unit×binary_reader))} (hm:Zu N p1=some r):TotP Tryd.prog 30 #[.pointer (some ⟨b2,0,none⟩)] w0 (fun v w'=>∃ (r0:(api_Unit×binary_reader)),r=some r0∧∃ (H':PH) (cs0:List Value),v=.agg cs0.toArray∧Enc.rep H' cs0 r0.1∧ExtM w0 (sepA [blk b2 (.cells [strv p1.s,.int .i64 p1.at'].toArray 72 (0,0))]).fp H H'∧H'.le w'∧(∀ b,(sepA [blk b2 (.cells [strv r0.2.s,.int .i64 r0.2.at'].toArray 72 (0,0))]).fp b→H' b=none)∧Mut w0 (sepA [blk b2 (.cells [strv p1.s,.int .i64 p1.at'].toArray 72 (0,0))]) (sepA [blk b2 (.cells [strv r0.2.s,.int .i64 r0.2.at'].toArray 72 (0,0))]) w') (fun w'=>r=none∧Keep (sepA [blk b2 (.cells [strv p1.s,.int .i64 p1.at'].toArray 72 (0,0))]).fp w0 w'):=by
  unfold Zu at hm
  refine fnP (args:=[.pointer (some ⟨b2,0,none⟩)]) (F:=[(0,.pointer (some ⟨b2,0,none⟩))]) Tryd.func30 rfl Tryd.ntmps30 rfl rfl fun a hF=>?_
  have hS:=startM hH hO hD
  refine th<|?_
  refine rg<|?_
  refine ls<|a_alloc (cs:=[.slice none 0 0,.int .i64 0,.slice none 0 0,.int .i64 0,.slice none 0 0,.int .i64 0,.int .i64 0,.slice none 0 0,.slice none 0 0].toArray) hF rfl hS Tryd.zeroValue53 rfl fun b3 w a hS hF=>?_
  refine re<|?_
  refine tn<|th<|?_
  refine rg<|?_
  refine ls<|a_alloc (cs:=[.slice none 0 0,.int .i64 0,.slice none 0 0,.int .i64 0,.slice none 0 0,.int .i64 0,.int .i64 0,.slice none 0 0,.slice none 0 0].toArray) hF rfl hS Tryd.zeroValue53 rfl fun b4 w a hS hF=>?_
  refine re<|?_
  refine tn<|th<|?_
  refine rg<|?_
  refine ls<|q1 hF rfl (e_move hF rfl) fun a hF=>?_
  replace hS:=hS.pickL (.cons (.tail (.tail .head)) (.cons .head (.cons .head .nil)))
  replace hS:=St.sep [blk b2 (.cells [strv p1.s,.int .i64 p1.at'].toArray 72 (0,0))] hS
  obtain ⟨ro7,h6,hm⟩:=Option.bindP_x hm
  refine ls<|c1p hF rfl Tryd.call51 (Zo_c (St.le hS) (p1:=p1) (b2:=b2) (St.sepOk hS) (St.sepDis hS) h6) ⟨rfl,trivial⟩ (fun _ _ w hE=>?_) (fun v w a hR hF=>?_)
  · obtain ⟨rfl,hk⟩:=hE;obtain rfl:=Option.some.inj hm;exact tpn<|pnB hF ⟨rfl,St.panK hS hk⟩
  obtain ⟨rz5,rfl,hR⟩:=hR
  replace hm:=Option.bindP_s hm
  obtain ⟨oa8,cap9,vs10,rfl,hv11,hk⟩:=hR
  replace hS:=(hS.mut hk .head).unsep
  clear hk
  replace hv11:=hv11 H
  refine ls<|q1 hF rfl (e_fa hF fa53_0 rfl) fun a hF=>?_
  refine ls<|s_blk hF hS Tryd.sizeOf28 rfl rfl rfl rfl (.tail (.tail .head)) .zero fun w hS=>?_
  refine re<|?_
  refine tn<|th<|?_
  refine rg<|?_
  refine ls<|q1 hF rfl (e_move hF rfl) fun a hF=>?_
  replace hS:=hS.pickL (.cons .head (.cons .head (.cons .head (.cons .head .nil))))
  replace hS:=St.sep [blk b2 (.cells [strv rz5.2.s,.int .i64 rz5.2.at'].toArray 72 (0,0))] hS
  obtain ⟨ro15,h14,hm⟩:=Option.bindP_x hm
  refine ls<|c1p hF rfl Tryd.call52 (Zn_c (St.le hS) (p1:=rz5.2) (b2:=b2) (St.sepOk hS) (St.sepDis hS) h14) ⟨rfl,trivial⟩ (fun _ _ w hE=>?_) (fun v w a hR hF=>?_)
  · obtain ⟨rfl,hk⟩:=hE;obtain rfl:=Option.some.inj hm;exact tpn<|pnB hF ⟨rfl,St.panK hS hk⟩
  obtain ⟨r13,rfl,hR⟩:=hR
  replace hm:=Option.bindP_s hm
  obtain ⟨rfl,hk⟩:=hR
  replace hS:=(hS.mut hk .head).unsep
  clear hk
  refine ls<|q1 hF rfl (e_fa hF fa53_1 rfl) fun a hF=>?_
  refine ls<|s_blk hF hS Tryd.sizeOf3 rfl rfl rfl rfl (.tail (.tail .head)) (.succ .zero) fun w hS=>?_
  refine re<|?_
  refine tn<|th<|?_
  refine rg<|?_
  refine ls<|q1 hF rfl (e_move hF rfl) fun a hF=>?_
  replace hS:=hS.pickL (.cons .head (.cons .head (.cons .head (.cons .head .nil))))
  replace hS:=St.sep [blk b2 (.cells [strv r13.2.s,.int .i64 r13.2.at'].toArray 72 (0,0))] hS
  obtain ⟨ro18,h17,hm⟩:=Option.bindP_x hm
  refine ls<|c1p hF rfl Tryd.call51 (Zo_c (St.le hS) (p1:=r13.2) (b2:=b2) (St.sepOk hS) (St.sepDis hS) h17) ⟨rfl,trivial⟩ (fun _ _ w hE=>?_) (fun v w a hR hF=>?_)
  · obtain ⟨rfl,hk⟩:=hE;obtain rfl:=Option.some.inj hm;exact tpn<|pnB hF ⟨rfl,St.panK hS hk⟩
  obtain ⟨r16,rfl,hR⟩:=hR
  replace hm:=Option.bindP_s hm
  obtain ⟨oa19,cap20,vs21,rfl,hv22,hk⟩:=hR
  replace hS:=(hS.mut hk .head).unsep
  clear hk
  replace hv22:=hv22 H
  refine ls<|q1 hF rfl (e_fa hF fa53_2 rfl) fun a hF=>?_
  refine ls<|s_blk hF hS Tryd.sizeOf28 rfl rfl rfl rfl (.tail (.tail (.tail .head))) (.succ (.succ .zero)) fun w hS=>?_
  refine re<|?_
  refine tn<|th<|?_
  refine rg<|?_
  refine ls<|q1 hF rfl (e_move hF rfl) fun a hF=>?_
  replace hS:=hS.pickL (.cons .head (.cons .head (.cons .head (.cons .head (.cons .head .nil)))))
  replace hS:=St.sep [blk b2 (.cells [strv r16.2.s,.int .i64 r16.2.at'].toArray 72 (0,0))] hS
  obtain ⟨ro26,h25,hm⟩:=Option.bindP_x hm
  refine ls<|c1p hF rfl Tryd.call52 (Zn_c (St.le hS) (p1:=r16.2) (b2:=b2) (St.sepOk hS) (St.sepDis hS) h25) ⟨rfl,trivial⟩ (fun _ _ w hE=>?_) (fun v w a hR hF=>?_)
  · obtain ⟨rfl,hk⟩:=hE;obtain rfl:=Option.some.inj hm;exact tpn<|pnB hF ⟨rfl,St.panK hS hk⟩
  obtain ⟨r24,rfl,hR⟩:=hR
  replace hm:=Option.bindP_s hm
  obtain ⟨rfl,hk⟩:=hR
  replace hS:=(hS.mut hk .head).unsep
  clear hk
  refine ls<|q1 hF rfl (e_fa hF fa53_3 rfl) fun a hF=>?_
  refine ls<|s_blk hF hS Tryd.sizeOf3 rfl rfl rfl rfl (.tail (.tail (.tail .head))) (.succ (.succ (.succ .zero))) fun w hS=>?_
  refine re<|?_
  refine tn<|th<|th<|?_
  refine rg<|?_
  refine ls<|q1 hF rfl (e_move hF rfl) fun a hF=>?_
  replace hS:=hS.pickL (.cons .head (.cons .head (.cons .head (.cons .head (.cons .head .nil)))))
  replace hS:=St.sep [blk b2 (.cells [strv r24.2.s,.int .i64 r24.2.at'].toArray 72 (0,0))] hS
  obtain ⟨ro29,h28,hm⟩:=Option.bindP_x hm
  refine ls<|c1p hF rfl Tryd.call53 (Zm_c (St.le hS) (p1:=r24.2) (b2:=b2) (St.sepOk hS) (St.sepDis hS) h28) ⟨rfl,trivial⟩ (fun _ _ w hE=>?_) (fun v w a hR hF=>?_)
  · obtain ⟨rfl,hk⟩:=hE;obtain rfl:=Option.some.inj hm;exact tpn<|tpn<|pnB hF ⟨rfl,St.panK hS hk⟩
  obtain ⟨r27,rfl,hR⟩:=hR
  replace hm:=Option.bindP_s hm
  obtain ⟨rfl,hk⟩:=hR
  replace hS:=(hS.mut hk .head).unsep
  clear hk
  refine ls<|q1 hF rfl (e_move hF rfl) fun a hF=>?_
  refine re<|?_
  refine tn<|midK (fun a w=>∃ (vA2:binary_reader) (vA3:(List api_Code)) (HA1:PH) (oaA4:Option Addr) (capA5:Nat) (vsA6:List Value),(Zv N rz5 r13 r16 r24) vA2 vA3=some r∧ExtM w0 (sepA [blk b2 (.cells [strv p1.s,.int .i64 p1.at'].toArray 72 (0,0))]).fp H HA1∧Fr 44 [(0,.pointer (some ⟨b2,0,none⟩)),(2,.pointer (some ⟨b3,0,none⟩)),(3,.pointer (some ⟨b4,0,none⟩))] a∧St w0 (sepA [blk b2 (.cells [strv p1.s,.int .i64 p1.at'].toArray 72 (0,0))]).fp [HA1] [blk b2 (.cells [strv vA2.s,.int .i64 vA2.at'].toArray 72 (0,0)),blk b3 (.cells [.slice none 0 0,.int .i64 0,.slice none 0 0,.int .i64 0,.slice none 0 0,.int .i64 0,.int .i64 0,.slice none 0 0,.slice none 0 0].toArray 53 (0,0)),sla 3 1 oa8 rz5.1.length cap9 vs10,sla 3 1 oa19 r16.1.length cap20 vs21,sla 32 3 oaA4 vA3.length capA5 vsA6,blk b4 (.cells [.slice oa8 rz5.1.length cap9,.int .i64 r13.1,.slice oa19 r16.1.length cap20,.int .i64 r24.1,.slice oaA4 vA3.length capA5,.int .i64 0,.int .i64 0,.slice none 0 0,.slice none 0 0].toArray 53 (0,0))] w∧Rows HA1 vsA6 vA3) ?_ ?_
  ·
    replace hS:=St.nilS hS 32 3
    replace hS:=hS.pickL (.cons (.tail .head) (.cons (.tail (.tail (.tail (.tail .head)))) (.cons (.tail (.tail .head)) (.cons (.tail .head) (.cons .head (.cons .head .nil))))))
    refine wb<|lp (α:=Nat×binary_reader×(List api_Code)×Int) (fun (gh:Nat×binary_reader×(List api_Code)×Int) a w=>match gh with | (nn2,vB2,vB3,vB9)=>∃ (HB1:PH) (oaB4:Option Addr) (capB5:Nat) (vsB6:List Value),(Zx N (Zv N rz5 r13 r16 r24) r27) nn2 vB2 vB3 vB9=some r∧ExtM w0 (sepA [blk b2 (.cells [strv p1.s,.int .i64 p1.at'].toArray 72 (0,0))]).fp H HB1∧Fr 44 [(0,.pointer (some ⟨b2,0,none⟩)),(2,.pointer (some ⟨b3,0,none⟩)),(3,.pointer (some ⟨b4,0,none⟩)),(17,.int .i64 r27.1),(18,.int .i64 vB9)] a∧St w0 (sepA [blk b2 (.cells [strv p1.s,.int .i64 p1.at'].toArray 72 (0,0))]).fp [HB1] [blk b2 (.cells [strv vB2.s,.int .i64 vB2.at'].toArray 72 (0,0)),blk b3 (.cells [.slice none 0 0,.int .i64 0,.slice none 0 0,.int .i64 0,.slice none 0 0,.int .i64 0,.int .i64 0,.slice none 0 0,.slice none 0 0].toArray 53 (0,0)),sla 3 1 oa8 rz5.1.length cap9 vs10,sla 3 1 oa19 r16.1.length cap20 vs21,sla 32 3 oaB4 vB3.length capB5 vsB6,blk b4 (.cells [.slice oa8 rz5.1.length cap9,.int .i64 r13.1,.slice oa19 r16.1.length cap20,.int .i64 r24.1,.slice oaB4 vB3.length capB5,.int .i64 0,.int .i64 0,.slice none 0 0,.slice none 0 0].toArray 53 (0,0))] w∧Rows HB1 vsB6 vB3) (fun gh=>gh.1) (N,r27.2,[],0) ⟨H,none,0,[],hm,(ExtM.refl _ _ _),hF.has ⟨rfl,rfl,rfl,rfl,rfl,trivial⟩,hS,.nil⟩ ?_
    clear hm hF hS
    rintro ⟨nn2,vB2,vB3,vB9⟩ a w ⟨HB1,oaB4,capB5,vsB6,hm,hxHB1,hF,hS,hvB7⟩
    obtain _ | nn2:=nn2
    · simp [Zx] at hm
    rw [Zx] at hm
    refine th<|?_
    refine rg<|?_
    refine ls<|q1 hF rfl (e_lss hF rfl rfl) fun a hF=>?_
    refine re<|?_
    rcases bdich (decide (vB9 < r27.1)) with hb30 | hb30
    ·
      replace hm:=itp_t hm hb30
      refine tn<|th<|ctv hF rfl hb30<|wk<|?_
      refine tn<|th<|wb<|?_
      refine rdL (sub_cons (.tail _ (.head _)) (sub_cons (.tail _ (.tail _ (.head _))) (sub_cons (.tail _ (.tail _ (.tail _ (.head _)))) (sub_cons (.tail _ (.tail _ (.tail _ (.tail _ (.tail _ (.head _)))))) sub_nil)))) 7 hS wide fun w hS=>?_
      refine d1 (i:=0) rfl (by kernel_rfl) (by kernel_rfl) (St.ldsX hS (fun _ _ h=>h) (sub_cons (.tail _ (.head _)) (sub_cons (.tail _ (.tail _ (.head _))) (sub_cons (.tail _ (.tail _ (.tail _ (.head _)))) (sub_cons (.tail _ (.tail _ (.tail _ (.tail _ (.tail _ (.head _)))))) sub_nil))))) hF rfl (fun _ _ _ h=>h) (fun w hl=>(e_fa hF fa53_4 rfl)) fun a hF=>?_
      refine d1 (i:=1) rfl (by kernel_rfl) (by kernel_rfl) (St.ldsX hS (fun _ _ h=>h) (sub_cons (.tail _ (.head _)) (sub_cons (.tail _ (.tail _ (.head _))) (sub_cons (.tail _ (.tail _ (.tail _ (.head _)))) (sub_cons (.tail _ (.tail _ (.tail _ (.tail _ (.tail _ (.head _)))))) sub_nil))))) hF rfl (fun _ _ _ h=>h) (fun w hl=>(e_ld hF Tryd.isAgg50 rfl (hl.cellB (.tail _ (.tail _ (.tail _ (.head _)))) rfl))) fun a hF=>?_
      refine d1 (i:=2) rfl (by kernel_rfl) (by kernel_rfl) (St.ldsX hS (fun _ _ h=>h) (sub_cons (.tail _ (.head _)) (sub_cons (.tail _ (.tail _ (.head _))) (sub_cons (.tail _ (.tail _ (.tail _ (.head _)))) (sub_cons (.tail _ (.tail _ (.tail _ (.tail _ (.tail _ (.head _)))))) sub_nil))))) hF rfl (fun _ _ _ h=>h) (fun w hl=>(e_move hF rfl)) fun a hF=>?_
      refine da1 (i:=3) (by kernel_rfl) ?_
      replace hS:=hS.pickL (.cons .head (.cons .head (.cons .head (.cons .head (.cons .head (.cons .head .nil))))))
      replace hS:=St.sep [blk b2 (.cells [strv vB2.s,.int .i64 vB2.at'].toArray 72 (0,0))] hS
      obtain ⟨ro33,h32,hm⟩:=Option.bindP_x hm
      refine di (i:=3) rfl<|c1p hF rfl Tryd.call54 (Zh_c (St.le hS) (p1:=vB2) (b2:=b2) (St.sepOk hS) (St.sepDis hS) h32) ⟨rfl,trivial⟩ (fun _ _ w hE=>?_) (fun v w a hR hF=>?_)
      · obtain ⟨rfl,hk⟩:=hE;obtain rfl:=Option.some.inj hm;exact bpn<|tpn<|tpn<|bpn<|tpn<|pnB hF ⟨rfl,St.panK hS hk⟩
      obtain ⟨r31,rfl,hR⟩:=hR
      replace hm:=Option.bindP_s hm
      replace hm:=bind_some hm
      obtain ⟨l47,h48,hm⟩:=hm
      obtain ⟨H37,cs38,rfl,g39,hx34,hl35,hd36,hk⟩:=hR
      obtain ⟨hS,hx34⟩:=And.intro (St.mutH hS hk hx34 hl35 hd36) (St.extcMM hS hx34)
      replace hS:=hS.unsep
      clear hk
      obtain ⟨oa40,cap41,rfl,hc42,hr43⟩:=api_Code_open g39
      refine ⟨fun _=>(St.ldsX hS hx34.sub (sub_cons (.tail _ (.head _)) (sub_cons (.tail _ (.tail _ (.head _))) (sub_cons (.tail _ (.tail _ (.tail _ (.head _)))) (sub_cons (.tail _ (.tail _ (.tail _ (.tail _ (.tail _ (.head _)))))) sub_nil))))),?_⟩
      refine da1 (i:=4) (by kernel_rfl) ?_
      refine di (i:=4) rfl<|a_bsl (e:=32) (sz:=3) [.int .i64 r31.1.Regs,.int .i64 r31.1.Counts,.slice oa40 r31.1.L.length cap41] hF rfl hS rfl rfl rfl (fun w=>by kernel_rfl) fun b45 w a hS hF=>?_
      have hv44:Rows (α:=api_Code) H37 [.int .i64 r31.1.Regs,.int .i64 r31.1.Counts,.slice oa40 r31.1.L.length cap41] ([r31.1]:List api_Code):=(.cons (c:=[.int .i64 r31.1.Regs,.int .i64 r31.1.Counts,.slice oa40 r31.1.L.length cap41]) ⟨_,_,rfl,rfl,⟨_,_,rfl,rfl,⟨_,_,rfl,hc42,hr43⟩⟩⟩ .nil)
      refine ⟨fun _=>(St.ldsX hS hx34.sub (sub_cons (.tail _ (.tail _ (.head _))) (sub_cons (.tail _ (.tail _ (.tail _ (.head _)))) (sub_cons (.tail _ (.tail _ (.tail _ (.tail _ (.head _))))) (sub_cons (.tail _ (.tail _ (.tail _ (.tail _ (.tail _ (.tail _ (.head _))))))) sub_nil))))),?_⟩
      refine da1 (i:=5) (by kernel_rfl) ?_
      refine di (i:=5) rfl<|m_app (α:=api_Code) (xs:=vB3) (ys:=([r31.1]:List api_Code)) hF rfl hS Tryd.underlying50 info32 rfl (by decide) rfl rfl rfl (.tail _ (.tail _ (.tail _ (.tail _ (.tail _ (.head _)))))) (hvB7.mono hx34.sub) (hS.rdO (.head _)) hv44 h48 fun oa49 cap50 vs51 w a hv52 hU hF=>?_
      replace hS:=hU _ (.tail (.tail (.tail (.tail (.tail .head)))))
      clear hU
      replace hS:=hS.drop .head
      refine ⟨fun _=>(St.ldsX hS hx34.sub (sub_cons (.tail _ (.head _)) (sub_cons (.tail _ (.tail _ (.head _))) (sub_cons (.tail _ (.tail _ (.tail _ (.head _)))) (sub_cons (.tail _ (.tail _ (.tail _ (.tail _ (.tail _ (.head _)))))) sub_nil))))),?_⟩
      refine d1 (i:=6) rfl (by kernel_rfl) (by kernel_rfl) (St.ldsX hS hx34.sub (sub_cons (.tail _ (.head _)) (sub_cons (.tail _ (.tail _ (.head _))) (sub_cons (.tail _ (.tail _ (.tail _ (.head _)))) (sub_cons (.tail _ (.tail _ (.tail _ (.tail _ (.tail _ (.head _)))))) sub_nil))))) hF rfl (fun _ _ _ h=>h) (fun w hl=>(e_fa hF fa53_4 rfl)) fun a hF=>?_
      refine da1 (i:=7) (by kernel_rfl) ?_
      refine di (i:=7) rfl<|s_blk hF hS Tryd.sizeOf50 rfl rfl rfl rfl (.tail (.tail (.tail (.tail (.tail .head))))) (.succ (.succ (.succ (.succ .zero)))) fun w hS=>?_
      refine ⟨fun h=>absurd rfl h,?_⟩
      refine de (by kernel_rfl)<|?_
      refine bn<|tn<|?_
      refine rg<|?_
      refine ls<|q1 hF rfl (e_add hF rfl rfl) fun a hF=>?_
      refine ls<|q1 hF rfl (e_move hF rfl) fun a hF=>?_
      refine re<|?_
      refine tn<|?_
      exact ⟨(nn2,r31.2,l47,(IntKind.i64.wrap (vB9+1))),⟨H37,oa49,cap50,vs51,hm,(ExtM.trans hxHB1 hx34),hF.has ⟨rfl,rfl,rfl,rfl,rfl,trivial⟩,hS,hv52⟩,Nat.lt_succ_self _⟩
    ·
      replace hm:=itp_f hm hb30
      refine tn<|th<|cfv hF rfl hb30<|?_
      refine we<|tx<|tx<|bx<|?_
      refine tn<|?_
      exact ⟨vB2,vB3,HB1,oaB4,capB5,vsB6,hm,hxHB1,hF.has ⟨rfl,rfl,rfl,trivial⟩,hS,hvB7⟩
  clear hm hF hS
  rintro a w ⟨vA2,vA3,HA1,oaA4,capA5,vsA6,hm,hxHA1,hF,hS,hvA7⟩
  unfold Zv at hm
  refine th<|?_
  refine rg<|?_
  refine ls<|q1 hF rfl (e_move hF rfl) fun a hF=>?_
  replace hS:=hS.pickL (.cons .head (.cons .head (.cons .head (.cons .head (.cons .head (.cons .head .nil))))))
  replace hS:=St.sep [blk b2 (.cells [strv vA2.s,.int .i64 vA2.at'].toArray 72 (0,0))] hS
  obtain ⟨ro55,h54,hm⟩:=Option.bindP_x hm
  refine ls<|c1p hF rfl Tryd.call54 (Zh_c (St.le hS) (p1:=vA2) (b2:=b2) (St.sepOk hS) (St.sepDis hS) h54) ⟨rfl,trivial⟩ (fun _ _ w hE=>?_) (fun v w a hR hF=>?_)
  · obtain ⟨rfl,hk⟩:=hE;obtain rfl:=Option.some.inj hm;exact tpn<|pnB hF ⟨rfl,St.panK hS hk⟩
  obtain ⟨r53,rfl,hR⟩:=hR
  replace hm:=Option.bindP_s hm
  obtain ⟨H59,cs60,rfl,g61,hx56,hl57,hd58,hk⟩:=hR
  obtain ⟨hS,hx56⟩:=And.intro (St.mutH hS hk hx56 hl57 hd58) (St.extcMM hS hx56)
  replace hS:=hS.unsep
  clear hk
  obtain ⟨oa62,cap63,rfl,hc64,hr65⟩:=api_Code_open g61
  refine ls<|q1 hF rfl (e_fa hF fa53_5 rfl) fun a hF=>?_
  refine ls<|s_blkP [.slice oa8 rz5.1.length cap9,.int .i64 r13.1,.slice oa19 r16.1.length cap20,.int .i64 r24.1,.slice oaA4 vA3.length capA5] [.int .i64 0,.int .i64 0,.slice none 0 0] [.int .i64 r53.1.Regs,.int .i64 r53.1.Counts,.slice oa62 r53.1.L.length cap63] [.slice none 0 0] (c:=[.slice oa8 rz5.1.length cap9,.int .i64 r13.1,.slice oa19 r16.1.length cap20,.int .i64 r24.1,.slice oaA4 vA3.length capA5,.int .i64 0,.int .i64 0,.slice none 0 0,.slice none 0 0]) (c':=[.slice oa8 rz5.1.length cap9,.int .i64 r13.1,.slice oa19 r16.1.length cap20,.int .i64 r24.1,.slice oaA4 vA3.length capA5,.int .i64 r53.1.Regs,.int .i64 r53.1.Counts,.slice oa62 r53.1.L.length cap63,.slice none 0 0]) hF hS Tryd.sizeOf32 rfl rfl rfl rfl rfl (one_cells rfl) rfl rfl (.tail (.tail (.tail (.tail (.tail .head))))) fun w hS=>?_
  refine re<|?_
  refine tn<|th<|th<|?_
  refine rg<|?_
  refine ls<|q1 hF rfl (e_move hF rfl) fun a hF=>?_
  replace hS:=hS.pickL (.cons .head (.cons .head (.cons .head (.cons .head (.cons .head (.cons .head .nil))))))
  replace hS:=St.sep [blk b2 (.cells [strv r53.2.s,.int .i64 r53.2.at'].toArray 72 (0,0))] hS
  obtain ⟨ro68,h67,hm⟩:=Option.bindP_x hm
  refine ls<|c1p hF rfl Tryd.call53 (Zm_c (St.le hS) (p1:=r53.2) (b2:=b2) (St.sepOk hS) (St.sepDis hS) h67) ⟨rfl,trivial⟩ (fun _ _ w hE=>?_) (fun v w a hR hF=>?_)
  · obtain ⟨rfl,hk⟩:=hE;obtain rfl:=Option.some.inj hm;exact tpn<|tpn<|pnB hF ⟨rfl,St.panK hS hk⟩
  obtain ⟨r66,rfl,hR⟩:=hR
  replace hm:=Option.bindP_s hm
  obtain ⟨rfl,hk⟩:=hR
  replace hS:=(hS.mut hk .head).unsep
  clear hk
  refine ls<|q1 hF rfl (e_move hF rfl) fun a hF=>?_
  refine re<|?_
  refine tn<|midK (fun a w=>∃ (vA10:binary_reader) (vA11:(List (List api_Op))) (HA9:PH) (oaA12:Option Addr) (capA13:Nat) (vsA14:List Value),(Zw rz5 r13 r16 r24 vA3 r53) vA10 vA11=some r∧ExtM w0 (sepA [blk b2 (.cells [strv p1.s,.int .i64 p1.at'].toArray 72 (0,0))]).fp H59 HA9∧Fr 44 [(0,.pointer (some ⟨b2,0,none⟩)),(2,.pointer (some ⟨b3,0,none⟩)),(3,.pointer (some ⟨b4,0,none⟩))] a∧St w0 (sepA [blk b2 (.cells [strv p1.s,.int .i64 p1.at'].toArray 72 (0,0))]).fp [HA9] [blk b2 (.cells [strv vA10.s,.int .i64 vA10.at'].toArray 72 (0,0)),blk b3 (.cells [.slice none 0 0,.int .i64 0,.slice none 0 0,.int .i64 0,.slice none 0 0,.int .i64 0,.int .i64 0,.slice none 0 0,.slice none 0 0].toArray 53 (0,0)),sla 3 1 oa8 rz5.1.length cap9 vs10,sla 3 1 oa19 r16.1.length cap20 vs21,sla 32 3 oaA4 vA3.length capA5 vsA6,sla 47 1 oaA12 vA11.length capA13 vsA14,blk b4 (.cells [.slice oa8 rz5.1.length cap9,.int .i64 r13.1,.slice oa19 r16.1.length cap20,.int .i64 r24.1,.slice oaA4 vA3.length capA5,.int .i64 r53.1.Regs,.int .i64 r53.1.Counts,.slice oa62 r53.1.L.length cap63,.slice oaA12 vA11.length capA13].toArray 53 (0,0))] w∧Rows HA9 vsA14 vA11) ?_ ?_
  ·
    replace hS:=St.nilS hS 47 1
    replace hS:=hS.pickL (.cons (.tail .head) (.cons (.tail .head) (.cons (.tail .head) (.cons (.tail .head) (.cons (.tail .head) (.cons .head (.cons .head .nil)))))))
    refine wb<|lp (α:=Nat×binary_reader×(List (List api_Op))×Int) (fun (gh:Nat×binary_reader×(List (List api_Op))×Int) a w=>match gh with | (nn4,vB11,vB12,vB18)=>∃ (HB10:PH) (oaB13:Option Addr) (capB14:Nat) (vsB15:List Value),(Zy N (Zw rz5 r13 r16 r24 vA3 r53) r66) nn4 vB11 vB12 vB18=some r∧ExtM w0 (sepA [blk b2 (.cells [strv p1.s,.int .i64 p1.at'].toArray 72 (0,0))]).fp H59 HB10∧Fr 44 [(0,.pointer (some ⟨b2,0,none⟩)),(2,.pointer (some ⟨b3,0,none⟩)),(3,.pointer (some ⟨b4,0,none⟩)),(32,.int .i64 r66.1),(33,.int .i64 vB18)] a∧St w0 (sepA [blk b2 (.cells [strv p1.s,.int .i64 p1.at'].toArray 72 (0,0))]).fp [HB10] [blk b2 (.cells [strv vB11.s,.int .i64 vB11.at'].toArray 72 (0,0)),blk b3 (.cells [.slice none 0 0,.int .i64 0,.slice none 0 0,.int .i64 0,.slice none 0 0,.int .i64 0,.int .i64 0,.slice none 0 0,.slice none 0 0].toArray 53 (0,0)),sla 3 1 oa8 rz5.1.length cap9 vs10,sla 3 1 oa19 r16.1.length cap20 vs21,sla 32 3 oaA4 vA3.length capA5 vsA6,sla 47 1 oaB13 vB12.length capB14 vsB15,blk b4 (.cells [.slice oa8 rz5.1.length cap9,.int .i64 r13.1,.slice oa19 r16.1.length cap20,.int .i64 r24.1,.slice oaA4 vA3.length capA5,.int .i64 r53.1.Regs,.int .i64 r53.1.Counts,.slice oa62 r53.1.L.length cap63,.slice oaB13 vB12.length capB14].toArray 53 (0,0))] w∧Rows HB10 vsB15 vB12) (fun gh=>gh.1) (N,r66.2,[],0) ⟨H59,none,0,[],hm,(ExtM.refl _ _ _),hF.has ⟨rfl,rfl,rfl,rfl,rfl,trivial⟩,hS,.nil⟩ ?_
    clear hm hF hS
    rintro ⟨nn4,vB11,vB12,vB18⟩ a w ⟨HB10,oaB13,capB14,vsB15,hm,hxHB10,hF,hS,hvB16⟩
    obtain _ | nn4:=nn4
    · simp [Zy] at hm
    rw [Zy] at hm
    refine th<|?_
    refine rg<|?_
    refine ls<|q1 hF rfl (e_lss hF rfl rfl) fun a hF=>?_
    refine re<|?_
    rcases bdich (decide (vB18 < r66.1)) with hb69 | hb69
    ·
      replace hm:=itp_t hm hb69
      refine tn<|th<|ctv hF rfl hb69<|wk<|?_
      refine tn<|th<|wb<|?_
      refine rdL (sub_cons (.tail _ (.head _)) (sub_cons (.tail _ (.tail _ (.head _))) (sub_cons (.tail _ (.tail _ (.tail _ (.head _)))) (sub_cons (.tail _ (.tail _ (.tail _ (.tail _ (.head _))))) (sub_cons (.tail _ (.tail _ (.tail _ (.tail _ (.tail _ (.tail _ (.head _))))))) sub_nil))))) 7 hS wide fun w hS=>?_
      refine d1 (i:=0) rfl (by kernel_rfl) (by kernel_rfl) (St.ldsX hS (fun _ _ h=>h) (sub_cons (.tail _ (.head _)) (sub_cons (.tail _ (.tail _ (.head _))) (sub_cons (.tail _ (.tail _ (.tail _ (.head _)))) (sub_cons (.tail _ (.tail _ (.tail _ (.tail _ (.head _))))) (sub_cons (.tail _ (.tail _ (.tail _ (.tail _ (.tail _ (.tail _ (.head _))))))) sub_nil)))))) hF rfl (fun _ _ _ h=>h) (fun w hl=>(e_fa hF fa53_6 rfl)) fun a hF=>?_
      refine d1 (i:=1) rfl (by kernel_rfl) (by kernel_rfl) (St.ldsX hS (fun _ _ h=>h) (sub_cons (.tail _ (.head _)) (sub_cons (.tail _ (.tail _ (.head _))) (sub_cons (.tail _ (.tail _ (.tail _ (.head _)))) (sub_cons (.tail _ (.tail _ (.tail _ (.tail _ (.head _))))) (sub_cons (.tail _ (.tail _ (.tail _ (.tail _ (.tail _ (.tail _ (.head _))))))) sub_nil)))))) hF rfl (fun _ _ _ h=>h) (fun w hl=>(e_ld hF Tryd.isAgg51 rfl (hl.cellB (.tail _ (.tail _ (.tail _ (.tail _ (.head _))))) rfl))) fun a hF=>?_
      refine d1 (i:=2) rfl (by kernel_rfl) (by kernel_rfl) (St.ldsX hS (fun _ _ h=>h) (sub_cons (.tail _ (.head _)) (sub_cons (.tail _ (.tail _ (.head _))) (sub_cons (.tail _ (.tail _ (.tail _ (.head _)))) (sub_cons (.tail _ (.tail _ (.tail _ (.tail _ (.head _))))) (sub_cons (.tail _ (.tail _ (.tail _ (.tail _ (.tail _ (.tail _ (.head _))))))) sub_nil)))))) hF rfl (fun _ _ _ h=>h) (fun w hl=>(e_move hF rfl)) fun a hF=>?_
      refine da1 (i:=3) (by kernel_rfl) ?_
      replace hS:=hS.pickL (.cons .head (.cons .head (.cons .head (.cons .head (.cons .head (.cons .head (.cons .head .nil)))))))
      replace hS:=St.sep [blk b2 (.cells [strv vB11.s,.int .i64 vB11.at'].toArray 72 (0,0))] hS
      obtain ⟨ro72,h71,hm⟩:=Option.bindP_x hm
      refine di (i:=3) rfl<|c1p hF rfl Tryd.call55 (Zr_c (St.le hS) (p1:=vB11) (b2:=b2) (St.sepOk hS) (St.sepDis hS) h71) ⟨rfl,trivial⟩ (fun _ _ w hE=>?_) (fun v w a hR hF=>?_)
      · obtain ⟨rfl,hk⟩:=hE;obtain rfl:=Option.some.inj hm;exact bpn<|tpn<|tpn<|bpn<|tpn<|pnB hF ⟨rfl,St.panK hS hk⟩
      obtain ⟨r70,rfl,hR⟩:=hR
      replace hm:=Option.bindP_s hm
      replace hm:=bind_some hm
      obtain ⟨l85,h86,hm⟩:=hm
      obtain ⟨oa73,cap74,vs75,rfl,hv76,hk⟩:=hR
      replace hS:=(hS.mut hk .head).unsep
      clear hk
      replace hv76:=hv76 HB10
      refine ⟨fun _=>(St.ldsX hS (fun _ _ h=>h) (sub_cons (.tail _ (.tail _ (.head _))) (sub_cons (.tail _ (.tail _ (.tail _ (.head _)))) (sub_cons (.tail _ (.tail _ (.tail _ (.tail _ (.head _))))) (sub_cons (.tail _ (.tail _ (.tail _ (.tail _ (.tail _ (.head _)))))) (sub_cons (.tail _ (.tail _ (.tail _ (.tail _ (.tail _ (.tail _ (.tail _ (.head _)))))))) sub_nil)))))),?_⟩
      refine da1 (i:=4) (by kernel_rfl) ?_
      obtain ⟨H81,hx78,hr79,hc80,hS⟩:=St.frzSM hS (.tail .head) hv76
      refine di (i:=4) rfl<|a_bsl (e:=47) (sz:=1) [.slice oa73 r70.1.length cap74] hF rfl hS rfl rfl rfl (fun w=>by kernel_rfl) fun b83 w a hS hF=>?_
      have hv82:Rows (α:=(List api_Op)) H81 [.slice oa73 r70.1.length cap74] ([r70.1]:List (List api_Op)):=(.cons (c:=[.slice oa73 r70.1.length cap74]) ⟨_,_,rfl,hc80,hr79⟩ .nil)
      refine ⟨fun _=>(St.ldsX hS hx78.sub (sub_cons (.tail _ (.tail _ (.head _))) (sub_cons (.tail _ (.tail _ (.tail _ (.head _)))) (sub_cons (.tail _ (.tail _ (.tail _ (.tail _ (.head _))))) (sub_cons (.tail _ (.tail _ (.tail _ (.tail _ (.tail _ (.head _)))))) (sub_cons (.tail _ (.tail _ (.tail _ (.tail _ (.tail _ (.tail _ (.tail _ (.head _)))))))) sub_nil)))))),?_⟩
      refine da1 (i:=5) (by kernel_rfl) ?_
      refine di (i:=5) rfl<|m_app (α:=(List api_Op)) (xs:=vB12) (ys:=([r70.1]:List (List api_Op))) hF rfl hS Tryd.underlying51 info47 rfl (by decide) rfl rfl rfl (.tail _ (.tail _ (.tail _ (.tail _ (.tail _ (.tail _ (.head _))))))) (hvB16.mono hx78.sub) (hS.rdO (.head _)) hv82 h86 fun oa87 cap88 vs89 w a hv90 hU hF=>?_
      replace hS:=hU _ (.tail (.tail (.tail (.tail (.tail (.tail .head))))))
      clear hU
      replace hS:=hS.drop .head
      refine ⟨fun _=>(St.ldsX hS hx78.sub (sub_cons (.tail _ (.head _)) (sub_cons (.tail _ (.tail _ (.head _))) (sub_cons (.tail _ (.tail _ (.tail _ (.head _)))) (sub_cons (.tail _ (.tail _ (.tail _ (.tail _ (.head _))))) (sub_cons (.tail _ (.tail _ (.tail _ (.tail _ (.tail _ (.tail _ (.head _))))))) sub_nil)))))),?_⟩
      refine d1 (i:=6) rfl (by kernel_rfl) (by kernel_rfl) (St.ldsX hS hx78.sub (sub_cons (.tail _ (.head _)) (sub_cons (.tail _ (.tail _ (.head _))) (sub_cons (.tail _ (.tail _ (.tail _ (.head _)))) (sub_cons (.tail _ (.tail _ (.tail _ (.tail _ (.head _))))) (sub_cons (.tail _ (.tail _ (.tail _ (.tail _ (.tail _ (.tail _ (.head _))))))) sub_nil)))))) hF rfl (fun _ _ _ h=>h) (fun w hl=>(e_fa hF fa53_6 rfl)) fun a hF=>?_
      refine da1 (i:=7) (by kernel_rfl) ?_
      refine di (i:=7) rfl<|s_blk hF hS Tryd.sizeOf51 rfl rfl rfl rfl (.tail (.tail (.tail (.tail (.tail (.tail .head)))))) (.succ (.succ (.succ (.succ (.succ (.succ (.succ (.succ .zero)))))))) fun w hS=>?_
      refine ⟨fun h=>absurd rfl h,?_⟩
      refine de (by kernel_rfl)<|?_
      refine bn<|tn<|?_
      refine rg<|?_
      refine ls<|q1 hF rfl (e_add hF rfl rfl) fun a hF=>?_
      refine ls<|q1 hF rfl (e_move hF rfl) fun a hF=>?_
      refine re<|?_
      refine tn<|?_
      exact ⟨(nn4,r70.2,l85,(IntKind.i64.wrap (vB18+1))),⟨H81,oa87,cap88,vs89,hm,(ExtM.trans hxHB10 hx78),hF.has ⟨rfl,rfl,rfl,rfl,rfl,trivial⟩,hS,hv90⟩,Nat.lt_succ_self _⟩
    ·
      replace hm:=itp_f hm hb69
      refine tn<|th<|cfv hF rfl hb69<|?_
      refine we<|tx<|tx<|bx<|?_
      refine tn<|?_
      exact ⟨vB11,vB12,HB10,oaB13,capB14,vsB15,hm,hxHB10,hF.has ⟨rfl,rfl,rfl,trivial⟩,hS,hvB16⟩
  clear hm hF hS
  rintro a w ⟨vA10,vA11,HA9,oaA12,capA13,vsA14,hm,hxHA9,hF,hS,hvA15⟩
  unfold Zw at hm
  refine th<|?_
  refine rg<|?_
  refine ls<|q1 hF rfl (e_ldA hF Tryd.isAgg53 Tryd.sizeOf53 rfl rfl ((St.ld hS).cellsB (.tail _ (.tail _ (.tail _ (.tail _ (.tail _ (.tail _ (.head _))))))))) fun a hF=>?_
  refine ls<|s_blkA hF hS Tryd.sizeOf53 rfl rfl rfl rfl (one_cells rfl) (.tail .head) fun w hS=>?_
  refine re<|?_
  refine tn<|?_
  refine wr<|?_
  obtain ⟨H94,hx91,hr92,hc93,hS⟩:=St.frzSM hS (.tail (.tail .head)) (hv11.mono (fun b o h=>(fun b o h=>hxHA9.sub b o (hx56.sub b o h)) b o (hxHA1.sub b o h)))
  obtain ⟨H98,hx95,hr96,hc97,hS⟩:=St.frzSM hS (.tail (.tail .head)) (hv22.mono (fun b o h=>(fun b o h=>(fun b o h=>hx91.sub b o (hxHA9.sub b o h)) b o (hx56.sub b o h)) b o (hxHA1.sub b o h)))
  obtain ⟨H102,hx99,hr100,hc101,hS⟩:=St.frzSM hS (.tail (.tail .head)) (hvA7.mono (fun b o h=>(fun b o h=>(fun b o h=>hx95.sub b o (hx91.sub b o h)) b o (hxHA9.sub b o h)) b o (hx56.sub b o h)))
  obtain ⟨H106,hx103,hr104,hc105,hS⟩:=St.frzSM hS (.tail (.tail .head)) (hvA15.mono (fun b o h=>(fun b o h=>hx99.sub b o (hx95.sub b o h)) b o (hx91.sub b o h)))
  obtain rfl:=Option.some.inj hm
  exact bpl (r1c (vs:=[.slice oa8 rz5.1.length cap9,.int .i64 r13.1,.slice oa19 r16.1.length cap20,.int .i64 r24.1,.slice oaA4 vA3.length capA5,.int .i64 r53.1.Regs,.int .i64 r53.1.Counts,.slice oa62 r53.1.L.length cap63,.slice oaA12 vA11.length capA13]) (.inl rfl) hF Tryd.results30 rfl Tryd.isAgg53 Tryd.sizeOf53 rfl ((St.ld hS).cellsB (.tail _ (.head _))) ⟨_,rfl,H106,_,rfl,(show Enc.rep (α:=api_Unit) H106 [.slice oa8 rz5.1.length cap9,.int .i64 r13.1,.slice oa19 r16.1.length cap20,.int .i64 r24.1,.slice oaA4 vA3.length capA5,.int .i64 r53.1.Regs,.int .i64 r53.1.Counts,.slice oa62 r53.1.L.length cap63,.slice oaA12 vA11.length capA13] (api_Unit.mk rz5.1 r13.1 r16.1 r24.1 vA3 r53.1 vA11) from ⟨_,_,rfl,⟨_,_,rfl,hc93,(hr92.mono (fun b o h=>(fun b o h=>hx103.sub b o (hx99.sub b o h)) b o (hx95.sub b o h)))⟩,⟨_,_,rfl,rfl,⟨_,_,rfl,⟨_,_,rfl,hc97,(hr96.mono (fun b o h=>hx103.sub b o (hx99.sub b o h)))⟩,⟨_,_,rfl,rfl,⟨_,_,rfl,⟨_,_,rfl,hc101,(hr100.mono hx103.sub)⟩,⟨_,_,rfl,⟨_,_,rfl,rfl,⟨_,_,rfl,rfl,⟨_,_,rfl,hc64,(hr65.mono (fun b o h=>(fun b o h=>(fun b o h=>(fun b o h=>hx103.sub b o (hx99.sub b o h)) b o (hx95.sub b o h)) b o (hx91.sub b o h)) b o (hxHA9.sub b o h)))⟩⟩⟩,⟨_,_,rfl,hc105,hr104⟩⟩⟩⟩⟩⟩⟩),(ExtM.trans hxHA1 (ExtM.trans hx56 (ExtM.trans hxHA9 (ExtM.trans hx91 (ExtM.trans hx95 (ExtM.trans hx99 hx103)))))),(St.le hS),(St.disL (hS.pickL (.cons .head .nil))),(hS.pickL (.cons .head .nil)).endMut⟩)
set_option maxRecDepth 100000 in
theorem Z0_c {N:Nat} {w0:World} {H:PH} (hH:H.le w0) {p1:Str} {r:(api_Unit×Int)} (hm:Z0 N p1=some r):Tot Tryd.prog 16 #[strv p1] w0 (fun v w'=>∃ (H':PH) (cs0:List Value),v=.tuple #[.agg cs0.toArray,.int .i64 r.2]∧Enc.rep H' cs0 r.1∧Ext w0 H H'∧H'.le w'∧Keep Nil w0 w'):=by
  unfold Z0 at hm
  refine fnD (args:=[strv p1]) (F:=[(0,strv p1)]) Tryd.func16 rfl Tryd.ntmps16 rfl rfl fun a hF=>?_
  have hS:St w0 Nil [H] [] w0:=start1 hH
  refine th<|?_
  refine rg<|?_
  refine ls<|a_alloc (cs:=[.slice none 0 0,.int .i64 0,.slice none 0 0,.int .i64 0,.slice none 0 0,.int .i64 0,.int .i64 0,.slice none 0 0,.slice none 0 0].toArray) hF rfl hS Tryd.zeroValue53 rfl fun b2 w a hS hF=>?_
  refine ls<|a_alloc (cs:=[.int .i64 0].toArray) hF rfl hS Tryd.zeroValue22 rfl fun b3 w a hS hF=>?_
  refine re<|?_
  refine tn<|th<|?_
  refine dfr (vs:=[.pointer (some ⟨b2,0,none⟩),.pointer (some ⟨b3,0,none⟩)]) hF rfl ⟨rfl,rfl,trivial⟩ fun a hF=>?_
  refine tn<|th<|?_
  refine rg<|?_
  refine ls<|q1 hF rfl (e_move hF rfl) fun a hF=>?_
  refine ls<|q1 hF rfl (e_bldK [strv p1] [strv p1,.int .i64 0] hF ⟨rfl,trivial⟩ (fun w=>by kernel_rfl)) fun a hF=>?_
  refine ls<|a_box (cs:=[strv p1,.int .i64 0].toArray) hF rfl hS rfl rfl fun b4 w a hS hF=>?_
  refine ls<|q1 hF rfl (e_asg hF rfl) fun a hF=>?_
  refine re<|?_
  refine tn<|th<|?_
  refine rg<|?_
  refine ls<|q1 hF rfl (e_move hF rfl) fun a hF=>?_
  replace hS:=hS.pickL (.cons .head (.cons .head (.cons .head .nil)))
  replace hS:=St.sep [blk b4 (.cells [strv p1,.int .i64 0].toArray 72 (0,0))] hS
  obtain ⟨ro7,h6,hm⟩:=Option.bindQ_x hm (by simp)
  refine ls<|c1p hF rfl Tryd.call30 (Zu_c (St.le hS) (p1:=(binary_reader.mk p1 0)) (b2:=b4) (St.sepOk hS) (St.sepDis hS) h6) ⟨rfl,trivial⟩ (fun _ _ w hE=>?_) (fun v w a hR hF=>?_)
  ·
    obtain ⟨rfl,hk⟩:=hE
    replace hS:=St.panS hS hk
    clear hk
    obtain rfl:=Option.some.inj hm
    exact tpn<|lvP hF Tryd.call29 (binary_Decode_catch hS (.tail .head) .head rfl) fun w hS=>⟨_,res2ka (vs:=[.slice none 0 0,.int .i64 0,.slice none 0 0,.int .i64 0,.slice none 0 0,.int .i64 0,.int .i64 0,.slice none 0 0,.slice none 0 0]) hF Tryd.results16 rfl rfl Tryd.isAgg53 Tryd.sizeOf53 rfl Tryd.isAgg22 ((St.ld hS).cellsB (.tail _ (.head _))) ((St.ld hS).cellB (.head _) rfl),⟨H,_,rfl,(show Enc.rep (α:=api_Unit) H [.slice none 0 0,.int .i64 0,.slice none 0 0,.int .i64 0,.slice none 0 0,.int .i64 0,.int .i64 0,.slice none 0 0,.slice none 0 0] (api_Unit.mk [] 0 [] 0 [] (api_Code.mk 0 0 []) []) from ⟨_,_,rfl,⟨none,0,rfl,Nat.le_refl _,SR.nil _ _⟩,⟨_,_,rfl,rfl,⟨_,_,rfl,⟨none,0,rfl,Nat.le_refl _,SR.nil _ _⟩,⟨_,_,rfl,rfl,⟨_,_,rfl,⟨none,0,rfl,Nat.le_refl _,SR.nil _ _⟩,⟨_,_,rfl,⟨_,_,rfl,rfl,⟨_,_,rfl,rfl,⟨none,0,rfl,Nat.le_refl _,SR.nil _ _⟩⟩⟩,⟨none,0,rfl,Nat.le_refl _,SR.nil _ _⟩⟩⟩⟩⟩⟩⟩),(Ext.refl _ _),(St.le hS),hS.keep⟩⟩
  obtain ⟨rz5,rfl,hR⟩:=hR
  replace hm:=Option.bindQ_s hm
  obtain ⟨H11,cs12,rfl,g13,hx8,hl9,hd10,hk⟩:=hR
  obtain ⟨hS,hx8⟩:=And.intro (St.mutH hS hk hx8 hl9 hd10) (St.extc0 hS hx8)
  replace hS:=hS.unsep
  clear hk
  have g14:Enc.rep (α:=(List Int)×Int×(List Int)×Int×(List api_Code)×api_Code×(List (List api_Op))) H11 cs12 (rz5.1.Lines,rz5.1.Stays,rz5.1.Firsts,rz5.1.Locks,rz5.1.Threads,rz5.1.Recover,rz5.1.Claims):=g13
  obtain ⟨q15,q16,rfl,g17,g18⟩:=g14
  obtain ⟨oa19,cap20,rfl,hc21,hr22⟩:=g17
  obtain ⟨q23,q24,rfl,g25,g26⟩:=g18
  obtain rfl:q23=[.int .i64 rz5.1.Stays]:=g25
  obtain ⟨q27,q28,rfl,g29,g30⟩:=g26
  obtain ⟨oa31,cap32,rfl,hc33,hr34⟩:=g29
  obtain ⟨q35,q36,rfl,g37,g38⟩:=g30
  obtain rfl:q35=[.int .i64 rz5.1.Locks]:=g37
  obtain ⟨q39,q40,rfl,g41,g42⟩:=g38
  obtain ⟨oa43,cap44,rfl,hc45,hr46⟩:=g41
  obtain ⟨q47,q48,rfl,g49,g50⟩:=g42
  obtain ⟨oa51,cap52,rfl,hc53,hr54⟩:=api_Code_open g49
  obtain ⟨oa55,cap56,rfl,hc57,hr58⟩:=g50
  refine ls<|s_blkA hF hS Tryd.sizeOf53 rfl rfl rfl rfl (one_cells rfl) (.tail (.tail .head)) fun w hS=>?_
  refine re<|?_
  refine tn<|th<|th<|?_
  replace hm:=bind_some hm
  obtain ⟨r59,h60,hm⟩:=hm
  refine rg<|?_
  refine ls<|q1 hF rfl (e_ldA hF Tryd.isAgg53 Tryd.sizeOf53 rfl rfl ((St.ld hS).cellsB (.tail _ (.tail _ (.head _))))) fun a hF=>?_
  refine ls<|c1 hF rfl Tryd.call15 (Z2_c (hp_le _) (Enc.mono (St.up hS) (show Enc.rep (α:=api_Unit) H11 [.slice oa19 rz5.1.Lines.length cap20,.int .i64 rz5.1.Stays,.slice oa31 rz5.1.Firsts.length cap32,.int .i64 rz5.1.Locks,.slice oa43 rz5.1.Threads.length cap44,.int .i64 rz5.1.Recover.Regs,.int .i64 rz5.1.Recover.Counts,.slice oa51 rz5.1.Recover.L.length cap52,.slice oa55 rz5.1.Claims.length cap56] rz5.1 from ⟨_,_,rfl,⟨_,_,rfl,hc21,hr22⟩,⟨_,_,rfl,rfl,⟨_,_,rfl,⟨_,_,rfl,hc33,hr34⟩,⟨_,_,rfl,rfl,⟨_,_,rfl,⟨_,_,rfl,hc45,hr46⟩,⟨_,_,rfl,⟨_,_,rfl,rfl,⟨_,_,rfl,rfl,⟨_,_,rfl,hc53,hr54⟩⟩⟩,⟨_,_,rfl,hc57,hr58⟩⟩⟩⟩⟩⟩⟩)) h60) ⟨rfl,trivial⟩ (fun v w a hR hF=>?_)
  obtain ⟨rfl,hk⟩:=hR
  replace hS:=hS.pass hk
  clear hk
  refine ls<|q1 hF rfl (e_move hF rfl) fun a hF=>?_
  refine ls<|q1 hF rfl (e_ext hF rfl rfl) fun a hF=>?_
  refine ls<|q1 hF rfl (e_ext hF rfl rfl) fun a hF=>?_
  refine ls<|q1 hF rfl (e_asg hF rfl) fun a hF=>?_
  refine ls<|q1 hF rfl (e_asg hF rfl) fun a hF=>?_
  refine re<|?_
  refine tn<|th<|?_
  refine rg<|?_
  refine ls<|q1 hF rfl (e_move hF rfl) fun a hF=>?_
  refine ls<|q1 hF rfl (e_neq hF rfl rfl) fun a hF=>?_
  refine ls<|q1 hF rfl (e_move hF rfl) fun a hF=>?_
  refine grp (N:=⟨27,[dfD 29 [.pointer (some ⟨b2,0,none⟩),.pointer (some ⟨b3,0,none⟩)]],[]⟩) (Fk:=[(2,.pointer (some ⟨b2,0,none⟩)),(3,.pointer (some ⟨b3,0,none⟩)),(24,.bool ((decide (r59.2≠0)) || (decide (r59.1≠p1))))]) (b:=(decide (r59.2≠0))) 4 hS ?_ ?_ ?_
  ·
    intro hb key
    replace hF:=Fr.as hF (t:=20) rfl (congrArg Value.bool hb)
    refine ls<|gn hF rfl rfl rfl rfl fun a hF=>?_
    refine ls<|gn hF rfl rfl rfl rfl fun a hF=>?_
    refine ls<|gn hF rfl rfl rfl rfl fun a hF=>?_
    refine ls<|q1 hF rfl (e_as (v':=.bool ((decide (r59.2≠0)) || (decide (r59.1≠p1)))) (e_pickT hF rfl rfl) (by rw [hb];rfl)) fun a hF=>?_
    exact key _ _ (hF.has ⟨rfl,rfl,rfl,trivial⟩) hS
  ·
    intro hb key
    replace hF:=Fr.as hF (t:=20) rfl (congrArg Value.bool hb)
    refine ls<|gy hF rfl rfl<|q1 hF rfl (e_move hF rfl) fun a hF=>?_
    refine ls<|gy hF rfl rfl<|q1 hF rfl (e_move hF rfl) fun a hF=>?_
    refine ls<|gy hF rfl rfl<|q1 hF rfl (e_neqU (m:=r59.1) (n:=p1) hF rfl rfl) fun a hF=>?_
    refine ls<|q1 hF rfl (e_as (v':=.bool ((decide (r59.2≠0)) || (decide (r59.1≠p1)))) (e_pickF hF rfl rfl) (by rw [hb];rfl)) fun a hF=>?_
    exact key _ _ (hF.has ⟨rfl,rfl,rfl,trivial⟩) hS
  intro a w hF hS
  refine re<|?_
  rcases bdich ((decide (r59.2≠0)) || (decide (r59.1≠p1))) with hb61 | hb61
  ·
    replace hm:=ite_t hm hb61
    refine tn<|ctv hF rfl hb61<|?_
    refine rg<|?_
    refine ls<|q1 hF rfl (e_mki hF (mki22 _) rfl) fun a hF=>?_
    refine ls<|pnq hF rfl ?_
    obtain rfl:=Option.some.inj hm
    exact tpn<|lvP hF Tryd.call29 (binary_Decode_catch hS (.tail (.tail .head)) (.tail .head) rfl) fun w hS=>⟨_,res2ka (vs:=[.slice none 0 0,.int .i64 0,.slice none 0 0,.int .i64 0,.slice none 0 0,.int .i64 0,.int .i64 0,.slice none 0 0,.slice none 0 0]) hF Tryd.results16 rfl rfl Tryd.isAgg53 Tryd.sizeOf53 rfl Tryd.isAgg22 ((St.ld hS).cellsB (.tail _ (.tail _ (.head _)))) ((St.ld hS).cellB (.tail _ (.head _)) rfl),⟨H11,_,rfl,(show Enc.rep (α:=api_Unit) H11 [.slice none 0 0,.int .i64 0,.slice none 0 0,.int .i64 0,.slice none 0 0,.int .i64 0,.int .i64 0,.slice none 0 0,.slice none 0 0] (api_Unit.mk [] 0 [] 0 [] (api_Code.mk 0 0 []) []) from ⟨_,_,rfl,⟨none,0,rfl,Nat.le_refl _,SR.nil _ _⟩,⟨_,_,rfl,rfl,⟨_,_,rfl,⟨none,0,rfl,Nat.le_refl _,SR.nil _ _⟩,⟨_,_,rfl,rfl,⟨_,_,rfl,⟨none,0,rfl,Nat.le_refl _,SR.nil _ _⟩,⟨_,_,rfl,⟨_,_,rfl,rfl,⟨_,_,rfl,rfl,⟨none,0,rfl,Nat.le_refl _,SR.nil _ _⟩⟩⟩,⟨none,0,rfl,Nat.le_refl _,SR.nil _ _⟩⟩⟩⟩⟩⟩⟩),hx8,(St.le hS),hS.keep⟩⟩
  ·
    replace hm:=ite_f hm hb61
    refine tn<|cfv hF rfl hb61<|wk<|?_
    refine tn<|th<|?_
    refine rg<|?_
    refine ls<|q1 hF rfl (e_ldA hF Tryd.isAgg53 Tryd.sizeOf53 rfl rfl ((St.ld hS).cellsB (.tail _ (.tail _ (.head _))))) fun a hF=>?_
    refine ls<|s_blkA hF hS Tryd.sizeOf53 rfl rfl rfl rfl (one_cells rfl) (.tail (.tail .head)) fun w hS=>?_
    refine ls<|s_blk hF hS Tryd.sizeOf22 rfl rfl rfl rfl (.tail .head) .zero fun w hS=>?_
    refine re<|?_
    refine tn<|?_
    refine wr<|?_
    obtain rfl:=Option.some.inj hm
    exact lvR hF Tryd.call29 (binary_Decode_idle _ _ _) (res2ka (vs:=[.slice oa19 rz5.1.Lines.length cap20,.int .i64 rz5.1.Stays,.slice oa31 rz5.1.Firsts.length cap32,.int .i64 rz5.1.Locks,.slice oa43 rz5.1.Threads.length cap44,.int .i64 rz5.1.Recover.Regs,.int .i64 rz5.1.Recover.Counts,.slice oa51 rz5.1.Recover.L.length cap52,.slice oa55 rz5.1.Claims.length cap56]) hF Tryd.results16 rfl rfl Tryd.isAgg53 Tryd.sizeOf53 rfl Tryd.isAgg22 ((St.ld hS).cellsB (.tail _ (.tail _ (.head _)))) ((St.ld hS).cellB (.tail _ (.head _)) rfl)) ⟨H11,_,rfl,(show Enc.rep (α:=api_Unit) H11 [.slice oa19 rz5.1.Lines.length cap20,.int .i64 rz5.1.Stays,.slice oa31 rz5.1.Firsts.length cap32,.int .i64 rz5.1.Locks,.slice oa43 rz5.1.Threads.length cap44,.int .i64 rz5.1.Recover.Regs,.int .i64 rz5.1.Recover.Counts,.slice oa51 rz5.1.Recover.L.length cap52,.slice oa55 rz5.1.Claims.length cap56] rz5.1 from ⟨_,_,rfl,⟨_,_,rfl,hc21,hr22⟩,⟨_,_,rfl,rfl,⟨_,_,rfl,⟨_,_,rfl,hc33,hr34⟩,⟨_,_,rfl,rfl,⟨_,_,rfl,⟨_,_,rfl,hc45,hr46⟩,⟨_,_,rfl,⟨_,_,rfl,rfl,⟨_,_,rfl,rfl,⟨_,_,rfl,hc53,hr54⟩⟩⟩,⟨_,_,rfl,hc57,hr58⟩⟩⟩⟩⟩⟩⟩),hx8,(St.le hS),hS.keep⟩
set_option maxRecDepth 100000 in
theorem Z2d_c {N:Nat} {w0:World} {H:PH} (hH:H.le w0) {cs2:List Value} {p1:api_Unit} (g3:Enc.rep H cs2 p1) {r:Int} (hm:Z2d N p1=some r):Tot Tryd.prog 57 #[.agg cs2.toArray] w0 (fun v w'=>v=.int .i64 r∧Keep Nil w0 w'):=by
  unfold Z2d at hm
  refine fn0 (args:=[.agg cs2.toArray]) (F:=[(0,.agg cs2.toArray)]) Tryd.func57 rfl Tryd.ntmps57 rfl rfl fun a hF=>?_
  have hS:St w0 Nil [H] [] w0:=start1 hH
  have g4:Enc.rep (α:=(List Int)×Int×(List Int)×Int×(List api_Code)×api_Code×(List (List api_Op))) H cs2 (p1.Lines,p1.Stays,p1.Firsts,p1.Locks,p1.Threads,p1.Recover,p1.Claims):=g3
  obtain ⟨qz5,qz6,rfl,g7,g8⟩:=g4
  obtain ⟨oa9,cap10,rfl,hc11,hr12⟩:=g7
  obtain ⟨q13,q14,rfl,g15,g16⟩:=g8
  obtain rfl:q13=[.int .i64 p1.Stays]:=g15
  obtain ⟨q17,q18,rfl,g19,g20⟩:=g16
  obtain ⟨oa21,cap22,rfl,hc23,hr24⟩:=g19
  obtain ⟨q25,q26,rfl,g27,g28⟩:=g20
  obtain rfl:q25=[.int .i64 p1.Locks]:=g27
  obtain ⟨q29,q30,rfl,g31,g32⟩:=g28
  obtain ⟨oa33,cap34,rfl,hc35,hr36⟩:=g31
  obtain ⟨q37,q38,rfl,g39,g40⟩:=g32
  obtain ⟨oa41,cap42,rfl,hc43,hr44⟩:=api_Code_open g39
  obtain ⟨oa45,cap46,rfl,hc47,hr48⟩:=g40
  refine th<|?_
  refine rg<|?_
  refine ls<|a_box (cs:=[.slice oa9 p1.Lines.length cap10,.int .i64 p1.Stays,.slice oa21 p1.Firsts.length cap22,.int .i64 p1.Locks,.slice oa33 p1.Threads.length cap34,.int .i64 p1.Recover.Regs,.int .i64 p1.Recover.Counts,.slice oa41 p1.Recover.L.length cap42,.slice oa45 p1.Claims.length cap46].toArray) hF rfl hS rfl rfl fun b49 w a hS hF=>?_
  refine ls<|q1 hF rfl (e_asg hF rfl) fun a hF=>?_
  refine re<|?_
  refine tn<|th<|th<|?_
  refine rg<|?_
  refine ls<|q1 hF rfl (e_fa hF fa53_1 rfl) fun a hF=>?_
  refine ls<|q1 hF rfl (e_ld hF Tryd.isAgg3 rfl ((St.ld hS).cellB (.head _) rfl)) fun a hF=>?_
  refine ls<|q1 hF rfl (e_geq hF rfl rfl) fun a hF=>?_
  refine ls<|q1 hF rfl (e_move hF rfl) fun a hF=>?_
  refine grp (N:=22) (Fk:=[(1,.pointer (some ⟨b49,0,none⟩)),(13,.bool ((decide (1≤p1.Stays)) && (decide (p1.Stays≤(p1.Lines.length:Int)))))]) (b:=(decide (1≤p1.Stays))) 7 hS ?_ ?_ ?_
  ·
    intro hb key
    replace hF:=Fr.as hF (t:=6) rfl (congrArg Value.bool hb)
    refine ls<|gy hF rfl rfl<|q1 hF rfl (e_fa hF fa53_1 rfl) fun a hF=>?_
    refine ls<|gy hF rfl rfl<|q1 hF rfl (e_ld hF Tryd.isAgg3 rfl ((St.ld hS).cellB (.head _) rfl)) fun a hF=>?_
    refine ls<|gy hF rfl rfl<|q1 hF rfl (e_fa hF fa53_0 rfl) fun a hF=>?_
    refine ls<|gy hF rfl rfl<|q1 hF rfl (e_ld hF Tryd.isAgg28 rfl ((St.ld hS).cellB (.head _) rfl)) fun a hF=>?_
    refine ls<|gy hF rfl rfl<|q1 hF rfl (e_lenL (α:=Int) (xs:=p1.Lines) hF Tryd.runUnderlying28 rfl) fun a hF=>?_
    refine ls<|gy hF rfl rfl<|q1 hF rfl (e_leq hF rfl rfl) fun a hF=>?_
    refine ls<|q1 hF rfl (e_as (v':=.bool ((decide (1≤p1.Stays)) && (decide (p1.Stays≤(p1.Lines.length:Int))))) (e_pickT hF rfl rfl) (by rw [hb];rfl)) fun a hF=>?_
    exact key _ _ (hF.has ⟨rfl,rfl,trivial⟩) hS
  ·
    intro hb key
    replace hF:=Fr.as hF (t:=6) rfl (congrArg Value.bool hb)
    refine ls<|gn hF rfl rfl rfl rfl fun a hF=>?_
    refine ls<|gn hF rfl rfl rfl rfl fun a hF=>?_
    refine ls<|gn hF rfl rfl rfl rfl fun a hF=>?_
    refine ls<|gn hF rfl rfl rfl rfl fun a hF=>?_
    refine ls<|gn hF rfl rfl rfl rfl fun a hF=>?_
    refine ls<|gn hF rfl rfl rfl rfl fun a hF=>?_
    refine ls<|q1 hF rfl (e_as (v':=.bool ((decide (1≤p1.Stays)) && (decide (p1.Stays≤(p1.Lines.length:Int))))) (e_pickF hF rfl rfl) (by rw [hb];rfl)) fun a hF=>?_
    exact key _ _ (hF.has ⟨rfl,rfl,trivial⟩) hS
  intro a w hF hS
  refine re<|?_
  rcases bdich ((decide (1≤p1.Stays)) && (decide (p1.Stays≤(p1.Lines.length:Int)))) with hb50 | hb50
  ·
    replace hm:=ite_t hm hb50
    refine tn<|ctv hF rfl hb50<|th<|?_
    replace hm:=bind_some hm
    obtain ⟨x51,h52,hm⟩:=hm
    obtain ⟨c53,g54,hl55⟩:=SR.get hr12 h52
    obtain rfl:c53=[.int .i64 x51]:=g54
    refine rg<|?_
    refine ls<|q1 hF rfl (e_fa hF fa53_0 rfl) fun a hF=>?_
    refine ls<|q1 hF rfl (e_ld hF Tryd.isAgg28 rfl ((St.ld hS).cellB (.head _) rfl)) fun a hF=>?_
    refine ls<|q1 hF rfl (e_fa hF fa53_1 rfl) fun a hF=>?_
    refine ls<|q1 hF rfl (e_ld hF Tryd.isAgg3 rfl ((St.ld hS).cellB (.head _) rfl)) fun a hF=>?_
    refine ls<|q1 hF rfl (e_sub hF rfl rfl) fun a hF=>?_
    refine ls<|q1 hF rfl (e_iaI hF Tryd.runUnderlying28 Tryd.sizeOf3 rfl rfl h52 (SR.oaI hr12 (by decide) h52)) fun a hF=>?_
    refine ls<|q1 hF rfl (e_ld hF Tryd.isAgg3 rfl (PH.le.cell (Lds.le (St.ld hS)) (hl55 0 _ rfl))) fun a hF=>?_
    refine ls<|q1 hF rfl (e_add hF rfl rfl) fun a hF=>?_
    refine ls<|q1 hF rfl (e_asg hF rfl) fun a hF=>?_
    refine re<|?_
    refine tn<|?_
    refine wr<|tr<|?_
    obtain rfl:=Option.some.inj hm
    exact r1 hF Tryd.results57 rfl ⟨rfl,hS.keep⟩
  ·
    replace hm:=ite_f hm hb50
    refine tn<|cfv hF rfl hb50<|wk<|?_
    refine tn<|th<|?_
    refine rg<|?_
    refine ls<|q1 hF rfl (e_asg hF rfl) fun a hF=>?_
    refine re<|?_
    refine tn<|?_
    refine wr<|?_
    obtain rfl:=Option.some.inj hm
    exact r1 hF Tryd.results57 rfl ⟨rfl,hS.keep⟩
set_option maxRecDepth 100000 in
theorem Z31_c {N:Nat} {w0:World} {H:PH} (hH:H.le w0) {p1:Int} {p2:Int} {r:Bool} (hm:Z31 N p1 p2=some r):Tot Tryd.prog 87 #[.int .i64 p1,.int .i64 p2] w0 (fun v w'=>v=.bool r∧Keep Nil w0 w'):=by
  unfold Z31 at hm
  refine fn0 (args:=[.int .i64 p1,.int .i64 p2]) (F:=[(0,.int .i64 p1),(1,.int .i64 p2)]) Tryd.func87 rfl Tryd.ntmps87 rfl rfl fun a hF=>?_
  have hS:St w0 Nil [H] [] w0:=start1 hH
  refine th<|?_
  refine rg<|?_
  refine ls<|q1 hF rfl (e_asg hF rfl) fun a hF=>?_
  refine re<|?_
  refine tn<|th<|?_
  refine rg<|?_
  refine ls<|q1 hF rfl (e_move hF rfl) fun a hF=>?_
  refine ls<|q1 hF rfl (e_geq hF rfl rfl) fun a hF=>?_
  refine ls<|q1 hF rfl (e_move hF rfl) fun a hF=>?_
  refine grp (N:=12) (Fk:=[(11,.bool ((decide (0≤p1)) && (decide (p1 < p2))))]) (b:=(decide (0≤p1))) 4 hS ?_ ?_ ?_
  ·
    intro hb key
    replace hF:=Fr.as hF (t:=7) rfl (congrArg Value.bool hb)
    refine ls<|gy hF rfl rfl<|q1 hF rfl (e_move hF rfl) fun a hF=>?_
    refine ls<|gy hF rfl rfl<|q1 hF rfl (e_move hF rfl) fun a hF=>?_
    refine ls<|gy hF rfl rfl<|q1 hF rfl (e_lss hF rfl rfl) fun a hF=>?_
    refine ls<|q1 hF rfl (e_as (v':=.bool ((decide (0≤p1)) && (decide (p1 < p2)))) (e_pickT hF rfl rfl) (by rw [hb];rfl)) fun a hF=>?_
    exact key _ _ (hF.has ⟨rfl,trivial⟩) hS
  ·
    intro hb key
    replace hF:=Fr.as hF (t:=7) rfl (congrArg Value.bool hb)
    refine ls<|gn hF rfl rfl rfl rfl fun a hF=>?_
    refine ls<|gn hF rfl rfl rfl rfl fun a hF=>?_
    refine ls<|gn hF rfl rfl rfl rfl fun a hF=>?_
    refine ls<|q1 hF rfl (e_as (v':=.bool ((decide (0≤p1)) && (decide (p1 < p2)))) (e_pickF hF rfl rfl) (by rw [hb];rfl)) fun a hF=>?_
    exact key _ _ (hF.has ⟨rfl,trivial⟩) hS
  intro a w hF hS
  refine ls<|q1 hF rfl (e_asg hF rfl) fun a hF=>?_
  refine re<|?_
  refine tn<|?_
  refine wr<|?_
  obtain rfl:=Option.some.inj hm
  exact r1 hF Tryd.results87 rfl ⟨rfl,hS.keep⟩
set_option maxRecDepth 100000 in
theorem Z1y_c {N:Nat} {w0:World} {H:PH} (hH:H.le w0) {oa2:Option Addr} {cap3:Nat} {p1:(List api_Op)} (hc4:p1.length≤cap3) (hr5:SR H oa2 p1) {p6:Int} {r:Int} (hm:Z1y N p1 p6=some r):Tot Tryd.prog 78 #[.slice oa2 p1.length cap3,.int .i64 p6] w0 (fun v w'=>v=.int .i64 r∧Keep Nil w0 w'):=by
  unfold Z1y at hm
  refine fn0 (args:=[.slice oa2 p1.length cap3,.int .i64 p6]) (F:=[(0,.slice oa2 p1.length cap3),(1,.int .i64 p6)]) Tryd.func78 rfl Tryd.ntmps78 rfl rfl fun a hF=>?_
  have hS:St w0 Nil [H] [] w0:=start1 hH
  refine th<|?_
  refine rg<|?_
  refine ls<|q1 hF rfl (e_asg hF rfl) fun a hF=>?_
  refine re<|?_
  refine tn<|th<|?_
  refine rg<|?_
  refine ls<|q1 hF rfl (e_asg hF rfl) fun a hF=>?_
  refine re<|?_
  refine tn<|th<|th<|?_
  refine rg<|?_
  refine ls<|q1 hF rfl (e_asg hF rfl) fun a hF=>?_
  refine re<|?_
  refine tn<|midK (fun a w=>∃ (vA1:Int),Z1z vA1=some r∧Fr 49 [(5,.int .i64 vA1)] a∧St w0 Nil [H] [] w) ?_ ?_
  ·
    refine wb<|lp (α:=Nat×Int×Int) (fun (gh:Nat×Int×Int) a w=>match gh with | (nn2,vB1,vB2)=>(Z22 N Z1z p1 p6) nn2 vB1 vB2=some r∧Fr 49 [(0,.slice oa2 p1.length cap3),(1,.int .i64 p6),(5,.int .i64 vB1),(6,.int .i64 vB2)] a∧St w0 Nil [H] [] w) (fun gh=>gh.1) (N,0,0) ⟨hm,hF.has ⟨rfl,rfl,rfl,rfl,trivial⟩,hS⟩ ?_
    clear hm hF hS
    rintro ⟨nn2,vB1,vB2⟩ a w ⟨hm,hF,hS⟩
    obtain _ | nn2:=nn2
    · simp [Z22] at hm
    rw [Z22] at hm
    refine th<|th<|?_
    refine rg<|?_
    refine ls<|q1 hF rfl (e_move hF rfl) fun a hF=>?_
    refine ls<|q1 hF rfl (e_move hF rfl) fun a hF=>?_
    refine ls<|q1 hF rfl (e_lss hF rfl rfl) fun a hF=>?_
    refine re<|?_
    rcases bdich (decide (vB2 < p6)) with hb7 | hb7
    ·
      replace hm:=itp_t hm hb7
      refine tn<|ctv hF rfl hb7<|wk<|?_
      refine tn<|th<|wb<|th<|th<|?_
      replace hm:=bind_some hm
      obtain ⟨xz8,h9,hm⟩:=hm
      obtain ⟨c10,g11,hl12⟩:=SR.get hr5 h9
      obtain rfl:=api_Op_open g11
      refine rg<|?_
      refine ls<|q1 hF rfl (e_move hF rfl) fun a hF=>?_
      refine ls<|q1 hF rfl (e_move hF rfl) fun a hF=>?_
      refine ls<|q1 hF rfl (e_iaI hF Tryd.runUnderlying47 Tryd.sizeOf46 rfl rfl h9 (SR.oaI hr5 (by decide) h9)) fun a hF=>?_
      refine ls<|q1 hF rfl (e_fa hF fa46_0 rfl) fun a hF=>?_
      refine ls<|q1 hF rfl (e_ld hF Tryd.isAgg3 rfl (PH.le.cell (Lds.le (St.ld hS)) (hl12 0 _ rfl))) fun a hF=>?_
      refine ls<|q1 hF rfl (e_eql hF rfl rfl) fun a hF=>?_
      refine ls<|q1 hF rfl (e_move hF rfl) fun a hF=>?_
      refine grp (N:=49) (Fk:=[(0,.slice oa2 p1.length cap3),(1,.int .i64 p6),(5,.int .i64 vB1),(6,.int .i64 vB2),(25,.bool ((decide (xz8.Kind=3)) || (decide (xz8.Kind=4))))]) (b:=(decide (xz8.Kind=3))) 7 hS ?_ ?_ ?_
      ·
        intro hb key
        replace hF:=Fr.as hF (t:=18) rfl (congrArg Value.bool hb)
        refine ls<|gn hF rfl rfl rfl rfl fun a hF=>?_
        refine ls<|gn hF rfl rfl rfl rfl fun a hF=>?_
        refine ls<|gn hF rfl rfl rfl rfl fun a hF=>?_
        refine ls<|gn hF rfl rfl rfl rfl fun a hF=>?_
        refine ls<|gn hF rfl rfl rfl rfl fun a hF=>?_
        refine ls<|gn hF rfl rfl rfl rfl fun a hF=>?_
        refine ls<|q1 hF rfl (e_as (v':=.bool ((decide (xz8.Kind=3)) || (decide (xz8.Kind=4)))) (e_pickT hF rfl rfl) (by rw [hb];rfl)) fun a hF=>?_
        exact key _ _ (hF.has ⟨rfl,rfl,rfl,rfl,rfl,trivial⟩) hS
      ·
        intro hb key
        replace hF:=Fr.as hF (t:=18) rfl (congrArg Value.bool hb)
        refine ls<|gy hF rfl rfl<|q1 hF rfl (e_move hF rfl) fun a hF=>?_
        refine ls<|gy hF rfl rfl<|q1 hF rfl (e_move hF rfl) fun a hF=>?_
        refine ls<|gy hF rfl rfl<|q1 hF rfl (e_iaI hF Tryd.runUnderlying47 Tryd.sizeOf46 rfl rfl h9 (SR.oaI hr5 (by decide) h9)) fun a hF=>?_
        refine ls<|gy hF rfl rfl<|q1 hF rfl (e_fa hF fa46_0 rfl) fun a hF=>?_
        refine ls<|gy hF rfl rfl<|q1 hF rfl (e_ld hF Tryd.isAgg3 rfl (PH.le.cell (Lds.le (St.ld hS)) (hl12 0 _ rfl))) fun a hF=>?_
        refine ls<|gy hF rfl rfl<|q1 hF rfl (e_eql hF rfl rfl) fun a hF=>?_
        refine ls<|q1 hF rfl (e_as (v':=.bool ((decide (xz8.Kind=3)) || (decide (xz8.Kind=4)))) (e_pickF hF rfl rfl) (by rw [hb];rfl)) fun a hF=>?_
        exact key _ _ (hF.has ⟨rfl,rfl,rfl,rfl,rfl,trivial⟩) hS
      intro a w hF hS
      refine re<|?_
      refine tn<|midK (fun a w=>∃ (vC1:Int),(Z20 (Z22 N Z1z p1 p6 nn2) xz8 vB2) vC1=some r∧Fr 49 [(0,.slice oa2 p1.length cap3),(1,.int .i64 p6),(5,.int .i64 vC1),(6,.int .i64 vB2)] a∧St w0 Nil [H] [] w) ?_ ?_
      ·
        rcases bdich ((decide (xz8.Kind=3)) || (decide (xz8.Kind=4))) with hb13 | hb13
        ·
          replace hm:=ite_t hm hb13
          refine ctv hF rfl hb13<|?_
          refine rg<|?_
          refine ls<|q1 hF rfl (e_move hF rfl) fun a hF=>?_
          refine ls<|q1 hF rfl (e_sub hF rfl rfl) fun a hF=>?_
          refine ls<|q1 hF rfl (e_asg hF rfl) fun a hF=>?_
          refine re<|?_
          refine tn<|?_
          exact ⟨(IntKind.i64.wrap (vB1 - 1)),hm,hF.has ⟨rfl,rfl,rfl,rfl,trivial⟩,hS⟩
        ·
          replace hm:=ite_f hm hb13
          refine cfv hF rfl hb13<|wk<|?_
          refine tn<|?_
          exact ⟨vB1,hm,hF.has ⟨rfl,rfl,rfl,rfl,trivial⟩,hS⟩
      clear hm hF hS
      rintro a w ⟨vC1,hm,hF,hS⟩
      unfold Z20 at hm
      refine th<|th<|?_
      refine rg<|?_
      refine ls<|q1 hF rfl (e_move hF rfl) fun a hF=>?_
      refine ls<|q1 hF rfl (e_move hF rfl) fun a hF=>?_
      refine ls<|q1 hF rfl (e_iaI hF Tryd.runUnderlying47 Tryd.sizeOf46 rfl rfl h9 (SR.oaI hr5 (by decide) h9)) fun a hF=>?_
      refine ls<|q1 hF rfl (e_fa hF fa46_0 rfl) fun a hF=>?_
      refine ls<|q1 hF rfl (e_ld hF Tryd.isAgg3 rfl (PH.le.cell (Lds.le (St.ld hS)) (hl12 0 _ rfl))) fun a hF=>?_
      refine ls<|q1 hF rfl (e_geq hF rfl rfl) fun a hF=>?_
      refine ls<|q1 hF rfl (e_move hF rfl) fun a hF=>?_
      refine grp (N:=49) (Fk:=[(0,.slice oa2 p1.length cap3),(1,.int .i64 p6),(5,.int .i64 vC1),(6,.int .i64 vB2),(41,.bool ((decide (5≤xz8.Kind)) && (decide (xz8.Kind≤15))))]) (b:=(decide (5≤xz8.Kind))) 7 hS ?_ ?_ ?_
      ·
        intro hb key
        replace hF:=Fr.as hF (t:=34) rfl (congrArg Value.bool hb)
        refine ls<|gy hF rfl rfl<|q1 hF rfl (e_move hF rfl) fun a hF=>?_
        refine ls<|gy hF rfl rfl<|q1 hF rfl (e_move hF rfl) fun a hF=>?_
        refine ls<|gy hF rfl rfl<|q1 hF rfl (e_iaI hF Tryd.runUnderlying47 Tryd.sizeOf46 rfl rfl h9 (SR.oaI hr5 (by decide) h9)) fun a hF=>?_
        refine ls<|gy hF rfl rfl<|q1 hF rfl (e_fa hF fa46_0 rfl) fun a hF=>?_
        refine ls<|gy hF rfl rfl<|q1 hF rfl (e_ld hF Tryd.isAgg3 rfl (PH.le.cell (Lds.le (St.ld hS)) (hl12 0 _ rfl))) fun a hF=>?_
        refine ls<|gy hF rfl rfl<|q1 hF rfl (e_leq hF rfl rfl) fun a hF=>?_
        refine ls<|q1 hF rfl (e_as (v':=.bool ((decide (5≤xz8.Kind)) && (decide (xz8.Kind≤15)))) (e_pickT hF rfl rfl) (by rw [hb];rfl)) fun a hF=>?_
        exact key _ _ (hF.has ⟨rfl,rfl,rfl,rfl,rfl,trivial⟩) hS
      ·
        intro hb key
        replace hF:=Fr.as hF (t:=34) rfl (congrArg Value.bool hb)
        refine ls<|gn hF rfl rfl rfl rfl fun a hF=>?_
        refine ls<|gn hF rfl rfl rfl rfl fun a hF=>?_
        refine ls<|gn hF rfl rfl rfl rfl fun a hF=>?_
        refine ls<|gn hF rfl rfl rfl rfl fun a hF=>?_
        refine ls<|gn hF rfl rfl rfl rfl fun a hF=>?_
        refine ls<|gn hF rfl rfl rfl rfl fun a hF=>?_
        refine ls<|q1 hF rfl (e_as (v':=.bool ((decide (5≤xz8.Kind)) && (decide (xz8.Kind≤15)))) (e_pickF hF rfl rfl) (by rw [hb];rfl)) fun a hF=>?_
        exact key _ _ (hF.has ⟨rfl,rfl,rfl,rfl,rfl,trivial⟩) hS
      intro a w hF hS
      refine re<|?_
      refine tn<|midK (fun a w=>∃ (vC2:Int),(Z21 (Z22 N Z1z p1 p6 nn2) vB2) vC2=some r∧Fr 49 [(0,.slice oa2 p1.length cap3),(1,.int .i64 p6),(5,.int .i64 vC2),(6,.int .i64 vB2)] a∧St w0 Nil [H] [] w) ?_ ?_
      ·
        rcases bdich ((decide (5≤xz8.Kind)) && (decide (xz8.Kind≤15))) with hb14 | hb14
        ·
          replace hm:=ite_t hm hb14
          refine ctv hF rfl hb14<|?_
          refine rg<|?_
          refine ls<|q1 hF rfl (e_move hF rfl) fun a hF=>?_
          refine ls<|q1 hF rfl (e_sub hF rfl rfl) fun a hF=>?_
          refine ls<|q1 hF rfl (e_asg hF rfl) fun a hF=>?_
          refine re<|?_
          refine tn<|?_
          exact ⟨(IntKind.i64.wrap (vC1 - 2)),hm,hF.has ⟨rfl,rfl,rfl,rfl,trivial⟩,hS⟩
        ·
          replace hm:=ite_f hm hb14
          refine cfv hF rfl hb14<|wk<|?_
          refine tn<|?_
          exact ⟨vC1,hm,hF.has ⟨rfl,rfl,rfl,rfl,trivial⟩,hS⟩
      clear hm hF hS
      rintro a w ⟨vC2,hm,hF,hS⟩
      unfold Z21 at hm
      refine th<|th<|?_
      refine rg<|?_
      refine ls<|q1 hF rfl (e_move hF rfl) fun a hF=>?_
      refine ls<|q1 hF rfl (e_lss hF rfl rfl) fun a hF=>?_
      refine re<|?_
      rcases bdich (decide (vC2 < 0)) with hb15 | hb15
      ·
        replace hm:=itp_t hm hb15
        refine tn<|ctv hF rfl hb15<|th<|?_
        refine rg<|?_
        refine ls<|q1 hF rfl (e_asg hF rfl) fun a hF=>?_
        refine re<|?_
        refine tn<|?_
        refine wr<|tr<|br<|tr<|tr<|br<|tr<|?_
        obtain rfl:=Option.some.inj hm
        exact r1 hF Tryd.results78 rfl ⟨rfl,hS.keep⟩
      ·
        replace hm:=itp_f hm hb15
        refine tn<|cfv hF rfl hb15<|wk<|?_
        refine tn<|?_
        refine rg<|?_
        refine ls<|q1 hF rfl (e_move hF rfl) fun a hF=>?_
        refine ls<|q1 hF rfl (e_add hF rfl rfl) fun a hF=>?_
        refine ls<|q1 hF rfl (e_asg hF rfl) fun a hF=>?_
        refine re<|?_
        refine bn<|tn<|?_
        refine rg<|?_
        refine ls<|q1 hF rfl (e_move hF rfl) fun a hF=>?_
        refine ls<|q1 hF rfl (e_add hF rfl rfl) fun a hF=>?_
        refine ls<|q1 hF rfl (e_asg hF rfl) fun a hF=>?_
        refine re<|?_
        refine tn<|?_
        exact ⟨(nn2,(IntKind.i64.wrap (vC2+1)),(IntKind.i64.wrap (vB2+1))),⟨hm,hF.has ⟨rfl,rfl,rfl,rfl,trivial⟩,hS⟩,Nat.lt_succ_self _⟩
    ·
      replace hm:=itp_f hm hb7
      refine tn<|cfv hF rfl hb7<|?_
      refine we<|tx<|tx<|bx<|?_
      refine tn<|?_
      exact ⟨vB1,hm,hF.has ⟨rfl,trivial⟩,hS⟩
  clear hm hF hS
  rintro a w ⟨vA1,hm,hF,hS⟩
  unfold Z1z at hm
  refine th<|?_
  refine rg<|?_
  refine ls<|q1 hF rfl (e_move hF rfl) fun a hF=>?_
  refine ls<|q1 hF rfl (e_asg hF rfl) fun a hF=>?_
  refine re<|?_
  refine tn<|?_
  refine wr<|?_
  obtain rfl:=Option.some.inj hm
  exact r1 hF Tryd.results78 rfl ⟨rfl,hS.keep⟩
set_option maxHeartbeats 4000000 in
set_option maxRecDepth 100000 in
theorem Z1s_c {N:Nat} {w0:World} {H:PH} (hH:H.le w0) {oa2:Option Addr} {cap3:Nat} {p1:(List api_Op)} (hc4:p1.length≤cap3) (hr5:SR H oa2 p1) {p6:Int} {r:Bool} (hm:Z1s N p1 p6=some r):Tot Tryd.prog 58 #[.slice oa2 p1.length cap3,.int .i64 p6] w0 (fun v w'=>v=.bool r∧Keep Nil w0 w'):=by
  unfold Z1s at hm
  refine fn0 (args:=[.slice oa2 p1.length cap3,.int .i64 p6]) (F:=[(0,.slice oa2 p1.length cap3),(1,.int .i64 p6)]) Tryd.func58 rfl Tryd.ntmps58 rfl rfl fun a hF=>?_
  have hS:St w0 Nil [H] [] w0:=start1 hH
  refine th<|?_
  refine rg<|?_
  refine ls<|q1 hF rfl (e_asg hF rfl) fun a hF=>?_
  refine re<|?_
  refine tn<|th<|th<|?_
  refine rg<|?_
  refine ls<|q1 hF rfl (e_asg hF rfl) fun a hF=>?_
  refine re<|?_
  refine tn<|midK (fun a w=>(Z1t N p1)=some r∧Fr 78 [(0,.slice oa2 p1.length cap3)] a∧St w0 Nil [H] [] w) ?_ ?_
  ·
    refine wb<|lp (α:=Nat×Int) (fun (gh:Nat×Int) a w=>match gh with | (nn2,vB1)=>(Z1u N (Z1t N p1) p1 p6) nn2 vB1=some r∧Fr 78 [(0,.slice oa2 p1.length cap3),(1,.int .i64 p6),(5,.int .i64 vB1)] a∧St w0 Nil [H] [] w) (fun gh=>gh.1) (N,0) ⟨hm,hF.has ⟨rfl,rfl,rfl,trivial⟩,hS⟩ ?_
    clear hm hF hS
    rintro ⟨nn2,vB1⟩ a w ⟨hm,hF,hS⟩
    obtain _ | nn2:=nn2
    · simp [Z1u] at hm
    rw [Z1u] at hm
    refine th<|th<|?_
    refine rg<|?_
    refine ls<|q1 hF rfl (e_move hF rfl) fun a hF=>?_
    refine ls<|q1 hF rfl (e_move hF rfl) fun a hF=>?_
    refine ls<|q1 hF rfl (e_lenL (α:=api_Op) (xs:=p1) hF Tryd.runUnderlying47 rfl) fun a hF=>?_
    refine ls<|q1 hF rfl (e_lss hF rfl rfl) fun a hF=>?_
    refine re<|?_
    rcases bdich (decide (vB1 < (p1.length:Int))) with hb7 | hb7
    ·
      replace hm:=itp_t hm hb7
      refine tn<|ctv hF rfl hb7<|wk<|?_
      refine tn<|th<|wb<|th<|?_
      replace hm:=bind_some hm
      obtain ⟨xz8,h9,hm⟩:=hm
      obtain ⟨c10,g11,hl12⟩:=SR.get hr5 h9
      obtain rfl:=api_Op_open g11
      refine rxS 12 hS wide (by kernel_rfl) fun w hS=>?_
      refine x1 (St.ld hS) hF rfl rfl (fun _ _ _ h=>h) (fun w hl=>(e_move hF rfl)) fun a hF=>?_
      refine x1 (St.ld hS) hF rfl rfl (fun _ _ _ h=>h) (fun w hl=>(e_move hF rfl)) fun a hF=>?_
      refine x1 (St.ld hS) hF rfl rfl (fun _ _ _ h=>h) (fun w hl=>(e_iaI hF Tryd.runUnderlying47 Tryd.sizeOf46 rfl rfl h9 (SR.oaI hr5 (by decide) h9))) fun a hF=>?_
      refine x1 (St.ld hS) hF rfl rfl (fun _ _ _ h=>h) (fun w hl=>(e_fa hF fa46_0 rfl)) fun a hF=>?_
      refine x1 (St.ld hS) hF rfl rfl (fun _ _ _ h=>h) (fun w hl=>(e_ld hF Tryd.isAgg3 rfl (PH.le.cell (Lds.le hl) (hl12 0 _ rfl)))) fun a hF=>?_
      refine x1 (St.ld hS) hF rfl rfl (fun _ _ _ h=>h) (fun w hl=>(e_move hF rfl)) fun a hF=>?_
      refine x1 (St.ld hS) hF rfl rfl (fun _ _ _ h=>h) (fun w hl=>(e_move hF rfl)) fun a hF=>?_
      refine x1 (St.ld hS) hF rfl rfl (fun _ _ _ h=>h) (fun w hl=>(e_iaI hF Tryd.runUnderlying47 Tryd.sizeOf46 rfl rfl h9 (SR.oaI hr5 (by decide) h9))) fun a hF=>?_
      refine x1 (St.ld hS) hF rfl rfl (fun _ _ _ h=>h) (fun w hl=>(e_fa hF fa46_1 rfl)) fun a hF=>?_
      refine x1 (St.ld hS) hF rfl rfl (fun _ _ _ h=>h) (fun w hl=>(e_ld hF Tryd.isAgg3 rfl (PH.le.cell (Lds.le hl) (hl12 1 _ rfl)))) fun a hF=>?_
      refine x1 (St.ld hS) hF rfl rfl (fun _ _ _ h=>h) (fun w hl=>(e_asg hF rfl)) fun a hF=>?_
      refine x1 (St.ld hS) hF rfl rfl (fun _ _ _ h=>h) (fun w hl=>(e_asg hF rfl)) fun a hF=>?_
      refine xe<|?_
      refine tn<|th<|?_
      refine rg<|?_
      refine ls<|q1 hF rfl (e_move hF rfl) fun a hF=>?_
      refine ls<|q1 hF rfl (e_lss hF rfl rfl) fun a hF=>?_
      refine ls<|q1 hF rfl (e_move hF rfl) fun a hF=>?_
      refine grp (N:=78) (Fk:=[(0,.slice oa2 p1.length cap3),(1,.int .i64 p6),(5,.int .i64 vB1),(6,.int .i64 xz8.Kind),(7,.int .i64 xz8.N),(29,.bool ((decide (xz8.Kind < 1)) || (decide (15 < xz8.Kind))))]) (b:=(decide (xz8.Kind < 1))) 3 hS ?_ ?_ ?_
      ·
        intro hb key
        replace hF:=Fr.as hF (t:=26) rfl (congrArg Value.bool hb)
        refine ls<|gn hF rfl rfl rfl rfl fun a hF=>?_
        refine ls<|gn hF rfl rfl rfl rfl fun a hF=>?_
        refine ls<|q1 hF rfl (e_as (v':=.bool ((decide (xz8.Kind < 1)) || (decide (15 < xz8.Kind)))) (e_pickT hF rfl rfl) (by rw [hb];rfl)) fun a hF=>?_
        exact key _ _ (hF.has ⟨rfl,rfl,rfl,rfl,rfl,rfl,trivial⟩) hS
      ·
        intro hb key
        replace hF:=Fr.as hF (t:=26) rfl (congrArg Value.bool hb)
        refine ls<|gy hF rfl rfl<|q1 hF rfl (e_move hF rfl) fun a hF=>?_
        refine ls<|gy hF rfl rfl<|q1 hF rfl (e_gtr hF rfl rfl) fun a hF=>?_
        refine ls<|q1 hF rfl (e_as (v':=.bool ((decide (xz8.Kind < 1)) || (decide (15 < xz8.Kind)))) (e_pickF hF rfl rfl) (by rw [hb];rfl)) fun a hF=>?_
        exact key _ _ (hF.has ⟨rfl,rfl,rfl,rfl,rfl,rfl,trivial⟩) hS
      intro a w hF hS
      refine ls<|q1 hF rfl (e_move hF rfl) fun a hF=>?_
      refine grp (N:=78) (Fk:=[(0,.slice oa2 p1.length cap3),(1,.int .i64 p6),(5,.int .i64 vB1),(6,.int .i64 xz8.Kind),(7,.int .i64 xz8.N),(41,.bool (((decide (xz8.Kind < 1)) || (decide (15 < xz8.Kind))) || ((decide (xz8.Kind=1)) && ((decide (xz8.N < 0)) || (decide (4294967296 < xz8.N))))))]) (b:=((decide (xz8.Kind < 1)) || (decide (15 < xz8.Kind)))) 11 hS ?_ ?_ ?_
      ·
        intro hb key
        replace hF:=Fr.as hF (t:=30) rfl (congrArg Value.bool hb)
        refine ls<|gn hF rfl rfl rfl rfl fun a hF=>?_
        refine ls<|gn hF rfl rfl rfl rfl fun a hF=>?_
        refine ls<|gn hF rfl rfl rfl rfl fun a hF=>?_
        refine ls<|gnu hF rfl rfl rfl fun a hF=>?_
        refine ls<|gnu hF rfl rfl rfl fun a hF=>?_
        refine ls<|gnu hF rfl rfl rfl fun a hF=>?_
        refine ls<|gnu hF rfl rfl rfl fun a hF=>?_
        refine ls<|gnu hF rfl rfl rfl fun a hF=>?_
        refine ls<|gnu hF rfl rfl rfl fun a hF=>?_
        refine ls<|gn hF rfl rfl rfl rfl fun a hF=>?_
        refine ls<|q1 hF rfl (e_as (v':=.bool (((decide (xz8.Kind < 1)) || (decide (15 < xz8.Kind))) || ((decide (xz8.Kind=1)) && ((decide (xz8.N < 0)) || (decide (4294967296 < xz8.N)))))) (e_pickT hF rfl rfl) (by rw [hb];rfl)) fun a hF=>?_
        exact key _ _ (hF.has ⟨rfl,rfl,rfl,rfl,rfl,rfl,trivial⟩) hS
      ·
        intro hb key
        replace hF:=Fr.as hF (t:=30) rfl (congrArg Value.bool hb)
        refine ls<|gy hF rfl rfl<|q1 hF rfl (e_move hF rfl) fun a hF=>?_
        refine ls<|gy hF rfl rfl<|q1 hF rfl (e_eql hF rfl rfl) fun a hF=>?_
        refine ls<|gy hF rfl rfl<|q1 hF rfl (e_move hF rfl) fun a hF=>?_
        refine grp (N:=78) (Fk:=[(0,.slice oa2 p1.length cap3),(1,.int .i64 p6),(5,.int .i64 vB1),(6,.int .i64 xz8.Kind),(7,.int .i64 xz8.N),(30,.bool false),(40,.bool ((decide (xz8.Kind=1)) && ((decide (xz8.N < 0)) || (decide (4294967296 < xz8.N)))))]) (b:=(decide (xz8.Kind=1))) 7 hS ?_ ?_ ?_
        ·
          intro hb key
          replace hF:=Fr.as hF (t:=33) rfl (congrArg Value.bool hb)
          refine ls<|gy hF rfl rfl<|q1 hF rfl (e_move hF rfl) fun a hF=>?_
          refine ls<|gy hF rfl rfl<|q1 hF rfl (e_lss hF rfl rfl) fun a hF=>?_
          refine ls<|gy hF rfl rfl<|q1 hF rfl (e_move hF rfl) fun a hF=>?_
          refine grp (N:=78) (Fk:=[(0,.slice oa2 p1.length cap3),(1,.int .i64 p6),(5,.int .i64 vB1),(6,.int .i64 xz8.Kind),(7,.int .i64 xz8.N),(30,.bool false),(33,.bool true),(39,.bool ((decide (xz8.N < 0)) || (decide (4294967296 < xz8.N))))]) (b:=(decide (xz8.N < 0))) 3 hS ?_ ?_ ?_
          ·
            intro hb key
            replace hF:=Fr.as hF (t:=36) rfl (congrArg Value.bool hb)
            refine ls<|gn hF rfl rfl rfl rfl fun a hF=>?_
            refine ls<|gn hF rfl rfl rfl rfl fun a hF=>?_
            refine ls<|gy hF rfl rfl<|q1 hF rfl (e_as (v':=.bool ((decide (xz8.N < 0)) || (decide (4294967296 < xz8.N)))) (e_pickT hF rfl rfl) (by rw [hb];rfl)) fun a hF=>?_
            exact key _ _ (hF.has ⟨rfl,rfl,rfl,rfl,rfl,rfl,rfl,rfl,trivial⟩) hS
          ·
            intro hb key
            replace hF:=Fr.as hF (t:=36) rfl (congrArg Value.bool hb)
            refine ls<|gy hF rfl rfl<|q1 hF rfl (e_move hF rfl) fun a hF=>?_
            refine ls<|gy hF rfl rfl<|q1 hF rfl (e_gtr hF rfl rfl) fun a hF=>?_
            refine ls<|gy hF rfl rfl<|q1 hF rfl (e_as (v':=.bool ((decide (xz8.N < 0)) || (decide (4294967296 < xz8.N)))) (e_pickF hF rfl rfl) (by rw [hb];rfl)) fun a hF=>?_
            exact key _ _ (hF.has ⟨rfl,rfl,rfl,rfl,rfl,rfl,rfl,rfl,trivial⟩) hS
          intro a w hF hS
          refine ls<|gy hF rfl rfl<|q1 hF rfl (e_as (v':=.bool ((decide (xz8.Kind=1)) && ((decide (xz8.N < 0)) || (decide (4294967296 < xz8.N))))) (e_pickT hF rfl rfl) (by rw [hb];rfl)) fun a hF=>?_
          exact key _ _ (hF.has ⟨rfl,rfl,rfl,rfl,rfl,rfl,rfl,trivial⟩) hS
        ·
          intro hb key
          replace hF:=Fr.as hF (t:=33) rfl (congrArg Value.bool hb)
          refine ls<|gn hF rfl rfl rfl rfl fun a hF=>?_
          refine ls<|gn hF rfl rfl rfl rfl fun a hF=>?_
          refine ls<|gn hF rfl rfl rfl rfl fun a hF=>?_
          refine ls<|gnu hF rfl rfl rfl fun a hF=>?_
          refine ls<|gnu hF rfl rfl rfl fun a hF=>?_
          refine ls<|gn hF rfl rfl rfl rfl fun a hF=>?_
          refine ls<|gy hF rfl rfl<|q1 hF rfl (e_as (v':=.bool ((decide (xz8.Kind=1)) && ((decide (xz8.N < 0)) || (decide (4294967296 < xz8.N))))) (e_pickF hF rfl rfl) (by rw [hb];rfl)) fun a hF=>?_
          exact key _ _ (hF.has ⟨rfl,rfl,rfl,rfl,rfl,rfl,rfl,trivial⟩) hS
        intro a w hF hS
        refine ls<|q1 hF rfl (e_as (v':=.bool (((decide (xz8.Kind < 1)) || (decide (15 < xz8.Kind))) || ((decide (xz8.Kind=1)) && ((decide (xz8.N < 0)) || (decide (4294967296 < xz8.N)))))) (e_pickF hF rfl rfl) (by rw [hb];rfl)) fun a hF=>?_
        exact key _ _ (hF.has ⟨rfl,rfl,rfl,rfl,rfl,rfl,trivial⟩) hS
      intro a w hF hS
      refine ls<|q1 hF rfl (e_move hF rfl) fun a hF=>?_
      refine grp (N:=78) (Fk:=[(0,.slice oa2 p1.length cap3),(1,.int .i64 p6),(5,.int .i64 vB1),(6,.int .i64 xz8.Kind),(7,.int .i64 xz8.N),(54,.bool ((((decide (xz8.Kind < 1)) || (decide (15 < xz8.Kind))) || ((decide (xz8.Kind=1)) && ((decide (xz8.N < 0)) || (decide (4294967296 < xz8.N))))) || ((decide (xz8.Kind=2)) && ((decide (xz8.N < 0)) || (decide (p6≤xz8.N))))))]) (b:=(((decide (xz8.Kind < 1)) || (decide (15 < xz8.Kind))) || ((decide (xz8.Kind=1)) && ((decide (xz8.N < 0)) || (decide (4294967296 < xz8.N)))))) 12 hS ?_ ?_ ?_
      ·
        intro hb key
        replace hF:=Fr.as hF (t:=42) rfl (congrArg Value.bool hb)
        refine ls<|gn hF rfl rfl rfl rfl fun a hF=>?_
        refine ls<|gn hF rfl rfl rfl rfl fun a hF=>?_
        refine ls<|gn hF rfl rfl rfl rfl fun a hF=>?_
        refine ls<|gnu hF rfl rfl rfl fun a hF=>?_
        refine ls<|gnu hF rfl rfl rfl fun a hF=>?_
        refine ls<|gnu hF rfl rfl rfl fun a hF=>?_
        refine ls<|gnu hF rfl rfl rfl fun a hF=>?_
        refine ls<|gnu hF rfl rfl rfl fun a hF=>?_
        refine ls<|gnu hF rfl rfl rfl fun a hF=>?_
        refine ls<|gnu hF rfl rfl rfl fun a hF=>?_
        refine ls<|gn hF rfl rfl rfl rfl fun a hF=>?_
        refine ls<|q1 hF rfl (e_as (v':=.bool ((((decide (xz8.Kind < 1)) || (decide (15 < xz8.Kind))) || ((decide (xz8.Kind=1)) && ((decide (xz8.N < 0)) || (decide (4294967296 < xz8.N))))) || ((decide (xz8.Kind=2)) && ((decide (xz8.N < 0)) || (decide (p6≤xz8.N)))))) (e_pickT hF rfl rfl) (by rw [hb];rfl)) fun a hF=>?_
        exact key _ _ (hF.has ⟨rfl,rfl,rfl,rfl,rfl,rfl,trivial⟩) hS
      ·
        intro hb key
        replace hF:=Fr.as hF (t:=42) rfl (congrArg Value.bool hb)
        refine ls<|gy hF rfl rfl<|q1 hF rfl (e_move hF rfl) fun a hF=>?_
        refine ls<|gy hF rfl rfl<|q1 hF rfl (e_eql hF rfl rfl) fun a hF=>?_
        refine ls<|gy hF rfl rfl<|q1 hF rfl (e_move hF rfl) fun a hF=>?_
        refine grp (N:=78) (Fk:=[(0,.slice oa2 p1.length cap3),(1,.int .i64 p6),(5,.int .i64 vB1),(6,.int .i64 xz8.Kind),(7,.int .i64 xz8.N),(42,.bool false),(53,.bool ((decide (xz8.Kind=2)) && ((decide (xz8.N < 0)) || (decide (p6≤xz8.N)))))]) (b:=(decide (xz8.Kind=2))) 8 hS ?_ ?_ ?_
        ·
          intro hb key
          replace hF:=Fr.as hF (t:=45) rfl (congrArg Value.bool hb)
          refine ls<|gy hF rfl rfl<|q1 hF rfl (e_move hF rfl) fun a hF=>?_
          refine ls<|gy hF rfl rfl<|q1 hF rfl (e_lss hF rfl rfl) fun a hF=>?_
          refine ls<|gy hF rfl rfl<|q1 hF rfl (e_move hF rfl) fun a hF=>?_
          refine grp (N:=78) (Fk:=[(0,.slice oa2 p1.length cap3),(1,.int .i64 p6),(5,.int .i64 vB1),(6,.int .i64 xz8.Kind),(7,.int .i64 xz8.N),(42,.bool false),(45,.bool true),(52,.bool ((decide (xz8.N < 0)) || (decide (p6≤xz8.N))))]) (b:=(decide (xz8.N < 0))) 4 hS ?_ ?_ ?_
          ·
            intro hb key
            replace hF:=Fr.as hF (t:=48) rfl (congrArg Value.bool hb)
            refine ls<|gn hF rfl rfl rfl rfl fun a hF=>?_
            refine ls<|gn hF rfl rfl rfl rfl fun a hF=>?_
            refine ls<|gn hF rfl rfl rfl rfl fun a hF=>?_
            refine ls<|gy hF rfl rfl<|q1 hF rfl (e_as (v':=.bool ((decide (xz8.N < 0)) || (decide (p6≤xz8.N)))) (e_pickT hF rfl rfl) (by rw [hb];rfl)) fun a hF=>?_
            exact key _ _ (hF.has ⟨rfl,rfl,rfl,rfl,rfl,rfl,rfl,rfl,trivial⟩) hS
          ·
            intro hb key
            replace hF:=Fr.as hF (t:=48) rfl (congrArg Value.bool hb)
            refine ls<|gy hF rfl rfl<|q1 hF rfl (e_move hF rfl) fun a hF=>?_
            refine ls<|gy hF rfl rfl<|q1 hF rfl (e_move hF rfl) fun a hF=>?_
            refine ls<|gy hF rfl rfl<|q1 hF rfl (e_geq hF rfl rfl) fun a hF=>?_
            refine ls<|gy hF rfl rfl<|q1 hF rfl (e_as (v':=.bool ((decide (xz8.N < 0)) || (decide (p6≤xz8.N)))) (e_pickF hF rfl rfl) (by rw [hb];rfl)) fun a hF=>?_
            exact key _ _ (hF.has ⟨rfl,rfl,rfl,rfl,rfl,rfl,rfl,rfl,trivial⟩) hS
          intro a w hF hS
          refine ls<|gy hF rfl rfl<|q1 hF rfl (e_as (v':=.bool ((decide (xz8.Kind=2)) && ((decide (xz8.N < 0)) || (decide (p6≤xz8.N))))) (e_pickT hF rfl rfl) (by rw [hb];rfl)) fun a hF=>?_
          exact key _ _ (hF.has ⟨rfl,rfl,rfl,rfl,rfl,rfl,rfl,trivial⟩) hS
        ·
          intro hb key
          replace hF:=Fr.as hF (t:=45) rfl (congrArg Value.bool hb)
          refine ls<|gn hF rfl rfl rfl rfl fun a hF=>?_
          refine ls<|gn hF rfl rfl rfl rfl fun a hF=>?_
          refine ls<|gn hF rfl rfl rfl rfl fun a hF=>?_
          refine ls<|gnu hF rfl rfl rfl fun a hF=>?_
          refine ls<|gnu hF rfl rfl rfl fun a hF=>?_
          refine ls<|gnu hF rfl rfl rfl fun a hF=>?_
          refine ls<|gn hF rfl rfl rfl rfl fun a hF=>?_
          refine ls<|gy hF rfl rfl<|q1 hF rfl (e_as (v':=.bool ((decide (xz8.Kind=2)) && ((decide (xz8.N < 0)) || (decide (p6≤xz8.N))))) (e_pickF hF rfl rfl) (by rw [hb];rfl)) fun a hF=>?_
          exact key _ _ (hF.has ⟨rfl,rfl,rfl,rfl,rfl,rfl,rfl,trivial⟩) hS
        intro a w hF hS
        refine ls<|q1 hF rfl (e_as (v':=.bool ((((decide (xz8.Kind < 1)) || (decide (15 < xz8.Kind))) || ((decide (xz8.Kind=1)) && ((decide (xz8.N < 0)) || (decide (4294967296 < xz8.N))))) || ((decide (xz8.Kind=2)) && ((decide (xz8.N < 0)) || (decide (p6≤xz8.N)))))) (e_pickF hF rfl rfl) (by rw [hb];rfl)) fun a hF=>?_
        exact key _ _ (hF.has ⟨rfl,rfl,rfl,rfl,rfl,rfl,trivial⟩) hS
      intro a w hF hS
      refine ls<|q1 hF rfl (e_move hF rfl) fun a hF=>?_
      refine grp (N:=78) (Fk:=[(0,.slice oa2 p1.length cap3),(1,.int .i64 p6),(5,.int .i64 vB1),(62,.bool (((((decide (xz8.Kind < 1)) || (decide (15 < xz8.Kind))) || ((decide (xz8.Kind=1)) && ((decide (xz8.N < 0)) || (decide (4294967296 < xz8.N))))) || ((decide (xz8.Kind=2)) && ((decide (xz8.N < 0)) || (decide (p6≤xz8.N))))) || ((decide (2 < xz8.Kind)) && (decide (xz8.N≠0)))))]) (b:=((((decide (xz8.Kind < 1)) || (decide (15 < xz8.Kind))) || ((decide (xz8.Kind=1)) && ((decide (xz8.N < 0)) || (decide (4294967296 < xz8.N))))) || ((decide (xz8.Kind=2)) && ((decide (xz8.N < 0)) || (decide (p6≤xz8.N)))))) 7 hS ?_ ?_ ?_
      ·
        intro hb key
        replace hF:=Fr.as hF (t:=55) rfl (congrArg Value.bool hb)
        refine ls<|gn hF rfl rfl rfl rfl fun a hF=>?_
        refine ls<|gn hF rfl rfl rfl rfl fun a hF=>?_
        refine ls<|gn hF rfl rfl rfl rfl fun a hF=>?_
        refine ls<|gnu hF rfl rfl rfl fun a hF=>?_
        refine ls<|gnu hF rfl rfl rfl fun a hF=>?_
        refine ls<|gn hF rfl rfl rfl rfl fun a hF=>?_
        refine ls<|q1 hF rfl (e_as (v':=.bool (((((decide (xz8.Kind < 1)) || (decide (15 < xz8.Kind))) || ((decide (xz8.Kind=1)) && ((decide (xz8.N < 0)) || (decide (4294967296 < xz8.N))))) || ((decide (xz8.Kind=2)) && ((decide (xz8.N < 0)) || (decide (p6≤xz8.N))))) || ((decide (2 < xz8.Kind)) && (decide (xz8.N≠0))))) (e_pickT hF rfl rfl) (by rw [hb];rfl)) fun a hF=>?_
        exact key _ _ (hF.has ⟨rfl,rfl,rfl,rfl,trivial⟩) hS
      ·
        intro hb key
        replace hF:=Fr.as hF (t:=55) rfl (congrArg Value.bool hb)
        refine ls<|gy hF rfl rfl<|q1 hF rfl (e_move hF rfl) fun a hF=>?_
        refine ls<|gy hF rfl rfl<|q1 hF rfl (e_gtr hF rfl rfl) fun a hF=>?_
        refine ls<|gy hF rfl rfl<|q1 hF rfl (e_move hF rfl) fun a hF=>?_
        refine grp (N:=78) (Fk:=[(0,.slice oa2 p1.length cap3),(1,.int .i64 p6),(5,.int .i64 vB1),(55,.bool false),(61,.bool ((decide (2 < xz8.Kind)) && (decide (xz8.N≠0))))]) (b:=(decide (2 < xz8.Kind))) 3 hS ?_ ?_ ?_
        ·
          intro hb key
          replace hF:=Fr.as hF (t:=58) rfl (congrArg Value.bool hb)
          refine ls<|gy hF rfl rfl<|q1 hF rfl (e_move hF rfl) fun a hF=>?_
          refine ls<|gy hF rfl rfl<|q1 hF rfl (e_neq hF rfl rfl) fun a hF=>?_
          refine ls<|gy hF rfl rfl<|q1 hF rfl (e_as (v':=.bool ((decide (2 < xz8.Kind)) && (decide (xz8.N≠0)))) (e_pickT hF rfl rfl) (by rw [hb];rfl)) fun a hF=>?_
          exact key _ _ (hF.has ⟨rfl,rfl,rfl,rfl,rfl,trivial⟩) hS
        ·
          intro hb key
          replace hF:=Fr.as hF (t:=58) rfl (congrArg Value.bool hb)
          refine ls<|gn hF rfl rfl rfl rfl fun a hF=>?_
          refine ls<|gn hF rfl rfl rfl rfl fun a hF=>?_
          refine ls<|gy hF rfl rfl<|q1 hF rfl (e_as (v':=.bool ((decide (2 < xz8.Kind)) && (decide (xz8.N≠0)))) (e_pickF hF rfl rfl) (by rw [hb];rfl)) fun a hF=>?_
          exact key _ _ (hF.has ⟨rfl,rfl,rfl,rfl,rfl,trivial⟩) hS
        intro a w hF hS
        refine ls<|q1 hF rfl (e_as (v':=.bool (((((decide (xz8.Kind < 1)) || (decide (15 < xz8.Kind))) || ((decide (xz8.Kind=1)) && ((decide (xz8.N < 0)) || (decide (4294967296 < xz8.N))))) || ((decide (xz8.Kind=2)) && ((decide (xz8.N < 0)) || (decide (p6≤xz8.N))))) || ((decide (2 < xz8.Kind)) && (decide (xz8.N≠0))))) (e_pickF hF rfl rfl) (by rw [hb];rfl)) fun a hF=>?_
        exact key _ _ (hF.has ⟨rfl,rfl,rfl,rfl,trivial⟩) hS
      intro a w hF hS
      refine re<|?_
      rcases bdich (((((decide (xz8.Kind < 1)) || (decide (15 < xz8.Kind))) || ((decide (xz8.Kind=1)) && ((decide (xz8.N < 0)) || (decide (4294967296 < xz8.N))))) || ((decide (xz8.Kind=2)) && ((decide (xz8.N < 0)) || (decide (p6≤xz8.N))))) || ((decide (2 < xz8.Kind)) && (decide (xz8.N≠0)))) with hb13 | hb13
      ·
        replace hm:=ite_t hm hb13
        refine tn<|ctv hF rfl hb13<|th<|?_
        refine rg<|?_
        refine ls<|q1 hF rfl (e_asg hF rfl) fun a hF=>?_
        refine re<|?_
        refine tn<|?_
        refine wr<|br<|tr<|tr<|br<|tr<|?_
        obtain rfl:=Option.some.inj hm
        exact r1 hF Tryd.results58 rfl ⟨rfl,hS.keep⟩
      ·
        replace hm:=ite_f hm hb13
        refine tn<|cfv hF rfl hb13<|wk<|?_
        refine bn<|tn<|?_
        refine rg<|?_
        refine ls<|q1 hF rfl (e_move hF rfl) fun a hF=>?_
        refine ls<|q1 hF rfl (e_add hF rfl rfl) fun a hF=>?_
        refine ls<|q1 hF rfl (e_asg hF rfl) fun a hF=>?_
        refine re<|?_
        refine tn<|?_
        exact ⟨(nn2,(IntKind.i64.wrap (vB1+1))),⟨hm,hF.has ⟨rfl,rfl,rfl,trivial⟩,hS⟩,Nat.lt_succ_self _⟩
    ·
      replace hm:=itp_f hm hb7
      refine tn<|cfv hF rfl hb7<|?_
      refine we<|tx<|tx<|bx<|?_
      refine tn<|?_
      exact ⟨hm,hF.has ⟨rfl,trivial⟩,hS⟩
  clear hm hF hS
  rintro a w ⟨hm,hF,hS⟩
  unfold Z1t at hm
  refine th<|?_
  rcases bdich ((decide (1≤(p1.length:Int))) && (decide ((p1.length:Int)≤40))) with hb14 | hb14
  ·
    replace hm:=ite_t hm hb14
    replace hm:=bind_some hm
    obtain ⟨r15,h16,hm⟩:=hm
    refine rg<|?_
    refine ls<|q1 hF rfl (e_move hF rfl) fun a hF=>?_
    refine ls<|q1 hF rfl (e_lenL (α:=api_Op) (xs:=p1) hF Tryd.runUnderlying47 rfl) fun a hF=>?_
    refine ls<|q1 hF rfl (e_geq hF rfl rfl) fun a hF=>?_
    refine ls<|q1 hF rfl (e_move hF rfl) fun a hF=>?_
    refine grp (N:=78) (Fk:=[(0,.slice oa2 p1.length cap3),(70,.bool ((decide (1≤(p1.length:Int))) && (decide ((p1.length:Int)≤40))))]) (b:=(decide (1≤(p1.length:Int)))) 4 hS ?_ ?_ ?_
    ·
      intro hb key
      replace hF:=Fr.as hF (t:=66) rfl (congrArg Value.bool hb)
      refine ls<|gy hF rfl rfl<|q1 hF rfl (e_move hF rfl) fun a hF=>?_
      refine ls<|gy hF rfl rfl<|q1 hF rfl (e_lenL (α:=api_Op) (xs:=p1) hF Tryd.runUnderlying47 rfl) fun a hF=>?_
      refine ls<|gy hF rfl rfl<|q1 hF rfl (e_leq hF rfl rfl) fun a hF=>?_
      refine ls<|q1 hF rfl (e_as (v':=.bool ((decide (1≤(p1.length:Int))) && (decide ((p1.length:Int)≤40)))) (e_pickT hF rfl rfl) (by rw [hb];rfl)) fun a hF=>?_
      exact key _ _ (hF.has ⟨rfl,rfl,trivial⟩) hS
    ·
      intro hb key
      replace hF:=Fr.as hF (t:=66) rfl (congrArg Value.bool hb)
      refine ls<|gn hF rfl rfl rfl rfl fun a hF=>?_
      refine ls<|gn hF rfl rfl rfl rfl fun a hF=>?_
      refine ls<|gn hF rfl rfl rfl rfl fun a hF=>?_
      refine ls<|q1 hF rfl (e_as (v':=.bool ((decide (1≤(p1.length:Int))) && (decide ((p1.length:Int)≤40)))) (e_pickF hF rfl rfl) (by rw [hb];rfl)) fun a hF=>?_
      exact key _ _ (hF.has ⟨rfl,rfl,trivial⟩) hS
    intro a w hF hS
    refine ls<|q1 hF rfl (e_as (e_move hF rfl) (congrArg Value.bool hb14)) fun a hF=>?_
    refine ls<|gy hF rfl rfl<|q1 hF rfl (e_move hF rfl) fun a hF=>?_
    refine ls<|gy hF rfl rfl<|q1 hF rfl (e_move hF rfl) fun a hF=>?_
    refine ls<|gy hF rfl rfl<|q1 hF rfl (e_lenL (α:=api_Op) (xs:=p1) hF Tryd.runUnderlying47 rfl) fun a hF=>?_
    refine ls<|gy hF rfl rfl<|c1 hF rfl Tryd.call78 (Z1y_c (hp_le _) hc4 (St.srH hS hr5) h16) ⟨rfl,rfl,trivial⟩ (fun v w a hR hF=>?_)
    obtain ⟨rfl,hk⟩:=hR
    replace hS:=hS.pass hk
    clear hk
    refine ls<|gy hF rfl rfl<|q1 hF rfl (e_eql hF rfl rfl) fun a hF=>?_
    refine ls<|q1 hF rfl (e_pickT hF rfl rfl) fun a hF=>?_
    refine ls<|q1 hF rfl (e_asg hF rfl) fun a hF=>?_
    refine re<|?_
    refine tn<|?_
    refine wr<|?_
    obtain rfl:=Option.some.inj hm
    exact r1 hF Tryd.results58 rfl ⟨rfl,hS.keep⟩
  ·
    replace hm:=ite_f hm hb14
    refine rg<|?_
    refine ls<|q1 hF rfl (e_move hF rfl) fun a hF=>?_
    refine ls<|q1 hF rfl (e_lenL (α:=api_Op) (xs:=p1) hF Tryd.runUnderlying47 rfl) fun a hF=>?_
    refine ls<|q1 hF rfl (e_geq hF rfl rfl) fun a hF=>?_
    refine ls<|q1 hF rfl (e_move hF rfl) fun a hF=>?_
    refine grp (N:=78) (Fk:=[(0,.slice oa2 p1.length cap3),(70,.bool ((decide (1≤(p1.length:Int))) && (decide ((p1.length:Int)≤40))))]) (b:=(decide (1≤(p1.length:Int)))) 4 hS ?_ ?_ ?_
    ·
      intro hb key
      replace hF:=Fr.as hF (t:=66) rfl (congrArg Value.bool hb)
      refine ls<|gy hF rfl rfl<|q1 hF rfl (e_move hF rfl) fun a hF=>?_
      refine ls<|gy hF rfl rfl<|q1 hF rfl (e_lenL (α:=api_Op) (xs:=p1) hF Tryd.runUnderlying47 rfl) fun a hF=>?_
      refine ls<|gy hF rfl rfl<|q1 hF rfl (e_leq hF rfl rfl) fun a hF=>?_
      refine ls<|q1 hF rfl (e_as (v':=.bool ((decide (1≤(p1.length:Int))) && (decide ((p1.length:Int)≤40)))) (e_pickT hF rfl rfl) (by rw [hb];rfl)) fun a hF=>?_
      exact key _ _ (hF.has ⟨rfl,rfl,trivial⟩) hS
    ·
      intro hb key
      replace hF:=Fr.as hF (t:=66) rfl (congrArg Value.bool hb)
      refine ls<|gn hF rfl rfl rfl rfl fun a hF=>?_
      refine ls<|gn hF rfl rfl rfl rfl fun a hF=>?_
      refine ls<|gn hF rfl rfl rfl rfl fun a hF=>?_
      refine ls<|q1 hF rfl (e_as (v':=.bool ((decide (1≤(p1.length:Int))) && (decide ((p1.length:Int)≤40)))) (e_pickF hF rfl rfl) (by rw [hb];rfl)) fun a hF=>?_
      exact key _ _ (hF.has ⟨rfl,rfl,trivial⟩) hS
    intro a w hF hS
    refine ls<|q1 hF rfl (e_as (e_move hF rfl) (congrArg Value.bool hb14)) fun a hF=>?_
    refine ls<|gn hF rfl rfl rfl rfl fun a hF=>?_
    refine ls<|gn hF rfl rfl rfl rfl fun a hF=>?_
    refine ls<|gn hF rfl rfl rfl rfl fun a hF=>?_
    refine ls<|gn hF rfl rfl rfl rfl fun a hF=>?_
    refine ls<|gn hF rfl rfl rfl rfl fun a hF=>?_
    refine ls<|q1 hF rfl (e_pickF hF rfl rfl) fun a hF=>?_
    refine ls<|q1 hF rfl (e_asg hF rfl) fun a hF=>?_
    refine re<|?_
    refine tn<|?_
    refine wr<|?_
    obtain rfl:=Option.some.inj hm
    exact r1 hF Tryd.results58 rfl ⟨rfl,hS.keep⟩
end Go.LM.BIN
