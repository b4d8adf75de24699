/- Walks, lifted by program. No condition beyond the theorems' own premises. -/
import Derived.Test.YtgdkaddhhpgeiaaGreatDoorLBQ5
namespace Go.LM.LB
open Go Go.LL Go.MD Go.LM Go.Proofs Go.MD.LB Go.Proofs.Tryz
set_option maxRecDepth 100000
variable {N:Nat} {w0:World} {H:PH}
set_option maxHeartbeats 4000000 in
theorem Z3o_c (hH:H.le w0) {b2:Nat} {p1:leadlineref04_P} {oa3:Option Addr} {cap4:Nat} (hc5:p1.L.length≤cap4) (hr6:SR H oa3 p1.L) {oa7:Option Addr} {cap8:Nat} {vs9:List Value} (hv10:Rows H vs9 p1.Out) {p12:Int} {p13:Int} (hO:(sepA [blk b2 (.cells [.slice oa3 p1.L.length cap4,i6 p1.At,i6 p1.E,i6 p1.Pos,.slice oa7 p1.Out.length cap8].toArray 171 (0,0)),sla 51 9 oa7 p1.Out.length cap8 vs9]).ok (hp w0)) (hD:∀ b,(sepA [blk b2 (.cells [.slice oa3 p1.L.length cap4,i6 p1.At,i6 p1.E,i6 p1.Pos,.slice oa7 p1.Out.length cap8].toArray 171 (0,0)),sla 51 9 oa7 p1.Out.length cap8 vs9]).fp b→H b=none) {r:(api_Stmt×leadlineref04_P)} (hm:Z3o N p1 p12 p13=some r):Tot Tryz.prog 168 #[.pointer (some ⟨b2,0,none⟩),i6 p12,i6 p13] w0 (fun v w'=>∃ (H':PH) (cs0:List Value) (oa1m:Option Addr) (cap1m:Nat) (oa2m:Option Addr) (cap2m:Nat) (vs2m:List Value),v=.agg cs0.toArray∧Enc.rep H' cs0 r.1∧r.2.L.length≤cap1m∧SR H' oa1m r.2.L∧Rows H' vs2m r.2.Out∧ExtM w0 (sepA [blk b2 (.cells [.slice oa3 p1.L.length cap4,i6 p1.At,i6 p1.E,i6 p1.Pos,.slice oa7 p1.Out.length cap8].toArray 171 (0,0)),sla 51 9 oa7 p1.Out.length cap8 vs9]).fp H H'∧H'.le w'∧(∀ b,(sepA [blk b2 (.cells [.slice oa1m r.2.L.length cap1m,i6 r.2.At,i6 r.2.E,i6 r.2.Pos,.slice oa2m r.2.Out.length cap2m].toArray 171 (0,0)),sla 51 9 oa2m r.2.Out.length cap2m vs2m]).fp b→H' b=none)∧Mut w0 (sepA [blk b2 (.cells [.slice oa3 p1.L.length cap4,i6 p1.At,i6 p1.E,i6 p1.Pos,.slice oa7 p1.Out.length cap8].toArray 171 (0,0)),sla 51 9 oa7 p1.Out.length cap8 vs9]) (sepA [blk b2 (.cells [.slice oa1m r.2.L.length cap1m,i6 r.2.At,i6 r.2.E,i6 r.2.Pos,.slice oa2m r.2.Out.length cap2m].toArray 171 (0,0)),sla 51 9 oa2m r.2.Out.length cap2m vs2m]) w'):=by
 unfold Z3o at hm
 refine fn0 func168 rfl ntmps168 rfl rfl fun a o=>?_
 have u:=startM hH hO hD
 refine th<|rg<|ls<|a_alloc (cs:=[i6 0,strv [],strv [],.slice none 0 0,.slice none 0 0,i6 0,i6 0,i6 0,i6 0].toArray) o rfl u Tryz.zeroValue51 rfl fun b14 w a u o=>re<|tn<|th<|rg<|qm o rfl fun a o=>qm o rfl fun a o=>qv o (e_bldK [i6 p12,i6 p13] [i6 p12,strv [],strv [],.slice none 0 0,.slice none 0 0,i6 0,i6 0,i6 0,i6 p13] o ⟨rfl,rfl,trivial⟩ (fun w=>by kernel_rfl)) fun a o=>ls<|a_alloc (cs:=[i6 0,strv [],strv [],.slice none 0 0,.slice none 0 0,i6 0,i6 0,i6 0,i6 0].toArray) o rfl u zeroValue51 rfl fun b15 w a u o=>ls<|s_blkA o u sizeOf51 rfl rfl rfl rfl (one_cells rfl) .head fun w u=>re<|tn<|th<|th<|rg<|qm o rfl fun a o=>re<|tn<|midK (fun a w=>∃ (vA2:(List api_Token)) (vA7:Int) (vA8:Int) (vA9:Int) (vA10:(List api_Stmt)) (vA16:Str) (vA17:Str) (vA18:(List api_Node)) (vA23:(List api_Node)) (vA28:Int) (HA1:PH) (oaA3:Option Addr) (capA4:Nat) (oaA11:Option Addr) (capA12:Nat) (vsA13:List Value) (oaA19:Option Addr) (capA20:Nat) (oaA24:Option Addr) (capA25:Nat),(Z3p p12 p13) vA2 vA7 vA8 vA9 vA10 vA16 vA17 vA18 vA23 vA28=some r∧ExtM w0 (sepA [blk b2 (.cells [.slice oa3 p1.L.length cap4,i6 p1.At,i6 p1.E,i6 p1.Pos,.slice oa7 p1.Out.length cap8].toArray 171 (0,0)),sla 51 9 oa7 p1.Out.length cap8 vs9]).fp H HA1∧Fr 82 [(0,.pointer (some ⟨b2,0,none⟩)),(6,.pointer (some ⟨b14,0,none⟩)),(7,.pointer (some ⟨b15,0,none⟩))] a∧St w0 (sepA [blk b2 (.cells [.slice oa3 p1.L.length cap4,i6 p1.At,i6 p1.E,i6 p1.Pos,.slice oa7 p1.Out.length cap8].toArray 171 (0,0)),sla 51 9 oa7 p1.Out.length cap8 vs9]).fp [HA1] [sla 51 9 oaA11 vA10.length capA12 vsA13,blk b2 (.cells [.slice oaA3 vA2.length capA4,i6 vA7,i6 vA8,i6 vA9,.slice oaA11 vA10.length capA12].toArray 171 (0,0)),blk b14 (.cells [i6 0,strv [],strv [],.slice none 0 0,.slice none 0 0,i6 0,i6 0,i6 0,i6 0].toArray 51 (0,0)),blk b15 (.cells [i6 p12,strv vA16,strv vA17,.slice oaA19 vA18.length capA20,.slice oaA24 vA23.length capA25,i6 vA28,i6 0,i6 0,i6 p13].toArray 51 (0,0))] w∧vA2.length≤capA4∧SR HA1 oaA3 vA2∧Rows HA1 vsA13 vA10∧vA18.length≤capA20∧SR HA1 oaA19 vA18∧vA23.length≤capA25∧SR HA1 oaA24 vA23) ?_ ?_
 refine wb<|th<|rg<|qv o (e_eql o rfl rfl) fun a o=>qa o rfl fun a o=>re<|?_
 rcases bdich (decide (p12=1)) with hb16 | hb16
 replace hm:=itp_t hm hb16
 refine tn<|ctv o rfl hb16<|th<|?_
 obtain ⟨r17,h18,hm⟩:=bs hm
 refine rg<|qm o rfl fun a o=>?_
 replace u:=u.pk [2,2,0,0] rfl
 replace u:=St.sep [blk b2 (.cells [.slice oa3 p1.L.length cap4,i6 p1.At,i6 p1.E,i6 p1.Pos,.slice oa7 p1.Out.length cap8].toArray 171 (0,0)),sla 51 9 oa7 p1.Out.length cap8 vs9] u
 refine ls<|c1 o rfl call175 (Z3d_c (St.le u) (p1:=p1) (b2:=b2) (oa3:=oa3) (cap4:=cap4) (oa7:=oa7) (cap8:=cap8) (vs9:=vs9) hc5 hr6 hv10 (St.sepOk u) (St.sepDis u) h18) ⟨rfl,trivial⟩ (fun v w a hR o=>?_)
 obtain ⟨H22,oa23,cap24,oa27,cap28,vs29,rfl,hc25,hr26,hv30,hx19,hl20,hd21,hk⟩:=hR
 obtain ⟨u,hx19⟩:=And.intro (St.mutH u hk hx19 hl20 hd21) (St.extcMM u hx19)
 replace u:=u.unsep
 refine qv o (e_fa o fa51_1 rfl) fun a o=>ls<|s_blk o u sizeOf9 rfl rfl rfl rfl (.tail (.tail .head)) (.succ .zero) fun w u=>re<|tn<|th<|?_
 obtain ⟨r32,h33,hm⟩:=bs hm
 refine rg<|qm o rfl fun a o=>?_
 replace u:=u.pk [0,0,0,0] rfl
 replace u:=St.sep [blk b2 (.cells [.slice oa23 r17.2.L.length cap24,i6 r17.2.At,i6 r17.2.E,i6 r17.2.Pos,.slice oa27 r17.2.Out.length cap28].toArray 171 (0,0)),sla 51 9 oa27 r17.2.Out.length cap28 vs29] u
 refine ls<|c1 o rfl call161 (Z3b_c (St.le u) (p1:=r17.2) (b2:=b2) (oa3:=oa23) (cap4:=cap24) (oa7:=oa27) (cap8:=cap28) (vs9:=vs29) hc25 hr26 hv30 (St.sepOk u) (St.sepDis u) h33) ⟨rfl,rfl,trivial⟩ (fun v w a hR o=>?_)
 obtain ⟨H37,oa38,cap39,oa42,cap43,vs44,rfl,hc40,hr41,hv45,hx34,hl35,hd36,hk⟩:=hR
 obtain ⟨u,hx34⟩:=And.intro (St.mutH u hk hx34 hl35 hd36) (St.extcMM u hx34)
 replace u:=u.unsep
 refine re<|tn<|?_
 obtain ⟨r47,h48,hm⟩:=bs hm
 refine rg<|qm o rfl fun a o=>?_
 replace u:=u.pk [0,0,0,0] rfl
 replace u:=St.sep [blk b2 (.cells [.slice oa38 r32.L.length cap39,i6 r32.At,i6 r32.E,i6 r32.Pos,.slice oa42 r32.Out.length cap43].toArray 171 (0,0)),sla 51 9 oa42 r32.Out.length cap43 vs44] u
 refine ls<|c1 o rfl call176 (Z3a_c (St.le u) (p1:=r32) (b2:=b2) (oa3:=oa38) (cap4:=cap39) (oa7:=oa42) (cap8:=cap43) (vs9:=vs44) hc40 hr41 hv45 (St.sepOk u) (St.sepDis u) h48) ⟨rfl,trivial⟩ (fun v w a hR o=>?_)
 obtain ⟨H52,oa53,cap54,oa57,cap58,oa61,cap62,vs63,rfl,hc55,hr56,hc59,hr60,hv64,hx49,hl50,hd51,hk⟩:=hR
 obtain ⟨u,hx49⟩:=And.intro (St.mutH u hk hx49 hl50 hd51) (St.extcMM u hx49)
 replace u:=u.unsep
 refine qv o (e_fa o fa51_3 rfl) fun a o=>ls<|s_blk o u sizeOf49 rfl rfl rfl rfl (.tail (.tail .head)) (.succ (.succ (.succ .zero))) fun w u=>re<|bn<|tn<|?_
 replace u:=u.pk [1,0,1,0] rfl
 exact ⟨r47.2.L,r47.2.At,r47.2.E,r47.2.Pos,r47.2.Out,r17.1,[],r47.1,[],0,H52,oa57,cap58,oa61,cap62,vs63,oa53,cap54,none,0,hm,(ExtM.trans hx19 (ExtM.trans hx34 hx49)),o.hs,u,hc59,hr60,hv64,hc55,hr56,(Nat.le_refl _),((SR.nil _ _).mono (cp (cp hx49.sub hx34.sub) hx19.sub))⟩
 replace hm:=itp_f hm hb16
 refine tn<|cfv o rfl hb16<|th<|rg<|qv o (e_eql o rfl rfl) fun a o=>qa o rfl fun a o=>re<|?_
 rcases bdich (decide (p12=2)) with hb66 | hb66
 replace hm:=itp_t hm hb66
 refine tn<|ctv o rfl hb66<|th<|?_
 obtain ⟨r67,h68,hm⟩:=bs hm
 refine rg<|qm o rfl fun a o=>?_
 replace u:=u.pk [2,2,0,0] rfl
 replace u:=St.sep [blk b2 (.cells [.slice oa3 p1.L.length cap4,i6 p1.At,i6 p1.E,i6 p1.Pos,.slice oa7 p1.Out.length cap8].toArray 171 (0,0)),sla 51 9 oa7 p1.Out.length cap8 vs9] u
 refine ls<|c1 o rfl call175 (Z3d_c (St.le u) (p1:=p1) (b2:=b2) (oa3:=oa3) (cap4:=cap4) (oa7:=oa7) (cap8:=cap8) (vs9:=vs9) hc5 hr6 hv10 (St.sepOk u) (St.sepDis u) h68) ⟨rfl,trivial⟩ (fun v w a hR o=>?_)
 obtain ⟨H72,oa73,cap74,oa77,cap78,vs79,rfl,hc75,hr76,hv80,hx69,hl70,hd71,hk⟩:=hR
 obtain ⟨u,hx69⟩:=And.intro (St.mutH u hk hx69 hl70 hd71) (St.extcMM u hx69)
 replace u:=u.unsep
 refine qv o (e_fa o fa51_1 rfl) fun a o=>ls<|s_blk o u sizeOf9 rfl rfl rfl rfl (.tail (.tail .head)) (.succ .zero) fun w u=>re<|tn<|th<|?_
 obtain ⟨r82,h83,hm⟩:=bs hm
 refine rg<|qm o rfl fun a o=>?_
 replace u:=u.pk [0,0,0,0] rfl
 replace u:=St.sep [blk b2 (.cells [.slice oa73 r67.2.L.length cap74,i6 r67.2.At,i6 r67.2.E,i6 r67.2.Pos,.slice oa77 r67.2.Out.length cap78].toArray 171 (0,0)),sla 51 9 oa77 r67.2.Out.length cap78 vs79] u
 refine ls<|c1 o rfl call161 (Z3b_c (St.le u) (p1:=r67.2) (b2:=b2) (oa3:=oa73) (cap4:=cap74) (oa7:=oa77) (cap8:=cap78) (vs9:=vs79) hc75 hr76 hv80 (St.sepOk u) (St.sepDis u) h83) ⟨rfl,rfl,trivial⟩ (fun v w a hR o=>?_)
 obtain ⟨H87,oa88,cap89,oa92,cap93,vs94,rfl,hc90,hr91,hv95,hx84,hl85,hd86,hk⟩:=hR
 obtain ⟨u,hx84⟩:=And.intro (St.mutH u hk hx84 hl85 hd86) (St.extcMM u hx84)
 replace u:=u.unsep
 refine re<|tn<|?_
 obtain ⟨r97,h98,hm⟩:=bs hm
 refine rg<|qm o rfl fun a o=>?_
 replace u:=u.pk [0,0,0,0] rfl
 replace u:=St.sep [blk b2 (.cells [.slice oa88 r82.L.length cap89,i6 r82.At,i6 r82.E,i6 r82.Pos,.slice oa92 r82.Out.length cap93].toArray 171 (0,0)),sla 51 9 oa92 r82.Out.length cap93 vs94] u
 refine ls<|c1 o rfl call175 (Z3d_c (St.le u) (p1:=r82) (b2:=b2) (oa3:=oa88) (cap4:=cap89) (oa7:=oa92) (cap8:=cap93) (vs9:=vs94) hc90 hr91 hv95 (St.sepOk u) (St.sepDis u) h98) ⟨rfl,trivial⟩ (fun v w a hR o=>?_)
 obtain ⟨H102,oa103,cap104,oa107,cap108,vs109,rfl,hc105,hr106,hv110,hx99,hl100,hd101,hk⟩:=hR
 obtain ⟨u,hx99⟩:=And.intro (St.mutH u hk hx99 hl100 hd101) (St.extcMM u hx99)
 replace u:=u.unsep
 refine qv o (e_fa o fa51_2 rfl) fun a o=>ls<|s_blk o u sizeOf9 rfl rfl rfl rfl (.tail (.tail .head)) (.succ (.succ .zero)) fun w u=>re<|bn<|tn<|?_
 replace u:=u.pk [1,0,1,0] rfl
 exact ⟨r97.2.L,r97.2.At,r97.2.E,r97.2.Pos,r97.2.Out,r67.1,r97.1,[],[],0,H102,oa103,cap104,oa107,cap108,vs109,none,0,none,0,hm,(ExtM.trans hx69 (ExtM.trans hx84 hx99)),o.hs,u,hc105,hr106,hv110,(Nat.le_refl _),((SR.nil _ _).mono (cp (cp hx99.sub hx84.sub) hx69.sub)),(Nat.le_refl _),((SR.nil _ _).mono (cp (cp hx99.sub hx84.sub) hx69.sub))⟩
 replace hm:=itp_f hm hb66
 refine tn<|cfv o rfl hb66<|th<|rg<|qv o (e_eql o rfl rfl) fun a o=>qa o rfl fun a o=>re<|?_
 rcases bdich (decide (p12=3)) with hb112 | hb112
 replace hm:=itp_t hm hb112
 refine tn<|ctv o rfl hb112<|th<|?_
 obtain ⟨r113,h114,hm⟩:=bs hm
 refine rg<|qm o rfl fun a o=>?_
 replace u:=u.pk [2,2,0,0] rfl
 replace u:=St.sep [blk b2 (.cells [.slice oa3 p1.L.length cap4,i6 p1.At,i6 p1.E,i6 p1.Pos,.slice oa7 p1.Out.length cap8].toArray 171 (0,0)),sla 51 9 oa7 p1.Out.length cap8 vs9] u
 refine ls<|c1 o rfl call175 (Z3d_c (St.le u) (p1:=p1) (b2:=b2) (oa3:=oa3) (cap4:=cap4) (oa7:=oa7) (cap8:=cap8) (vs9:=vs9) hc5 hr6 hv10 (St.sepOk u) (St.sepDis u) h114) ⟨rfl,trivial⟩ (fun v w a hR o=>?_)
 obtain ⟨H118,oa119,cap120,oa123,cap124,vs125,rfl,hc121,hr122,hv126,hx115,hl116,hd117,hk⟩:=hR
 obtain ⟨u,hx115⟩:=And.intro (St.mutH u hk hx115 hl116 hd117) (St.extcMM u hx115)
 replace u:=u.unsep
 refine qv o (e_fa o fa51_2 rfl) fun a o=>ls<|s_blk o u sizeOf9 rfl rfl rfl rfl (.tail (.tail .head)) (.succ (.succ .zero)) fun w u=>re<|tn<|th<|?_
 obtain ⟨r128,h129,hm⟩:=bs hm
 refine rg<|qm o rfl fun a o=>?_
 replace u:=u.pk [0,0,0,0] rfl
 replace u:=St.sep [blk b2 (.cells [.slice oa119 r113.2.L.length cap120,i6 r113.2.At,i6 r113.2.E,i6 r113.2.Pos,.slice oa123 r113.2.Out.length cap124].toArray 171 (0,0)),sla 51 9 oa123 r113.2.Out.length cap124 vs125] u
 refine ls<|c1 o rfl call161 (Z3b_c (St.le u) (p1:=r113.2) (b2:=b2) (oa3:=oa119) (cap4:=cap120) (oa7:=oa123) (cap8:=cap124) (vs9:=vs125) hc121 hr122 hv126 (St.sepOk u) (St.sepDis u) h129) ⟨rfl,rfl,trivial⟩ (fun v w a hR o=>?_)
 obtain ⟨H133,oa134,cap135,oa138,cap139,vs140,rfl,hc136,hr137,hv141,hx130,hl131,hd132,hk⟩:=hR
 obtain ⟨u,hx130⟩:=And.intro (St.mutH u hk hx130 hl131 hd132) (St.extcMM u hx130)
 replace u:=u.unsep
 refine re<|tn<|?_
 obtain ⟨r143,h144,hm⟩:=bs hm
 refine rg<|qm o rfl fun a o=>?_
 replace u:=u.pk [0,0,0,0] rfl
 replace u:=St.sep [blk b2 (.cells [.slice oa134 r128.L.length cap135,i6 r128.At,i6 r128.E,i6 r128.Pos,.slice oa138 r128.Out.length cap139].toArray 171 (0,0)),sla 51 9 oa138 r128.Out.length cap139 vs140] u
 refine ls<|c1 o rfl call176 (Z3a_c (St.le u) (p1:=r128) (b2:=b2) (oa3:=oa134) (cap4:=cap135) (oa7:=oa138) (cap8:=cap139) (vs9:=vs140) hc136 hr137 hv141 (St.sepOk u) (St.sepDis u) h144) ⟨rfl,trivial⟩ (fun v w a hR o=>?_)
 obtain ⟨H148,oa149,cap150,oa153,cap154,oa157,cap158,vs159,rfl,hc151,hr152,hc155,hr156,hv160,hx145,hl146,hd147,hk⟩:=hR
 obtain ⟨u,hx145⟩:=And.intro (St.mutH u hk hx145 hl146 hd147) (St.extcMM u hx145)
 replace u:=u.unsep
 refine qv o (e_fa o fa51_3 rfl) fun a o=>ls<|s_blk o u sizeOf49 rfl rfl rfl rfl (.tail (.tail .head)) (.succ (.succ (.succ .zero))) fun w u=>re<|bn<|tn<|?_
 replace u:=u.pk [1,0,1,0] rfl
 exact ⟨r143.2.L,r143.2.At,r143.2.E,r143.2.Pos,r143.2.Out,[],r113.1,r143.1,[],0,H148,oa153,cap154,oa157,cap158,vs159,oa149,cap150,none,0,hm,(ExtM.trans hx115 (ExtM.trans hx130 hx145)),o.hs,u,hc155,hr156,hv160,hc151,hr152,(Nat.le_refl _),((SR.nil _ _).mono (cp (cp hx145.sub hx130.sub) hx115.sub))⟩
 replace hm:=itp_f hm hb112
 refine tn<|cfv o rfl hb112<|th<|rg<|qv o (e_eql o rfl rfl) fun a o=>qa o rfl fun a o=>re<|?_
 rcases bdich (decide (p12=4)) with hb162 | hb162
 replace hm:=itp_t hm hb162
 refine tn<|ctv o rfl hb162<|th<|?_
 obtain ⟨r163,h164,hm⟩:=bs hm
 refine rg<|qm o rfl fun a o=>?_
 replace u:=u.pk [2,2,0,0] rfl
 replace u:=St.sep [blk b2 (.cells [.slice oa3 p1.L.length cap4,i6 p1.At,i6 p1.E,i6 p1.Pos,.slice oa7 p1.Out.length cap8].toArray 171 (0,0)),sla 51 9 oa7 p1.Out.length cap8 vs9] u
 refine ls<|c1 o rfl call175 (Z3d_c (St.le u) (p1:=p1) (b2:=b2) (oa3:=oa3) (cap4:=cap4) (oa7:=oa7) (cap8:=cap8) (vs9:=vs9) hc5 hr6 hv10 (St.sepOk u) (St.sepDis u) h164) ⟨rfl,trivial⟩ (fun v w a hR o=>?_)
 obtain ⟨H168,oa169,cap170,oa173,cap174,vs175,rfl,hc171,hr172,hv176,hx165,hl166,hd167,hk⟩:=hR
 obtain ⟨u,hx165⟩:=And.intro (St.mutH u hk hx165 hl166 hd167) (St.extcMM u hx165)
 replace u:=u.unsep
 refine qv o (e_fa o fa51_1 rfl) fun a o=>ls<|s_blk o u sizeOf9 rfl rfl rfl rfl (.tail (.tail .head)) (.succ .zero) fun w u=>re<|tn<|th<|?_
 obtain ⟨r178,h179,hm⟩:=bs hm
 refine rg<|qm o rfl fun a o=>?_
 replace u:=u.pk [0,0,0,0] rfl
 replace u:=St.sep [blk b2 (.cells [.slice oa169 r163.2.L.length cap170,i6 r163.2.At,i6 r163.2.E,i6 r163.2.Pos,.slice oa173 r163.2.Out.length cap174].toArray 171 (0,0)),sla 51 9 oa173 r163.2.Out.length cap174 vs175] u
 refine ls<|c1 o rfl call161 (Z3b_c (St.le u) (p1:=r163.2) (b2:=b2) (oa3:=oa169) (cap4:=cap170) (oa7:=oa173) (cap8:=cap174) (vs9:=vs175) hc171 hr172 hv176 (St.sepOk u) (St.sepDis u) h179) ⟨rfl,rfl,trivial⟩ (fun v w a hR o=>?_)
 obtain ⟨H183,oa184,cap185,oa188,cap189,vs190,rfl,hc186,hr187,hv191,hx180,hl181,hd182,hk⟩:=hR
 obtain ⟨u,hx180⟩:=And.intro (St.mutH u hk hx180 hl181 hd182) (St.extcMM u hx180)
 replace u:=u.unsep
 refine re<|tn<|th<|?_
 obtain ⟨r193,h194,hm⟩:=bs hm
 refine rg<|qm o rfl fun a o=>?_
 replace u:=u.pk [0,0,0,0] rfl
 replace u:=St.sep [blk b2 (.cells [.slice oa184 r178.L.length cap185,i6 r178.At,i6 r178.E,i6 r178.Pos,.slice oa188 r178.Out.length cap189].toArray 171 (0,0)),sla 51 9 oa188 r178.Out.length cap189 vs190] u
 refine ls<|c1 o rfl call175 (Z3d_c (St.le u) (p1:=r178) (b2:=b2) (oa3:=oa184) (cap4:=cap185) (oa7:=oa188) (cap8:=cap189) (vs9:=vs190) hc186 hr187 hv191 (St.sepOk u) (St.sepDis u) h194) ⟨rfl,trivial⟩ (fun v w a hR o=>?_)
 obtain ⟨H198,oa199,cap200,oa203,cap204,vs205,rfl,hc201,hr202,hv206,hx195,hl196,hd197,hk⟩:=hR
 obtain ⟨u,hx195⟩:=And.intro (St.mutH u hk hx195 hl196 hd197) (St.extcMM u hx195)
 replace u:=u.unsep
 refine qv o (e_fa o fa51_2 rfl) fun a o=>ls<|s_blk o u sizeOf9 rfl rfl rfl rfl (.tail (.tail .head)) (.succ (.succ .zero)) fun w u=>re<|tn<|th<|?_
 obtain ⟨r208,h209,hm⟩:=bs hm
 refine rg<|qm o rfl fun a o=>?_
 replace u:=u.pk [0,0,0,0] rfl
 replace u:=St.sep [blk b2 (.cells [.slice oa199 r193.2.L.length cap200,i6 r193.2.At,i6 r193.2.E,i6 r193.2.Pos,.slice oa203 r193.2.Out.length cap204].toArray 171 (0,0)),sla 51 9 oa203 r193.2.Out.length cap204 vs205] u
 refine ls<|c1 o rfl call161 (Z3b_c (St.le u) (p1:=r193.2) (b2:=b2) (oa3:=oa199) (cap4:=cap200) (oa7:=oa203) (cap8:=cap204) (vs9:=vs205) hc201 hr202 hv206 (St.sepOk u) (St.sepDis u) h209) ⟨rfl,rfl,trivial⟩ (fun v w a hR o=>?_)
 obtain ⟨H213,oa214,cap215,oa218,cap219,vs220,rfl,hc216,hr217,hv221,hx210,hl211,hd212,hk⟩:=hR
 obtain ⟨u,hx210⟩:=And.intro (St.mutH u hk hx210 hl211 hd212) (St.extcMM u hx210)
 replace u:=u.unsep
 refine re<|tn<|th<|?_
 obtain ⟨r223,h224,hm⟩:=bs hm
 refine rg<|qm o rfl fun a o=>?_
 replace u:=u.pk [0,0,0,0] rfl
 replace u:=St.sep [blk b2 (.cells [.slice oa214 r208.L.length cap215,i6 r208.At,i6 r208.E,i6 r208.Pos,.slice oa218 r208.Out.length cap219].toArray 171 (0,0)),sla 51 9 oa218 r208.Out.length cap219 vs220] u
 refine ls<|c1 o rfl call176 (Z3a_c (St.le u) (p1:=r208) (b2:=b2) (oa3:=oa214) (cap4:=cap215) (oa7:=oa218) (cap8:=cap219) (vs9:=vs220) hc216 hr217 hv221 (St.sepOk u) (St.sepDis u) h224) ⟨rfl,trivial⟩ (fun v w a hR o=>?_)
 obtain ⟨H228,oa229,cap230,oa233,cap234,oa237,cap238,vs239,rfl,hc231,hr232,hc235,hr236,hv240,hx225,hl226,hd227,hk⟩:=hR
 obtain ⟨u,hx225⟩:=And.intro (St.mutH u hk hx225 hl226 hd227) (St.extcMM u hx225)
 replace u:=u.unsep
 refine qv o (e_fa o fa51_3 rfl) fun a o=>ls<|s_blk o u sizeOf49 rfl rfl rfl rfl (.tail (.tail .head)) (.succ (.succ (.succ .zero))) fun w u=>re<|tn<|th<|?_
 obtain ⟨r242,h243,hm⟩:=bs hm
 refine rg<|qm o rfl fun a o=>?_
 replace u:=u.pk [0,0,0,0] rfl
 replace u:=St.sep [blk b2 (.cells [.slice oa233 r223.2.L.length cap234,i6 r223.2.At,i6 r223.2.E,i6 r223.2.Pos,.slice oa237 r223.2.Out.length cap238].toArray 171 (0,0)),sla 51 9 oa237 r223.2.Out.length cap238 vs239] u
 refine ls<|c1 o rfl call161 (Z3b_c (St.le u) (p1:=r223.2) (b2:=b2) (oa3:=oa233) (cap4:=cap234) (oa7:=oa237) (cap8:=cap238) (vs9:=vs239) hc235 hr236 hv240 (St.sepOk u) (St.sepDis u) h243) ⟨rfl,rfl,trivial⟩ (fun v w a hR o=>?_)
 obtain ⟨H247,oa248,cap249,oa252,cap253,vs254,rfl,hc250,hr251,hv255,hx244,hl245,hd246,hk⟩:=hR
 obtain ⟨u,hx244⟩:=And.intro (St.mutH u hk hx244 hl245 hd246) (St.extcMM u hx244)
 replace u:=u.unsep
 refine re<|tn<|?_
 obtain ⟨r257,h258,hm⟩:=bs hm
 refine rg<|qm o rfl fun a o=>?_
 replace u:=u.pk [0,0,0,0] rfl
 replace u:=St.sep [blk b2 (.cells [.slice oa248 r242.L.length cap249,i6 r242.At,i6 r242.E,i6 r242.Pos,.slice oa252 r242.Out.length cap253].toArray 171 (0,0)),sla 51 9 oa252 r242.Out.length cap253 vs254] u
 refine ls<|c1 o rfl call176 (Z3a_c (St.le u) (p1:=r242) (b2:=b2) (oa3:=oa248) (cap4:=cap249) (oa7:=oa252) (cap8:=cap253) (vs9:=vs254) hc250 hr251 hv255 (St.sepOk u) (St.sepDis u) h258) ⟨rfl,trivial⟩ (fun v w a hR o=>?_)
 obtain ⟨H262,oa263,cap264,oa267,cap268,oa271,cap272,vs273,rfl,hc265,hr266,hc269,hr270,hv274,hx259,hl260,hd261,hk⟩:=hR
 obtain ⟨u,hx259⟩:=And.intro (St.mutH u hk hx259 hl260 hd261) (St.extcMM u hx259)
 replace u:=u.unsep
 refine qv o (e_fa o fa51_4 rfl) fun a o=>ls<|s_blk o u sizeOf49 rfl rfl rfl rfl (.tail (.tail .head)) (.succ (.succ (.succ (.succ .zero)))) fun w u=>re<|bn<|tn<|?_
 replace u:=u.pk [1,0,1,0] rfl
 exact ⟨r257.2.L,r257.2.At,r257.2.E,r257.2.Pos,r257.2.Out,r163.1,r193.1,r223.1,r257.1,0,H262,oa267,cap268,oa271,cap272,vs273,oa229,cap230,oa263,cap264,hm,(ExtM.trans hx165 (ExtM.trans hx180 (ExtM.trans hx195 (ExtM.trans hx210 (ExtM.trans hx225 (ExtM.trans hx244 hx259)))))),o.hs,u,hc269,hr270,hv274,hc231,(hr232.mono (cp hx259.sub hx244.sub)),hc265,hr266⟩
 replace hm:=itp_f hm hb162
 refine tn<|cfv o rfl hb162<|th<|th<|rg<|qv o (e_eql o rfl rfl) fun a o=>qa o rfl fun a o=>re<|tn<|midK (fun a w=>∃ (vB1:Bool),(Z3q N (Z3p p12 p13) p1 p12) vB1=some r∧Fr 82 [(0,.pointer (some ⟨b2,0,none⟩)),(6,.pointer (some ⟨b14,0,none⟩)),(7,.pointer (some ⟨b15,0,none⟩)),(11,i6 p12),(62,.bool vB1)] a∧St w0 (sepA [blk b2 (.cells [.slice oa3 p1.L.length cap4,i6 p1.At,i6 p1.E,i6 p1.Pos,.slice oa7 p1.Out.length cap8].toArray 171 (0,0)),sla 51 9 oa7 p1.Out.length cap8 vs9]).fp [H] [sla 51 9 oa7 p1.Out.length cap8 vs9,blk b2 (.cells [.slice oa3 p1.L.length cap4,i6 p1.At,i6 p1.E,i6 p1.Pos,.slice oa7 p1.Out.length cap8].toArray 171 (0,0)),blk b14 (.cells [i6 0,strv [],strv [],.slice none 0 0,.slice none 0 0,i6 0,i6 0,i6 0,i6 0].toArray 51 (0,0)),blk b15 (.cells [i6 p12,strv [],strv [],.slice none 0 0,.slice none 0 0,i6 0,i6 0,i6 0,i6 p13].toArray 51 (0,0))] w) ?_ ?_
 rcases bdich (decide (p12=5)) with hb276 | hb276
 replace hm:=itp_t hm hb276
 refine ctv o rfl hb276<|wk<|tn<|?_
 replace u:=u.pk [3,2,1,0] rfl
 exact ⟨(decide (p12=5)),hm,o.hs,u⟩
 replace hm:=itp_f hm hb276
 refine cfv o rfl hb276<|th<|rg<|qv o (e_eql o rfl rfl) fun a o=>qa o rfl fun a o=>re<|?_
 rcases bdich (decide (p12=6)) with hb277 | hb277
 replace hm:=itp_t hm hb277
 refine tn<|ctv o rfl hb277<|wk<|tn<|?_
 replace u:=u.pk [3,2,1,0] rfl
 exact ⟨(decide (p12=6)),hm,o.hs,u⟩
 replace hm:=itp_f hm hb277
 refine tn<|cfv o rfl hb277<|th<|rg<|qv o (e_eql o rfl rfl) fun a o=>qa o rfl fun a o=>re<|?_
 rcases bdich (decide (p12=9)) with hb278 | hb278
 replace hm:=itp_t hm hb278
 refine tn<|ctv o rfl hb278<|wk<|tn<|?_
 replace u:=u.pk [3,2,1,0] rfl
 exact ⟨(decide (p12=9)),hm,o.hs,u⟩
 replace hm:=itp_f hm hb278
 refine tn<|cfv o rfl hb278<|rg<|qv o (e_eql o rfl rfl) fun a o=>qa o rfl fun a o=>re<|tn<|?_
 replace u:=u.pk [3,2,1,0] rfl
 exact ⟨(decide (p12=10)),hm,o.hs,u⟩
 rintro a w ⟨vB1,hm,o,u⟩
 unfold Z3q at hm
 rcases bdich vB1 with hb279 | hb279
 replace hm:=ite_t hm hb279
 refine ctv o rfl hb279<|?_
 obtain ⟨r280,h281,hm⟩:=bs hm
 refine rg<|qm o rfl fun a o=>?_
 replace u:=u.pk [1,0,0,0] rfl
 replace u:=St.sep [blk b2 (.cells [.slice oa3 p1.L.length cap4,i6 p1.At,i6 p1.E,i6 p1.Pos,.slice oa7 p1.Out.length cap8].toArray 171 (0,0)),sla 51 9 oa7 p1.Out.length cap8 vs9] u
 refine ls<|c1 o rfl call175 (Z3d_c (St.le u) (p1:=(leadlineref04_P.mk p1.L p1.At p1.E p1.Pos p1.Out)) (b2:=b2) (oa3:=oa3) (cap4:=cap4) (oa7:=oa7) (cap8:=cap8) (vs9:=vs9) hc5 hr6 hv10 (St.sepOk u) (St.sepDis u) h281) ⟨rfl,trivial⟩ (fun v w a hR o=>?_)
 obtain ⟨H285,oa286,cap287,oa290,cap291,vs292,rfl,hc288,hr289,hv293,hx282,hl283,hd284,hk⟩:=hR
 obtain ⟨u,hx282⟩:=And.intro (St.mutH u hk hx282 hl283 hd284) (St.extcMM u hx282)
 replace u:=u.unsep
 refine qv o (e_fa o fa51_2 rfl) fun a o=>ls<|s_blk o u sizeOf9 rfl rfl rfl rfl (.tail (.tail (.tail .head))) (.succ (.succ .zero)) fun w u=>re<|bn<|tn<|?_
 replace u:=u.pk [1,0,0,0] rfl
 exact ⟨r280.2.L,r280.2.At,r280.2.E,r280.2.Pos,r280.2.Out,[],r280.1,[],[],0,H285,oa286,cap287,oa290,cap291,vs292,none,0,none,0,hm,hx282,o.hs,u,hc288,hr289,hv293,(Nat.le_refl _),((SR.nil _ _).mono hx282.sub),(Nat.le_refl _),((SR.nil _ _).mono hx282.sub)⟩
 replace hm:=ite_f hm hb279
 refine cfv o rfl hb279<|th<|th<|rg<|qv o (e_eql o rfl rfl) fun a o=>qa o rfl fun a o=>re<|tn<|midK (fun a w=>∃ (vB2:Bool),(Z3r N (Z3p p12 p13) p1 p12) vB2=some r∧Fr 82 [(0,.pointer (some ⟨b2,0,none⟩)),(6,.pointer (some ⟨b14,0,none⟩)),(7,.pointer (some ⟨b15,0,none⟩)),(11,i6 p12),(70,.bool vB2)] a∧St w0 (sepA [blk b2 (.cells [.slice oa3 p1.L.length cap4,i6 p1.At,i6 p1.E,i6 p1.Pos,.slice oa7 p1.Out.length cap8].toArray 171 (0,0)),sla 51 9 oa7 p1.Out.length cap8 vs9]).fp [H] [sla 51 9 oa7 p1.Out.length cap8 vs9,blk b2 (.cells [.slice oa3 p1.L.length cap4,i6 p1.At,i6 p1.E,i6 p1.Pos,.slice oa7 p1.Out.length cap8].toArray 171 (0,0)),blk b14 (.cells [i6 0,strv [],strv [],.slice none 0 0,.slice none 0 0,i6 0,i6 0,i6 0,i6 0].toArray 51 (0,0)),blk b15 (.cells [i6 p12,strv [],strv [],.slice none 0 0,.slice none 0 0,i6 0,i6 0,i6 0,i6 p13].toArray 51 (0,0))] w) ?_ ?_
 rcases bdich (decide (p12=11)) with hb295 | hb295
 replace hm:=itp_t hm hb295
 refine ctv o rfl hb295<|wk<|tn<|?_
 exact ⟨(decide (p12=11)),hm,o.hs,u⟩
 replace hm:=itp_f hm hb295
 refine cfv o rfl hb295<|rg<|qv o (e_eql o rfl rfl) fun a o=>qa o rfl fun a o=>re<|tn<|?_
 exact ⟨(decide (p12=14)),hm,o.hs,u⟩
 rintro a w ⟨vB2,hm,o,u⟩
 unfold Z3r at hm
 rcases bdich vB2 with hb296 | hb296
 replace hm:=ite_t hm hb296
 refine ctv o rfl hb296<|?_
 obtain ⟨r297,h298,hm⟩:=bs hm
 refine rg<|qm o rfl fun a o=>?_
 replace u:=u.pk [1,0,0,0] rfl
 replace u:=St.sep [blk b2 (.cells [.slice oa3 p1.L.length cap4,i6 p1.At,i6 p1.E,i6 p1.Pos,.slice oa7 p1.Out.length cap8].toArray 171 (0,0)),sla 51 9 oa7 p1.Out.length cap8 vs9] u
 refine ls<|c1 o rfl call176 (Z3a_c (St.le u) (p1:=(leadlineref04_P.mk p1.L p1.At p1.E p1.Pos p1.Out)) (b2:=b2) (oa3:=oa3) (cap4:=cap4) (oa7:=oa7) (cap8:=cap8) (vs9:=vs9) hc5 hr6 hv10 (St.sepOk u) (St.sepDis u) h298) ⟨rfl,trivial⟩ (fun v w a hR o=>?_)
 obtain ⟨H302,oa303,cap304,oa307,cap308,oa311,cap312,vs313,rfl,hc305,hr306,hc309,hr310,hv314,hx299,hl300,hd301,hk⟩:=hR
 obtain ⟨u,hx299⟩:=And.intro (St.mutH u hk hx299 hl300 hd301) (St.extcMM u hx299)
 replace u:=u.unsep
 refine qv o (e_fa o fa51_3 rfl) fun a o=>ls<|s_blk o u sizeOf49 rfl rfl rfl rfl (.tail (.tail (.tail .head))) (.succ (.succ (.succ .zero))) fun w u=>re<|bn<|tn<|?_
 replace u:=u.pk [1,0,0,0] rfl
 exact ⟨r297.2.L,r297.2.At,r297.2.E,r297.2.Pos,r297.2.Out,[],[],r297.1,[],0,H302,oa307,cap308,oa311,cap312,vs313,oa303,cap304,none,0,hm,hx299,o.hs,u,hc309,hr310,hv314,hc305,hr306,(Nat.le_refl _),((SR.nil _ _).mono hx299.sub)⟩
 replace hm:=ite_f hm hb296
 refine cfv o rfl hb296<|th<|rg<|qv o (e_eql o rfl rfl) fun a o=>qa o rfl fun a o=>re<|?_
 rcases bdich (decide (p12=12)) with hb316 | hb316
 replace hm:=itp_t hm hb316
 refine tn<|ctv o rfl hb316<|?_
 obtain ⟨r317,h318,hm⟩:=bs hm
 refine rg<|qm o rfl fun a o=>?_
 replace u:=u.pk [1,0,0,0] rfl
 replace u:=St.sep [blk b2 (.cells [.slice oa3 p1.L.length cap4,i6 p1.At,i6 p1.E,i6 p1.Pos,.slice oa7 p1.Out.length cap8].toArray 171 (0,0)),sla 51 9 oa7 p1.Out.length cap8 vs9] u
 refine ls<|c1 o rfl call177 (Z3s_c (St.le u) (p1:=(leadlineref04_P.mk p1.L p1.At p1.E p1.Pos p1.Out)) (b2:=b2) (oa3:=oa3) (cap4:=cap4) (oa7:=oa7) (cap8:=cap8) (vs9:=vs9) hc5 hr6 hv10 (St.sepOk u) (St.sepDis u) h318) ⟨rfl,trivial⟩ (fun v w a hR o=>?_)
 obtain ⟨H322,oa323,cap324,oa327,cap328,vs329,rfl,hc325,hr326,hv330,hx319,hl320,hd321,hk⟩:=hR
 obtain ⟨u,hx319⟩:=And.intro (St.mutH u hk hx319 hl320 hd321) (St.extcMM u hx319)
 replace u:=u.unsep
 refine qv o (e_fa o fa51_5 rfl) fun a o=>ls<|s_blk o u sizeOf3 rfl rfl rfl rfl (.tail (.tail (.tail .head))) (.succ (.succ (.succ (.succ (.succ .zero))))) fun w u=>re<|bn<|tn<|?_
 replace u:=u.pk [1,0,0,0] rfl
 exact ⟨r317.2.L,r317.2.At,r317.2.E,r317.2.Pos,r317.2.Out,[],[],[],[],r317.1,H322,oa323,cap324,oa327,cap328,vs329,none,0,none,0,hm,hx319,o.hs,u,hc325,hr326,hv330,(Nat.le_refl _),((SR.nil _ _).mono hx319.sub),(Nat.le_refl _),((SR.nil _ _).mono hx319.sub)⟩
 replace hm:=itp_f hm hb316
 refine tn<|cfv o rfl hb316<|wk<|bn<|tn<|?_
 exact ⟨p1.L,p1.At,p1.E,p1.Pos,p1.Out,[],[],[],[],0,H,oa3,cap4,oa7,cap8,vs9,none,0,none,0,hm,(ExtM.refl _ _ _),o.hs,u,hc5,hr6,hv10,(Nat.le_refl _),(SR.nil _ _),(Nat.le_refl _),(SR.nil _ _)⟩
 rintro a w ⟨vA2,vA7,vA8,vA9,vA10,vA16,vA17,vA18,vA23,vA28,HA1,oaA3,capA4,oaA11,capA12,vsA13,oaA19,capA20,oaA24,capA25,hm,hxHA1,o,u,hcA5,hrA6,hvA14,hcA21,hrA22,hcA26,hrA27⟩
 unfold Z3p at hm
 refine th<|rg<|qv o (e_ldA o Tryz.isAgg51 Tryz.sizeOf51 rfl rfl ((St.ld u).cellsB t3)) fun a o=>ls<|s_blkA o u sizeOf51 rfl rfl rfl rfl (one_cells rfl) (.tail (.tail .head)) fun w u=>re<|tn<|wr<|?_
 obtain rfl:=si hm
 exact r1c (vs:=[i6 p12,strv vA16,strv vA17,.slice oaA19 vA18.length capA20,.slice oaA24 vA23.length capA25,i6 vA28,i6 0,i6 0,i6 p13]) (.inl rfl) o results168 rfl isAgg51 sizeOf51 rfl ((St.ld u).cellsB t2) ⟨HA1,_,oaA3,capA4,oaA11,capA12,vsA13,rfl,(show Enc.rep (α:=api_Stmt) HA1 [i6 p12,strv vA16,strv vA17,.slice oaA19 vA18.length capA20,.slice oaA24 vA23.length capA25,i6 vA28,i6 0,i6 0,i6 p13] (api_Stmt.mk p12 vA16 vA17 vA18 vA23 vA28 0 0 p13) from ⟨_,_,rfl,rfl,⟨_,_,rfl,rfl,⟨_,_,rfl,rfl,⟨_,_,rfl,⟨_,_,rfl,hcA21,hrA22⟩,⟨_,_,rfl,⟨_,_,rfl,hcA26,hrA27⟩,⟨_,_,rfl,rfl,⟨_,_,rfl,rfl,⟨_,_,rfl,rfl,rfl⟩⟩⟩⟩⟩⟩⟩⟩),hcA5,hrA6,hvA14,hxHA1,(St.le u),(St.disL (u.pickL (.cons (.tail .head) (.cons .head .nil)))),(u.pickL (.cons (.tail .head) (.cons .head .nil))).endMut⟩
set_option maxHeartbeats 4000000 in
theorem Z3f_g:∀ (N:Nat),(∀ {w0:World} {H:PH} (_:H.le w0) {b2:Nat} {p1:leadlineref04_P} {oa3:Option Addr} {cap4:Nat} (_:p1.L.length≤cap4) (_:SR H oa3 p1.L) {oa7:Option Addr} {cap8:Nat} {vs9:List Value} (_:Rows H vs9 p1.Out) {p12:Int} {p13:Int} (_:(sepA [blk b2 (.cells [.slice oa3 p1.L.length cap4,i6 p1.At,i6 p1.E,i6 p1.Pos,.slice oa7 p1.Out.length cap8].toArray 171 (0,0)),sla 51 9 oa7 p1.Out.length cap8 vs9]).ok (hp w0)) (_:∀ b,(sepA [blk b2 (.cells [.slice oa3 p1.L.length cap4,i6 p1.At,i6 p1.E,i6 p1.Pos,.slice oa7 p1.Out.length cap8].toArray 171 (0,0)),sla 51 9 oa7 p1.Out.length cap8 vs9]).fp b→H b=none) {r:(Int×leadlineref04_P)} (_:Z34 N p1 p12 p13=some r),Tot Tryz.prog 169 #[.pointer (some ⟨b2,0,none⟩),i6 p12,i6 p13] w0 (fun v w'=>∃ (H':PH) (oa1m:Option Addr) (cap1m:Nat) (oa2m:Option Addr) (cap2m:Nat) (vs2m:List Value),v=i6 r.1∧r.2.L.length≤cap1m∧SR H' oa1m r.2.L∧Rows H' vs2m r.2.Out∧ExtM w0 (sepA [blk b2 (.cells [.slice oa3 p1.L.length cap4,i6 p1.At,i6 p1.E,i6 p1.Pos,.slice oa7 p1.Out.length cap8].toArray 171 (0,0)),sla 51 9 oa7 p1.Out.length cap8 vs9]).fp H H'∧H'.le w'∧(∀ b,(sepA [blk b2 (.cells [.slice oa1m r.2.L.length cap1m,i6 r.2.At,i6 r.2.E,i6 r.2.Pos,.slice oa2m r.2.Out.length cap2m].toArray 171 (0,0)),sla 51 9 oa2m r.2.Out.length cap2m vs2m]).fp b→H' b=none)∧Mut w0 (sepA [blk b2 (.cells [.slice oa3 p1.L.length cap4,i6 p1.At,i6 p1.E,i6 p1.Pos,.slice oa7 p1.Out.length cap8].toArray 171 (0,0)),sla 51 9 oa7 p1.Out.length cap8 vs9]) (sepA [blk b2 (.cells [.slice oa1m r.2.L.length cap1m,i6 r.2.At,i6 r.2.E,i6 r.2.Pos,.slice oa2m r.2.Out.length cap2m].toArray 171 (0,0)),sla 51 9 oa2m r.2.Out.length cap2m vs2m]) w'))∧(∀ {w0:World} {H:PH} (_:H.le w0) {b2:Nat} {p1:leadlineref04_P} {oa3:Option Addr} {cap4:Nat} (_:p1.L.length≤cap4) (_:SR H oa3 p1.L) {oa7:Option Addr} {cap8:Nat} {vs9:List Value} (_:Rows H vs9 p1.Out) {p12:Int} {p13:Int} (_:(sepA [blk b2 (.cells [.slice oa3 p1.L.length cap4,i6 p1.At,i6 p1.E,i6 p1.Pos,.slice oa7 p1.Out.length cap8].toArray 171 (0,0)),sla 51 9 oa7 p1.Out.length cap8 vs9]).ok (hp w0)) (_:∀ b,(sepA [blk b2 (.cells [.slice oa3 p1.L.length cap4,i6 p1.At,i6 p1.E,i6 p1.Pos,.slice oa7 p1.Out.length cap8].toArray 171 (0,0)),sla 51 9 oa7 p1.Out.length cap8 vs9]).fp b→H b=none) {r:leadlineref04_P} (_:Z3f N p1 p12 p13=some r),Tot Tryz.prog 160 #[.pointer (some ⟨b2,0,none⟩),i6 p12,i6 p13] w0 (fun v w'=>∃ (H':PH) (oa1m:Option Addr) (cap1m:Nat) (oa2m:Option Addr) (cap2m:Nat) (vs2m:List Value),v=.tuple #[]∧r.L.length≤cap1m∧SR H' oa1m r.L∧Rows H' vs2m r.Out∧ExtM w0 (sepA [blk b2 (.cells [.slice oa3 p1.L.length cap4,i6 p1.At,i6 p1.E,i6 p1.Pos,.slice oa7 p1.Out.length cap8].toArray 171 (0,0)),sla 51 9 oa7 p1.Out.length cap8 vs9]).fp H H'∧H'.le w'∧(∀ b,(sepA [blk b2 (.cells [.slice oa1m r.L.length cap1m,i6 r.At,i6 r.E,i6 r.Pos,.slice oa2m r.Out.length cap2m].toArray 171 (0,0)),sla 51 9 oa2m r.Out.length cap2m vs2m]).fp b→H' b=none)∧Mut w0 (sepA [blk b2 (.cells [.slice oa3 p1.L.length cap4,i6 p1.At,i6 p1.E,i6 p1.Pos,.slice oa7 p1.Out.length cap8].toArray 171 (0,0)),sla 51 9 oa7 p1.Out.length cap8 vs9]) (sepA [blk b2 (.cells [.slice oa1m r.L.length cap1m,i6 r.At,i6 r.E,i6 r.Pos,.slice oa2m r.Out.length cap2m].toArray 171 (0,0)),sla 51 9 oa2m r.Out.length cap2m vs2m]) w')):=by
 intro N
 induction N with
  | zero=>exact ⟨(by intros;rename_i hm;simp [Z34] at hm),(by intros;rename_i hm;simp [Z3f] at hm)⟩
  | succ N ih=>
 obtain ⟨ih_Z34,ih_Z3f⟩:=ih
 refine ⟨?_,?_⟩
 intro w0 H hH b2 p1 oa3 cap4 hc5 hr6 oa7 cap8 vs9 hv10 p12 p13 hO hD r hm
 rw [Z34] at hm
 refine fn0 func169 rfl ntmps169 rfl rfl fun a o=>?_
 have u:=startM hH hO hD
 refine th<|rg<|qa o rfl fun a o=>re<|tn<|th<|rg<|qm o rfl fun a o=>qv o (e_nilp o rfl) fun a o=>qv o (e_fa o fa171_4 rfl) fun a o=>qv o (e_ld o isAgg46 rfl ((St.ld u).cellB t0 rfl)) fun a o=>qv o (e_lenL (α:=api_Stmt) (xs:=p1.Out) o runUnderlying46 rfl) fun a o=>qa o rfl fun a o=>re<|tn<|th<|th<|midK (fun a w=>∃ (vA1:Bool),(Z35 (Z3f N) N p1 p12 p13) vA1=some r∧Fr 60 [(0,.pointer (some ⟨b2,0,none⟩)),(1,i6 p12),(2,i6 p13),(7,i6 (p1.Out.length:Int)),(25,.bool vA1)] a∧St w0 (sepA [blk b2 (.cells [.slice oa3 p1.L.length cap4,i6 p1.At,i6 p1.E,i6 p1.Pos,.slice oa7 p1.Out.length cap8].toArray 171 (0,0)),sla 51 9 oa7 p1.Out.length cap8 vs9]).fp [H] [sla 51 9 oa7 p1.Out.length cap8 vs9,blk b2 (.cells [.slice oa3 p1.L.length cap4,i6 p1.At,i6 p1.E,i6 p1.Pos,.slice oa7 p1.Out.length cap8].toArray 171 (0,0))] w) ?_ ?_
 rcases bdich (decide (12 < p12)) with hb14 | hb14
 replace hm:=itp_t hm hb14
 obtain ⟨r15,h16,hm⟩:=bs hm
 refine rdS 13 u wide fun w u=>dr 0 u o rfl (e_move o rfl) fun a o=>dr 1 u o rfl (e_gtr o rfl rfl) fun a o=>dr 2 u o rfl (e_as (e_move o rfl) (congrArg Value.bool hb14)) fun a o=>dg 3 (St.ld u) o rfl (fun w hl=>e_move o rfl) fun a o=>dg 4 (St.ld u) o rfl (fun w hl=>e_nilp o rfl) fun a o=>dg 5 (St.ld u) o rfl (fun w hl=>e_fa o fa171_0 rfl) fun a o=>dg 6 (St.ld u) o rfl (fun w hl=>e_ld o isAgg120 rfl (hl.cellB t0 rfl)) fun a o=>dg 7 (St.ld u) o rfl (fun w hl=>e_move o rfl) fun a o=>dg 8 (St.ld u) o rfl (fun w hl=>e_nilp o rfl) fun a o=>dg 9 (St.ld u) o rfl (fun w hl=>e_fa o fa171_1 rfl) fun a o=>dg 10 (St.ld u) o rfl (fun w hl=>e_ld o isAgg3 rfl (hl.cellB t0 rfl)) fun a o=>da1 (i:=11) (by kernel_rfl) ?_
 refine di (i:=11) rfl<|gy o rfl rfl<|cq o call139 (Z1b_c (hp_le _) hc5 (St.srH u hr6) h16) ⟨rfl,rfl,rfl,trivial⟩ u fun w a u o=>⟨fun _=>(St.ld u),?_⟩
 refine dr 12 u o rfl (e_pickT o rfl rfl) fun a o=>de (by kernel_rfl)<|tn<|?_
 replace u:=u.pk [1,0] rfl
 exact ⟨r15,hm,o.hs,u⟩
 replace hm:=itp_f hm hb14
 refine rxS 13 u wide (by kernel_rfl) fun w u=>xm u o rfl fun a o=>xr u o (e_gtr o rfl rfl) fun a o=>xr u o (e_as (e_move o rfl) (congrArg Value.bool hb14)) fun a o=>?_
 iterate 9 refine xn (St.ld u) o fun a o=>?_
 refine xr u o (e_pickF o rfl rfl) fun a o=>xe<|tn<|?_
 replace u:=u.pk [1,0] rfl
 exact ⟨false,hm,o.hs,u⟩
 rintro a w ⟨vA1,hm,o,u⟩
 unfold Z35 at hm
 refine midK (fun a w=>∃ (vA3:(List api_Token)) (vA8:Int) (vA9:Int) (vA10:Int) (vA11:(List api_Stmt)) (HA2:PH) (oaA4:Option Addr) (capA5:Nat) (oaA12:Option Addr) (capA13:Nat) (vsA14:List Value),(Z36 (Z3f N) N p1 p12 p13) vA3 vA8 vA9 vA10 vA11=some r∧ExtM w0 (sepA [blk b2 (.cells [.slice oa3 p1.L.length cap4,i6 p1.At,i6 p1.E,i6 p1.Pos,.slice oa7 p1.Out.length cap8].toArray 171 (0,0)),sla 51 9 oa7 p1.Out.length cap8 vs9]).fp H HA2∧Fr 60 [(0,.pointer (some ⟨b2,0,none⟩)),(1,i6 p12),(2,i6 p13),(7,i6 (p1.Out.length:Int))] a∧St w0 (sepA [blk b2 (.cells [.slice oa3 p1.L.length cap4,i6 p1.At,i6 p1.E,i6 p1.Pos,.slice oa7 p1.Out.length cap8].toArray 171 (0,0)),sla 51 9 oa7 p1.Out.length cap8 vs9]).fp [HA2] [sla 51 9 oaA12 vA11.length capA13 vsA14,blk b2 (.cells [.slice oaA4 vA3.length capA5,i6 vA8,i6 vA9,i6 vA10,.slice oaA12 vA11.length capA13].toArray 171 (0,0))] w∧vA3.length≤capA5∧SR HA2 oaA4 vA3∧Rows HA2 vsA14 vA11) ?_ ?_
 rcases bdich vA1 with hb17 | hb17
 replace hm:=ite_t hm hb17
 refine ctv o rfl hb17<|?_
 obtain ⟨r18,h19,hm⟩:=bs hm
 refine rg<|qm o rfl fun a o=>?_
 replace u:=u.pk [1,0] rfl
 replace u:=St.sep [blk b2 (.cells [.slice oa3 p1.L.length cap4,i6 p1.At,i6 p1.E,i6 p1.Pos,.slice oa7 p1.Out.length cap8].toArray 171 (0,0)),sla 51 9 oa7 p1.Out.length cap8 vs9] u
 refine ls<|c1 o rfl call167 (Z32_c (St.le u) (p1:=(leadlineref04_P.mk p1.L p1.At p1.E p1.Pos p1.Out)) (b2:=b2) (oa3:=oa3) (cap4:=cap4) (oa7:=oa7) (cap8:=cap8) (vs9:=vs9) hc5 hr6 hv10 (St.sepOk u) (St.sepDis u) h19) ⟨rfl,rfl,trivial⟩ (fun v w a hR o=>?_)
 obtain ⟨H23,oa24,cap25,oa28,cap29,vs30,rfl,hc26,hr27,hv31,hx20,hl21,hd22,hk⟩:=hR
 obtain ⟨u,hx20⟩:=And.intro (St.mutH u hk hx20 hl21 hd22) (St.extcMM u hx20)
 replace u:=u.unsep
 refine re<|tn<|?_
 replace u:=u.pk [1,0] rfl
 exact ⟨r18.L,r18.At,r18.E,r18.Pos,r18.Out,H23,oa24,cap25,oa28,cap29,vs30,hm,hx20,o.hs,u,hc26,hr27,hv31⟩
 replace hm:=ite_f hm hb17
 refine cfv o rfl hb17<|wk<|tn<|?_
 exact ⟨p1.L,p1.At,p1.E,p1.Pos,p1.Out,H,oa3,cap4,oa7,cap8,vs9,hm,(ExtM.refl _ _ _),o.hs,u,hc5,hr6,hv10⟩
 rintro a w ⟨vA3,vA8,vA9,vA10,vA11,HA2,oaA4,capA5,oaA12,capA13,vsA14,hm,hxHA2,o,u,hcA6,hrA7,hvA15⟩
 unfold Z36 at hm
 refine th<|?_
 obtain ⟨r33,h34,hm⟩:=bs hm
 refine rg<|qm o rfl fun a o=>?_
 replace u:=u.pk [1,0] rfl
 replace u:=St.sep [blk b2 (.cells [.slice oaA4 vA3.length capA5,i6 vA8,i6 vA9,i6 vA10,.slice oaA12 vA11.length capA13].toArray 171 (0,0)),sla 51 9 oaA12 vA11.length capA13 vsA14] u
 refine ls<|c1 o rfl call161 (Z3b_c (St.le u) (p1:=(leadlineref04_P.mk vA3 vA8 vA9 vA10 vA11)) (b2:=b2) (oa3:=oaA4) (cap4:=capA5) (oa7:=oaA12) (cap8:=capA13) (vs9:=vsA14) hcA6 hrA7 hvA15 (St.sepOk u) (St.sepDis u) h34) ⟨rfl,rfl,trivial⟩ (fun v w a hR o=>?_)
 obtain ⟨H38,oa39,cap40,oa43,cap44,vs45,rfl,hc41,hr42,hv46,hx35,hl36,hd37,hk⟩:=hR
 obtain ⟨u,hx35⟩:=And.intro (St.mutH u hk hx35 hl36 hd37) (St.extcMM u hx35)
 replace u:=u.unsep
 refine re<|tn<|th<|midK (fun a w=>∃ (vA18:(List api_Token)) (vA23:Int) (vA24:Int) (vA25:Int) (vA26:(List api_Stmt)) (HA17:PH) (oaA19:Option Addr) (capA20:Nat) (oaA27:Option Addr) (capA28:Nat) (vsA29:List Value),(Z37 N p1) vA18 vA23 vA24 vA25 vA26=some r∧ExtM w0 (sepA [blk b2 (.cells [.slice oa3 p1.L.length cap4,i6 p1.At,i6 p1.E,i6 p1.Pos,.slice oa7 p1.Out.length cap8].toArray 171 (0,0)),sla 51 9 oa7 p1.Out.length cap8 vs9]).fp H38 HA17∧Fr 60 [(0,.pointer (some ⟨b2,0,none⟩)),(7,i6 (p1.Out.length:Int))] a∧St w0 (sepA [blk b2 (.cells [.slice oa3 p1.L.length cap4,i6 p1.At,i6 p1.E,i6 p1.Pos,.slice oa7 p1.Out.length cap8].toArray 171 (0,0)),sla 51 9 oa7 p1.Out.length cap8 vs9]).fp [HA17] [sla 51 9 oaA27 vA26.length capA28 vsA29,blk b2 (.cells [.slice oaA19 vA18.length capA20,i6 vA23,i6 vA24,i6 vA25,.slice oaA27 vA26.length capA28].toArray 171 (0,0))] w∧vA18.length≤capA20∧SR HA17 oaA19 vA18∧Rows HA17 vsA29 vA26) ?_ ?_
 replace u:=u.pk [1,0] rfl
 refine wb<|lp (α:=Nat×(List api_Token)×Int×Int×Int×(List api_Stmt)) (fun gh a w=>match gh with | (nn4,vB2,vB7,vB8,vB9,vB10)=>∃ (HB1:PH) (oaB3:Option Addr) (capB4:Nat) (oaB11:Option Addr) (capB12:Nat) (vsB13:List Value),(Z39 (Z3f N) N (Z37 N p1) p12 p13) nn4 vB2 vB7 vB8 vB9 vB10=some r∧ExtM w0 (sepA [blk b2 (.cells [.slice oa3 p1.L.length cap4,i6 p1.At,i6 p1.E,i6 p1.Pos,.slice oa7 p1.Out.length cap8].toArray 171 (0,0)),sla 51 9 oa7 p1.Out.length cap8 vs9]).fp H38 HB1∧Fr 60 [(0,.pointer (some ⟨b2,0,none⟩)),(1,i6 p12),(2,i6 p13),(7,i6 (p1.Out.length:Int))] a∧St w0 (sepA [blk b2 (.cells [.slice oa3 p1.L.length cap4,i6 p1.At,i6 p1.E,i6 p1.Pos,.slice oa7 p1.Out.length cap8].toArray 171 (0,0)),sla 51 9 oa7 p1.Out.length cap8 vs9]).fp [HB1] [sla 51 9 oaB11 vB10.length capB12 vsB13,blk b2 (.cells [.slice oaB3 vB2.length capB4,i6 vB7,i6 vB8,i6 vB9,.slice oaB11 vB10.length capB12].toArray 171 (0,0))] w∧vB2.length≤capB4∧SR HB1 oaB3 vB2∧Rows HB1 vsB13 vB10) (fun gh=>gh.1) (N,r33.L,r33.At,r33.E,r33.Pos,r33.Out) ⟨H38,oa39,cap40,oa43,cap44,vs45,hm,(ExtM.refl _ _ _),o.hs,u,hc41,hr42,hv46⟩ ?_
 rintro ⟨nn4,vB2,vB7,vB8,vB9,vB10⟩ a w ⟨HB1,oaB3,capB4,oaB11,capB12,vsB13,hm,hxHB1,o,u,hcB5,hrB6,hvB14⟩
 obtain _ | nn4:=nn4
 simp [Z39] at hm
 rw [Z39] at hm
 refine th<|th<|midK (fun a w=>∃ (vC1:Bool),(Z38 (Z3f N) (Z37 N p1) ((Z39 (Z3f N) N (Z37 N p1) p12 p13) nn4) p12 p13 vB2 vB7 vB8 vB9 vB10) vC1=some r∧Fr 60 [(0,.pointer (some ⟨b2,0,none⟩)),(1,i6 p12),(2,i6 p13),(7,i6 (p1.Out.length:Int)),(46,.bool vC1)] a∧St w0 (sepA [blk b2 (.cells [.slice oa3 p1.L.length cap4,i6 p1.At,i6 p1.E,i6 p1.Pos,.slice oa7 p1.Out.length cap8].toArray 171 (0,0)),sla 51 9 oa7 p1.Out.length cap8 vs9]).fp [HB1] [sla 51 9 oaB11 vB10.length capB12 vsB13,blk b2 (.cells [.slice oaB3 vB2.length capB4,i6 vB7,i6 vB8,i6 vB9,.slice oaB11 vB10.length capB12].toArray 171 (0,0))] w) ?_ ?_
 rcases bdich (decide (vB8=0)) with hb48 | hb48
 replace hm:=itp_t hm hb48
 obtain ⟨r49,h50,hm⟩:=bs hm
 refine rdS 17 u wide fun w u=>dr 0 u o rfl (e_move o rfl) fun a o=>dr 1 u o rfl (e_nilp o rfl) fun a o=>dr 2 u o rfl (e_fa o fa171_2 rfl) fun a o=>dq 3 (St.ld u) o rfl (fun w hl=>e_ld o isAgg29 rfl (hl.cellB t1 rfl)) fun a o=>dr 4 u o rfl (e_eql o rfl rfl) fun a o=>dr 5 u o rfl (e_as (e_move o rfl) (congrArg Value.bool hb48)) fun a o=>dg 6 (St.ld u) o rfl (fun w hl=>e_move o rfl) fun a o=>dg 7 (St.ld u) o rfl (fun w hl=>e_nilp o rfl) fun a o=>dg 8 (St.ld u) o rfl (fun w hl=>e_fa o fa171_0 rfl) fun a o=>dg 9 (St.ld u) o rfl (fun w hl=>e_ld o isAgg120 rfl (hl.cellB t1 rfl)) fun a o=>dg 10 (St.ld u) o rfl (fun w hl=>e_move o rfl) fun a o=>dg 11 (St.ld u) o rfl (fun w hl=>e_nilp o rfl) fun a o=>dg 12 (St.ld u) o rfl (fun w hl=>e_fa o fa171_1 rfl) fun a o=>dg 13 (St.ld u) o rfl (fun w hl=>e_ld o isAgg3 rfl (hl.cellB t1 rfl)) fun a o=>da1 (i:=14) (by kernel_rfl) ?_
 refine di (i:=14) rfl<|gy o rfl rfl<|cq o call139 (Z1b_c (hp_le _) hcB5 (St.srH u hrB6) h50) ⟨rfl,rfl,rfl,trivial⟩ u fun w a u o=>⟨fun _=>(St.ld u),?_⟩
 refine dg 15 (St.ld u) o rfl (fun w hl=>e_not o rfl) fun a o=>dr 16 u o rfl (e_pickT o rfl rfl) fun a o=>de (by kernel_rfl)<|tn<|?_
 exact ⟨(!r49),hm,o.hs,u⟩
 replace hm:=itp_f hm hb48
 refine rxS 17 u wide (by kernel_rfl) fun w u=>xm u o rfl fun a o=>xr u o (e_nilp o rfl) fun a o=>xr u o (e_fa o fa171_2 rfl) fun a o=>xq (St.ld u) o (fun w hl=>e_ld o isAgg29 rfl (hl.cellB t1 rfl)) fun a o=>xr u o (e_eql o rfl rfl) fun a o=>xr u o (e_as (e_move o rfl) (congrArg Value.bool hb48)) fun a o=>?_
 iterate 10 refine xn (St.ld u) o fun a o=>?_
 refine xr u o (e_pickF o rfl rfl) fun a o=>xe<|tn<|?_
 exact ⟨false,hm,o.hs,u⟩
 rintro a w ⟨vC1,hm,o,u⟩
 unfold Z38 at hm
 rcases bdich vC1 with hb51 | hb51
 replace hm:=ite_t hm hb51
 refine ctv o rfl hb51<|wk<|tn<|wb<|?_
 obtain ⟨r52,h53,hm⟩:=bs hm
 refine rg<|qm o rfl fun a o=>?_
 iterate 2 refine qm o rfl fun a o=>?_
 replace u:=u.pk [1,0] rfl
 replace u:=St.sep [blk b2 (.cells [.slice oaB3 vB2.length capB4,i6 vB7,i6 vB8,i6 vB9,.slice oaB11 vB10.length capB12].toArray 171 (0,0)),sla 51 9 oaB11 vB10.length capB12 vsB13] u
 refine ls<|c1 o rfl call160 (ih_Z3f (St.le u) (p1:=(leadlineref04_P.mk vB2 vB7 vB8 vB9 vB10)) (b2:=b2) (oa3:=oaB3) (cap4:=capB4) (oa7:=oaB11) (cap8:=capB12) (vs9:=vsB13) hcB5 hrB6 hvB14 (St.sepOk u) (St.sepDis u) h53) ⟨rfl,rfl,rfl,trivial⟩ (fun v w a hR o=>?_)
 obtain ⟨H57,oa58,cap59,oa62,cap63,vs64,rfl,hc60,hr61,hv65,hx54,hl55,hd56,hk⟩:=hR
 obtain ⟨u,hx54⟩:=And.intro (St.mutH u hk hx54 hl55 hd56) (St.extcMM u hx54)
 replace u:=u.unsep
 refine re<|bn<|tn<|?_
 replace u:=u.pk [1,0] rfl
 exact ⟨(nn4,r52.L,r52.At,r52.E,r52.Pos,r52.Out),⟨H57,oa58,cap59,oa62,cap63,vs64,hm,(ExtM.trans hxHB1 hx54),o.hs,u,hc60,hr61,hv65⟩,Nat.lt_succ_self _⟩
 replace hm:=ite_f hm hb51
 refine cfv o rfl hb51<|we<|tx<|tx<|bx<|tn<|?_
 exact ⟨vB2,vB7,vB8,vB9,vB10,HB1,oaB3,capB4,oaB11,capB12,vsB13,hm,hxHB1,o.has ⟨rfl,rfl,trivial⟩,u,hcB5,hrB6,hvB14⟩
 rintro a w ⟨vA18,vA23,vA24,vA25,vA26,HA17,oaA19,capA20,oaA27,capA28,vsA29,hm,hxHA17,o,u,hcA21,hrA22,hvA30⟩
 unfold Z37 at hm
 refine th<|?_
 obtain ⟨r67,h68,hm⟩:=bs hm
 refine rg<|qm o rfl fun a o=>?_
 replace u:=u.pk [1,0] rfl
 replace u:=St.sep [blk b2 (.cells [.slice oaA19 vA18.length capA20,i6 vA23,i6 vA24,i6 vA25,.slice oaA27 vA26.length capA28].toArray 171 (0,0)),sla 51 9 oaA27 vA26.length capA28 vsA29] u
 refine ls<|c1 o rfl call161 (Z3b_c (St.le u) (p1:=(leadlineref04_P.mk vA18 vA23 vA24 vA25 vA26)) (b2:=b2) (oa3:=oaA19) (cap4:=capA20) (oa7:=oaA27) (cap8:=capA28) (vs9:=vsA29) hcA21 hrA22 hvA30 (St.sepOk u) (St.sepDis u) h68) ⟨rfl,rfl,trivial⟩ (fun v w a hR o=>?_)
 obtain ⟨H72,oa73,cap74,oa77,cap78,vs79,rfl,hc75,hr76,hv80,hx69,hl70,hd71,hk⟩:=hR
 obtain ⟨u,hx69⟩:=And.intro (St.mutH u hk hx69 hl70 hd71) (St.extcMM u hx69)
 replace u:=u.unsep
 refine re<|tn<|th<|rg<|qm o rfl fun a o=>qv o (e_nilp o rfl) fun a o=>qv o (e_fa o fa171_4 rfl) fun a o=>qv o (e_ld o isAgg46 rfl ((St.ld u).cellB t0 rfl)) fun a o=>qv o (e_lenL (α:=api_Stmt) (xs:=r67.Out) o runUnderlying46 rfl) fun a o=>qm o rfl fun a o=>qv o (e_sub o rfl rfl) fun a o=>qa o rfl fun a o=>re<|tn<|wr<|?_
 obtain rfl:=si hm
 exact r1 o results169 rfl ⟨H72,oa73,cap74,oa77,cap78,vs79,rfl,hc75,hr76,hv80,(ExtM.trans hxHA2 (ExtM.trans hx35 (ExtM.trans hxHA17 hx69))),(St.le u),(St.disL (u.pickL (.cons .head (.cons .head .nil)))),(u.pickL (.cons .head (.cons .head .nil))).endMut⟩
 intro w0 H hH b2 p1 oa3 cap4 hc5 hr6 oa7 cap8 vs9 hv10 p12 p13 hO hD r hm
 rw [Z3f] at hm
 refine fn0 func160 rfl ntmps160 rfl rfl fun a o=>?_
 have u:=startM hH hO hD
 refine th<|?_
 obtain ⟨r14,h15,hm⟩:=bs hm
 refine rdS 11 u wide fun w u=>dr 0 u o rfl (e_move o rfl) fun a o=>dr 1 u o rfl (e_nilp o rfl) fun a o=>dr 2 u o rfl (e_fa o fa171_0 rfl) fun a o=>dq 3 (St.ld u) o rfl (fun w hl=>e_ld o isAgg120 rfl (hl.cellB t0 rfl)) fun a o=>dr 4 u o rfl (e_move o rfl) fun a o=>dr 5 u o rfl (e_nilp o rfl) fun a o=>dr 6 u o rfl (e_fa o fa171_1 rfl) fun a o=>dq 7 (St.ld u) o rfl (fun w hl=>e_ld o isAgg3 rfl (hl.cellB t0 rfl)) fun a o=>da1 (i:=8) (by kernel_rfl) ?_
 refine di (i:=8) rfl<|cq o call143 (Z1k_c (hp_le _) hc5 (St.srH u hr6) h15) ⟨rfl,rfl,trivial⟩ u fun w a u o=>⟨fun _=>(St.ld u),?_⟩
 refine dr 9 u o rfl (e_asg o rfl) fun a o=>dr 10 u o rfl (e_asg o rfl) fun a o=>de (by kernel_rfl)<|tn<|th<|th<|rg<|qa o rfl fun a o=>re<|tn<|midK (fun a w=>∃ (vA1:Int),(Z3g (Z34 N) N p1 p12 p13 r14) vA1=some r∧Fr 134 [(0,.pointer (some ⟨b2,0,none⟩)),(1,i6 p12),(2,i6 p13),(6,i6 vA1),(7,i6 r14)] a∧St w0 (sepA [blk b2 (.cells [.slice oa3 p1.L.length cap4,i6 p1.At,i6 p1.E,i6 p1.Pos,.slice oa7 p1.Out.length cap8].toArray 171 (0,0)),sla 51 9 oa7 p1.Out.length cap8 vs9]).fp [H] [sla 51 9 oa7 p1.Out.length cap8 vs9,blk b2 (.cells [.slice oa3 p1.L.length cap4,i6 p1.At,i6 p1.E,i6 p1.Pos,.slice oa7 p1.Out.length cap8].toArray 171 (0,0))] w) ?_ ?_
 replace u:=u.pk [1,0] rfl
 refine wb<|lp (α:=Nat×Int×Int) (fun gh a w=>match gh with | (nn2,vB1,vB2)=>(Z3n N (Z3g (Z34 N) N p1 p12 p13 r14) p1) nn2 vB1 vB2=some r∧Fr 134 [(0,.pointer (some ⟨b2,0,none⟩)),(1,i6 p12),(2,i6 p13),(6,i6 vB1),(7,i6 r14),(8,i6 vB2)] a∧St w0 (sepA [blk b2 (.cells [.slice oa3 p1.L.length cap4,i6 p1.At,i6 p1.E,i6 p1.Pos,.slice oa7 p1.Out.length cap8].toArray 171 (0,0)),sla 51 9 oa7 p1.Out.length cap8 vs9]).fp [H] [sla 51 9 oa7 p1.Out.length cap8 vs9,blk b2 (.cells [.slice oa3 p1.L.length cap4,i6 p1.At,i6 p1.E,i6 p1.Pos,.slice oa7 p1.Out.length cap8].toArray 171 (0,0))] w) (fun gh=>gh.1) (N,1,2) ⟨hm,o.hs,u⟩ ?_
 rintro ⟨nn2,vB1,vB2⟩ a w ⟨hm,o,u⟩
 obtain _ | nn2:=nn2
 simp [Z3n] at hm
 rw [Z3n] at hm
 refine th<|th<|rg<|qm o rfl fun a o=>qv o (e_leq o rfl rfl) fun a o=>re<|?_
 rcases bdich (decide (vB2≤14)) with hb16 | hb16
 replace hm:=itp_t hm hb16
 refine tn<|ctv o rfl hb16<|wk<|tn<|th<|midK (fun a w=>∃ (vC1:Int),(Z3h (Z3n N (Z3g (Z34 N) N p1 p12 p13 r14) p1 nn2) vB2) vC1=some r∧Fr 134 [(0,.pointer (some ⟨b2,0,none⟩)),(1,i6 p12),(2,i6 p13),(6,i6 vC1),(7,i6 r14),(8,i6 vB2)] a∧St w0 (sepA [blk b2 (.cells [.slice oa3 p1.L.length cap4,i6 p1.At,i6 p1.E,i6 p1.Pos,.slice oa7 p1.Out.length cap8].toArray 171 (0,0)),sla 51 9 oa7 p1.Out.length cap8 vs9]).fp [H] [sla 51 9 oa7 p1.Out.length cap8 vs9,blk b2 (.cells [.slice oa3 p1.L.length cap4,i6 p1.At,i6 p1.E,i6 p1.Pos,.slice oa7 p1.Out.length cap8].toArray 171 (0,0))] w) ?_ ?_
 refine wb<|th<|?_
 obtain ⟨r17,h18,hm⟩:=bs hm
 obtain ⟨r19,h20,hm⟩:=bs hm
 refine rdS 11 u wide fun w u=>dr 0 u o rfl (e_move o rfl) fun a o=>dr 1 u o rfl (e_nilp o rfl) fun a o=>dr 2 u o rfl (e_fa o fa171_0 rfl) fun a o=>dq 3 (St.ld u) o rfl (fun w hl=>e_ld o isAgg120 rfl (hl.cellB t1 rfl)) fun a o=>dr 4 u o rfl (e_move o rfl) fun a o=>dr 5 u o rfl (e_nilp o rfl) fun a o=>dr 6 u o rfl (e_fa o fa171_1 rfl) fun a o=>dq 7 (St.ld u) o rfl (fun w hl=>e_ld o isAgg3 rfl (hl.cellB t1 rfl)) fun a o=>dr 8 u o rfl (e_move o rfl) fun a o=>da1 (i:=9) (by kernel_rfl) ?_
 refine di (i:=9) rfl<|cq o call166 (Z41_c (hp_le _) h18) ⟨rfl,trivial⟩ u fun w a u o=>⟨fun _=>(St.ld u),?_⟩
 refine da1 (i:=10) (by kernel_rfl) ?_
 refine di (i:=10) rfl<|cq o call139 (Z1b_c (hp_le _) hc5 (St.srH u hr6) h20) ⟨rfl,rfl,rfl,trivial⟩ u fun w a u o=>⟨fun _=>(St.ld u),?_⟩
 refine de (by kernel_rfl)<|?_
 rcases bdich r19 with hb21 | hb21
 replace hm:=ite_t hm hb21
 refine tn<|ctv o rfl hb21<|rg<|qm o rfl fun a o=>qa o rfl fun a o=>re<|bn<|tn<|?_
 exact ⟨vB2,hm,o.hs,u⟩
 replace hm:=ite_f hm hb21
 refine tn<|cfv o rfl hb21<|wk<|bn<|tn<|?_
 exact ⟨vB1,hm,o.hs,u⟩
 rintro a w ⟨vC1,hm,o,u⟩
 unfold Z3h at hm
 refine rg<|qm o rfl fun a o=>qv o (e_add o rfl rfl) fun a o=>qa o rfl fun a o=>re<|tn<|?_
 exact ⟨(nn2,vC1,(IntKind.i64.wrap (vB2+1))),⟨hm,o.hs,u⟩,Nat.lt_succ_self _⟩
 replace hm:=itp_f hm hb16
 refine tn<|cfv o rfl hb16<|we<|tx<|tx<|bx<|tn<|?_
 exact ⟨vB1,hm,o.hs,u⟩
 rintro a w ⟨vA1,hm,o,u⟩
 unfold Z3g at hm
 refine th<|th<|rg<|qm o rfl fun a o=>qv o (e_eql o rfl rfl) fun a o=>qm o rfl fun a o=>grp (N:=134) (Fk:=[(0,.pointer (some ⟨b2,0,none⟩)),(1,i6 p12),(2,i6 p13),(6,i6 vA1),(7,i6 r14),(42,.bool ((decide (vA1=13)) && (decide (p13=0))))]) (b:=(decide (vA1=13))) 3 u ?_ ?_ ?_
 intro hb key
 replace o:=Fr.as o (t:=39) rfl (congrArg Value.bool hb)
 refine qg o (e_move o rfl) fun a o=>qg o (e_eql o rfl rfl) fun a o=>qv o (e_as (v':=.bool ((decide (vA1=13)) && (decide (p13=0)))) (e_pickT o rfl rfl) (by rw [hb];rfl)) fun a o=>?_
 exact key _ _ (o.hs) u
 intro hb key
 replace o:=Fr.as o (t:=39) rfl (congrArg Value.bool hb)
 iterate 2 refine qn o fun a o=>?_
 refine qv o (e_as (v':=.bool ((decide (vA1=13)) && (decide (p13=0)))) (e_pickF o rfl rfl) (by rw [hb];rfl)) fun a o=>?_
 exact key _ _ (o.hs) u
 intro a w o u
 refine re<|?_
 rcases bdich ((decide (vA1=13)) && (decide (p13=0))) with hb22 | hb22
 replace hm:=ite_t hm hb22
 refine tn<|ctv o rfl hb22<|th<|?_
 obtain ⟨r23,h24,hm⟩:=bs hm
 refine rg<|qm o rfl fun a o=>?_
 replace u:=u.pk [1,0] rfl
 replace u:=St.sep [blk b2 (.cells [.slice oa3 p1.L.length cap4,i6 p1.At,i6 p1.E,i6 p1.Pos,.slice oa7 p1.Out.length cap8].toArray 171 (0,0)),sla 51 9 oa7 p1.Out.length cap8 vs9] u
 refine ls<|c1 o rfl call167 (Z32_c (St.le u) (p1:=(leadlineref04_P.mk p1.L p1.At p1.E p1.Pos p1.Out)) (b2:=b2) (oa3:=oa3) (cap4:=cap4) (oa7:=oa7) (cap8:=cap8) (vs9:=vs9) hc5 hr6 hv10 (St.sepOk u) (St.sepDis u) h24) ⟨rfl,rfl,trivial⟩ (fun v w a hR o=>?_)
 obtain ⟨H28,oa29,cap30,oa33,cap34,vs35,rfl,hc31,hr32,hv36,hx25,hl26,hd27,hk⟩:=hR
 obtain ⟨u,hx25⟩:=And.intro (St.mutH u hk hx25 hl26 hd27) (St.extcMM u hx25)
 replace u:=u.unsep
 refine re<|tn<|wr<|tr<|?_
 obtain rfl:=si hm
 exact r0 o results160 ⟨H28,oa29,cap30,oa33,cap34,vs35,rfl,hc31,hr32,hv36,hx25,(St.le u),(St.disL (u.pickL (.cons .head (.cons .head .nil)))),(u.pickL (.cons .head (.cons .head .nil))).endMut⟩
 replace hm:=ite_f hm hb22
 refine tn<|cfv o rfl hb22<|wk<|tn<|th<|th<|rg<|qm o rfl fun a o=>qv o (e_neq o rfl rfl) fun a o=>re<|tn<|midK (fun a w=>∃ (vA2:Int),(Z3i (Z34 N) N p1 p12 p13 r14 vA1) vA2=some r∧Fr 134 [(0,.pointer (some ⟨b2,0,none⟩)),(1,i6 p12),(2,i6 p13),(6,i6 vA1),(7,i6 r14)] a∧St w0 (sepA [blk b2 (.cells [.slice oa3 p1.L.length cap4,i6 p1.At,i6 p1.E,i6 p1.Pos,.slice oa7 p1.Out.length cap8].toArray 171 (0,0)),sla 51 9 oa7 p1.Out.length cap8 vs9]).fp [H] [sla 51 9 oa7 p1.Out.length cap8 vs9,blk b2 (.cells [.slice oa3 p1.L.length cap4,i6 vA2,i6 p1.E,i6 p1.Pos,.slice oa7 p1.Out.length cap8].toArray 171 (0,0))] w) ?_ ?_
 rcases bdich (decide (vA1≠1)) with hb38 | hb38
 replace hm:=itp_t hm hb38
 refine ctv o rfl hb38<|rg<|qm o rfl fun a o=>qm o rfl fun a o=>qv o (e_nilp o rfl) fun a o=>qv o (e_fa o fa171_1 rfl) fun a o=>qv o (e_ld o isAgg3 rfl ((St.ld u).cellB t1 rfl)) fun a o=>qv o (e_add o rfl rfl) fun a o=>qv o (e_nilp o rfl) fun a o=>qv o (e_fa o fa171_1 rfl) fun a o=>ls<|s_blk o u sizeOf3 rfl rfl rfl rfl (.tail .head) (.succ .zero) fun w u=>re<|tn<|?_
 exact ⟨(IntKind.i64.wrap (p1.At+1)),hm,o.hs,u⟩
 replace hm:=itp_f hm hb38
 refine cfv o rfl hb38<|wk<|tn<|?_
 exact ⟨p1.At,hm,o.hs,u⟩
 rintro a w ⟨vA2,hm,o,u⟩
 unfold Z3i at hm
 refine th<|?_
 obtain ⟨r39,h40,hm⟩:=bs hm
 refine rg<|qm o rfl fun a o=>?_
 iterate 2 refine qm o rfl fun a o=>?_
 replace u:=u.pk [1,0] rfl
 replace u:=St.sep [blk b2 (.cells [.slice oa3 p1.L.length cap4,i6 vA2,i6 p1.E,i6 p1.Pos,.slice oa7 p1.Out.length cap8].toArray 171 (0,0)),sla 51 9 oa7 p1.Out.length cap8 vs9] u
 refine ls<|c1 o rfl call168 (Z3o_c (St.le u) (p1:=(leadlineref04_P.mk p1.L vA2 p1.E p1.Pos p1.Out)) (b2:=b2) (oa3:=oa3) (cap4:=cap4) (oa7:=oa7) (cap8:=cap8) (vs9:=vs9) hc5 hr6 hv10 (St.sepOk u) (St.sepDis u) h40) ⟨rfl,rfl,rfl,trivial⟩ (fun v w a hR o=>?_)
 obtain ⟨H44,cs45,oa55,cap56,oa59,cap60,vs61,rfl,g46,hc57,hr58,hv62,hx41,hl42,hd43,hk⟩:=hR
 obtain ⟨u,hx41⟩:=And.intro (St.mutH u hk hx41 hl42 hd43) (St.extcMM u hx41)
 replace u:=u.unsep
 obtain ⟨oa47,cap48,oa51,cap52,rfl,hc49,hr50,hc53,hr54⟩:=api_Stmt_open g46
 refine ls<|a_alloc (cs:=[i6 0,strv [],strv [],.slice none 0 0,.slice none 0 0,i6 0,i6 0,i6 0,i6 0].toArray) o rfl u zeroValue51 rfl fun b64 w a u o=>ls<|s_blkA o u sizeOf51 rfl rfl rfl rfl (one_cells rfl) .head fun w u=>re<|tn<|th<|rg<|qm o rfl fun a o=>qv o (e_nilp o rfl) fun a o=>qv o (e_fa o fa171_4 rfl) fun a o=>qv o (e_ld o isAgg46 rfl ((St.ld u).cellB t1 rfl)) fun a o=>qv o (e_lenL (α:=api_Stmt) (xs:=r39.2.Out) o runUnderlying46 rfl) fun a o=>qa o rfl fun a o=>re<|tn<|th<|midK (fun a w=>∃ (vA3:(List api_Stmt)) (oaA4:Option Addr) (capA5:Nat) (vsA6:List Value),(Z3j (Z34 N) N p12 p13 vA1 r39) vA3=some r∧Fr 134 [(0,.pointer (some ⟨b2,0,none⟩)),(1,i6 p12),(2,i6 p13),(6,i6 vA1),(9,.pointer (some ⟨b64,0,none⟩)),(10,i6 (r39.2.Out.length:Int))] a∧St w0 (sepA [blk b2 (.cells [.slice oa3 p1.L.length cap4,i6 p1.At,i6 p1.E,i6 p1.Pos,.slice oa7 p1.Out.length cap8].toArray 171 (0,0)),sla 51 9 oa7 p1.Out.length cap8 vs9]).fp [H44] [sla 51 9 oaA4 vA3.length capA5 vsA6,blk b2 (.cells [.slice oa55 r39.2.L.length cap56,i6 r39.2.At,i6 r39.2.E,i6 r39.2.Pos,.slice oaA4 vA3.length capA5].toArray 171 (0,0)),blk b64 (.cells [i6 r39.1.Kind,strv r39.1.Reg,strv r39.1.Name,.slice oa47 r39.1.E.length cap48,.slice oa51 r39.1.F.length cap52,i6 r39.1.N,i6 r39.1.Body,i6 r39.1.Else,i6 r39.1.At].toArray 51 (0,0))] w∧Rows H44 vsA6 vA3) ?_ ?_
 obtain ⟨l68,h69,hm⟩:=bs hm
 refine rdL (sub_cons t0 sub_nil) 11 u wide fun w u=>ds 0 (St.ldsX u i2 (sub_cons t0 sub_nil)) o rfl (e_move o rfl) fun a o=>ds 1 (St.ldsX u i2 (sub_cons t0 sub_nil)) o rfl (e_move o rfl) fun a o=>ds 2 (St.ldsX u i2 (sub_cons t0 sub_nil)) o rfl (e_nilp o rfl) fun a o=>ds 3 (St.ldsX u i2 (sub_cons t0 sub_nil)) o rfl (e_fa o fa171_4 rfl) fun a o=>da2 (i:=4) (j:=5) (by kernel_rfl) ?_ ?_
 refine di (i:=4) rfl<|q1 o rfl (e_ld o isAgg46 rfl ((St.ld u).cellB t1 rfl)) fun a o=>⟨fun _=>(St.ldsX u i2 (sub_cons t0 sub_nil)),?_⟩
 refine dq 5 (St.ldsX u i2 (sub_cons t0 sub_nil)) o rfl (fun w hl=>e_ldA o isAgg51 sizeOf51 rfl rfl (hl.cellsB t0)) fun a o=>da1 (i:=6) (by kernel_rfl) ?_
 refine di (i:=6) rfl<|a_bsl (e:=51) (sz:=9) [i6 r39.1.Kind,strv r39.1.Reg,strv r39.1.Name,.slice oa47 r39.1.E.length cap48,.slice oa51 r39.1.F.length cap52,i6 r39.1.N,i6 r39.1.Body,i6 r39.1.Else,i6 r39.1.At] o rfl u rfl rfl rfl (fun w=>by kernel_rfl) fun b66 w a u o=>?_
 have hv65:Rows (α:=api_Stmt) H44 [i6 r39.1.Kind,strv r39.1.Reg,strv r39.1.Name,.slice oa47 r39.1.E.length cap48,.slice oa51 r39.1.F.length cap52,i6 r39.1.N,i6 r39.1.Body,i6 r39.1.Else,i6 r39.1.At] ([r39.1]:List api_Stmt):=(.cons (c:=[i6 r39.1.Kind,strv r39.1.Reg,strv r39.1.Name,.slice oa47 r39.1.E.length cap48,.slice oa51 r39.1.F.length cap52,i6 r39.1.N,i6 r39.1.Body,i6 r39.1.Else,i6 r39.1.At]) ⟨_,_,rfl,rfl,⟨_,_,rfl,rfl,⟨_,_,rfl,rfl,⟨_,_,rfl,⟨_,_,rfl,hc49,hr50⟩,⟨_,_,rfl,⟨_,_,rfl,hc53,hr54⟩,⟨_,_,rfl,rfl,⟨_,_,rfl,rfl,⟨_,_,rfl,rfl,rfl⟩⟩⟩⟩⟩⟩⟩⟩ .nil)
 refine ⟨fun _=>(St.ldsX u i2 (sub_cons t1 sub_nil)),?_⟩
 refine da1 (i:=7) (by kernel_rfl) ?_
 refine di (i:=7) rfl<|m_app (α:=api_Stmt) (xs:=r39.2.Out) (ys:=([r39.1]:List api_Stmt)) o rfl u underlying46 info51 rfl (by decide) rfl rfl rfl t3 hv62 (u.rdO t0) hv65 h69 fun oa70 cap71 vs72 w a hv73 hU o=>?_
 replace u:=hU _ (.tail (.tail (.tail .head)))
 replace u:=u.drop .head
 refine ⟨fun _=>(St.ldsX u i2 (sub_cons t0 sub_nil)),?_⟩
 refine ds 8 (St.ldsX u i2 (sub_cons t0 sub_nil)) o rfl (e_nilp o rfl) fun a o=>ds 9 (St.ldsX u i2 (sub_cons t0 sub_nil)) o rfl (e_fa o fa171_4 rfl) fun a o=>da1 (i:=10) (by kernel_rfl) ?_
 refine di (i:=10) rfl<|s_blk o u sizeOf46 rfl rfl rfl rfl (.tail .head) (.succ (.succ (.succ (.succ .zero)))) fun w u=>⟨fun _=>(St.ldsX u i2 (sub_cons t0 sub_nil)),?_⟩
 refine de (by kernel_rfl)<|tn<|?_
 replace u:=u.pk [2,1,0] rfl
 exact ⟨l68,oa70,cap71,vs72,hm,o.hs,u,hv73⟩
 refine di (i:=5) rfl<|q1 o rfl (e_ldA o isAgg51 sizeOf51 rfl rfl ((St.ld u).cellsB t0)) fun a o=>⟨fun _=>(St.ldsX u i2 (sub_cons t0 sub_nil)),?_⟩
 refine da2 (i:=4) (j:=6) (by kernel_rfl) ?_ ?_
 refine di (i:=4) rfl<|q1 o rfl (e_ld o isAgg46 rfl ((St.ld u).cellB t1 rfl)) fun a o=>⟨fun _=>(St.ldsX u i2 (sub_cons t0 sub_nil)),?_⟩
 refine da1 (i:=6) (by kernel_rfl) ?_
 refine di (i:=6) rfl<|a_bsl (e:=51) (sz:=9) [i6 r39.1.Kind,strv r39.1.Reg,strv r39.1.Name,.slice oa47 r39.1.E.length cap48,.slice oa51 r39.1.F.length cap52,i6 r39.1.N,i6 r39.1.Body,i6 r39.1.Else,i6 r39.1.At] o rfl u rfl rfl rfl (fun w=>by kernel_rfl) fun b66 w a u o=>?_
 have hv65:Rows (α:=api_Stmt) H44 [i6 r39.1.Kind,strv r39.1.Reg,strv r39.1.Name,.slice oa47 r39.1.E.length cap48,.slice oa51 r39.1.F.length cap52,i6 r39.1.N,i6 r39.1.Body,i6 r39.1.Else,i6 r39.1.At] ([r39.1]:List api_Stmt):=(.cons (c:=[i6 r39.1.Kind,strv r39.1.Reg,strv r39.1.Name,.slice oa47 r39.1.E.length cap48,.slice oa51 r39.1.F.length cap52,i6 r39.1.N,i6 r39.1.Body,i6 r39.1.Else,i6 r39.1.At]) ⟨_,_,rfl,rfl,⟨_,_,rfl,rfl,⟨_,_,rfl,rfl,⟨_,_,rfl,⟨_,_,rfl,hc49,hr50⟩,⟨_,_,rfl,⟨_,_,rfl,hc53,hr54⟩,⟨_,_,rfl,rfl,⟨_,_,rfl,rfl,⟨_,_,rfl,rfl,rfl⟩⟩⟩⟩⟩⟩⟩⟩ .nil)
 refine ⟨fun _=>(St.ldsX u i2 (sub_cons t1 sub_nil)),?_⟩
 refine da1 (i:=7) (by kernel_rfl) ?_
 refine di (i:=7) rfl<|m_app (α:=api_Stmt) (xs:=r39.2.Out) (ys:=([r39.1]:List api_Stmt)) o rfl u underlying46 info51 rfl (by decide) rfl rfl rfl t3 hv62 (u.rdO t0) hv65 h69 fun oa70 cap71 vs72 w a hv73 hU o=>?_
 replace u:=hU _ (.tail (.tail (.tail .head)))
 replace u:=u.drop .head
 refine ⟨fun _=>(St.ldsX u i2 (sub_cons t0 sub_nil)),?_⟩
 refine ds 8 (St.ldsX u i2 (sub_cons t0 sub_nil)) o rfl (e_nilp o rfl) fun a o=>ds 9 (St.ldsX u i2 (sub_cons t0 sub_nil)) o rfl (e_fa o fa171_4 rfl) fun a o=>da1 (i:=10) (by kernel_rfl) ?_
 refine di (i:=10) rfl<|s_blk o u sizeOf46 rfl rfl rfl rfl (.tail .head) (.succ (.succ (.succ (.succ .zero)))) fun w u=>⟨fun _=>(St.ldsX u i2 (sub_cons t0 sub_nil)),?_⟩
 refine de (by kernel_rfl)<|tn<|?_
 replace u:=u.pk [2,1,0] rfl
 exact ⟨l68,oa70,cap71,vs72,hm,o.hs,u,hv73⟩
 refine di (i:=6) rfl<|a_bsl (e:=51) (sz:=9) [i6 r39.1.Kind,strv r39.1.Reg,strv r39.1.Name,.slice oa47 r39.1.E.length cap48,.slice oa51 r39.1.F.length cap52,i6 r39.1.N,i6 r39.1.Body,i6 r39.1.Else,i6 r39.1.At] o rfl u rfl rfl rfl (fun w=>by kernel_rfl) fun b66 w a u o=>?_
 have hv65:Rows (α:=api_Stmt) H44 [i6 r39.1.Kind,strv r39.1.Reg,strv r39.1.Name,.slice oa47 r39.1.E.length cap48,.slice oa51 r39.1.F.length cap52,i6 r39.1.N,i6 r39.1.Body,i6 r39.1.Else,i6 r39.1.At] ([r39.1]:List api_Stmt):=(.cons (c:=[i6 r39.1.Kind,strv r39.1.Reg,strv r39.1.Name,.slice oa47 r39.1.E.length cap48,.slice oa51 r39.1.F.length cap52,i6 r39.1.N,i6 r39.1.Body,i6 r39.1.Else,i6 r39.1.At]) ⟨_,_,rfl,rfl,⟨_,_,rfl,rfl,⟨_,_,rfl,rfl,⟨_,_,rfl,⟨_,_,rfl,hc49,hr50⟩,⟨_,_,rfl,⟨_,_,rfl,hc53,hr54⟩,⟨_,_,rfl,rfl,⟨_,_,rfl,rfl,⟨_,_,rfl,rfl,rfl⟩⟩⟩⟩⟩⟩⟩⟩ .nil)
 refine ⟨fun _=>(St.ldsX u i2 (sub_cons t1 sub_nil)),?_⟩
 refine da1 (i:=4) (by kernel_rfl) ?_
 refine di (i:=4) rfl<|q1 o rfl (e_ld o isAgg46 rfl ((St.ld u).cellB t2 rfl)) fun a o=>⟨fun _=>(St.ldsX u i2 (sub_cons t1 sub_nil)),?_⟩
 refine da1 (i:=7) (by kernel_rfl) ?_
 refine di (i:=7) rfl<|m_app (α:=api_Stmt) (xs:=r39.2.Out) (ys:=([r39.1]:List api_Stmt)) o rfl u underlying46 info51 rfl (by decide) rfl rfl rfl t3 hv62 (u.rdO t0) hv65 h69 fun oa70 cap71 vs72 w a hv73 hU o=>?_
 replace u:=hU _ (.tail (.tail (.tail .head)))
 replace u:=u.drop .head
 refine ⟨fun _=>(St.ldsX u i2 (sub_cons t0 sub_nil)),?_⟩
 refine ds 8 (St.ldsX u i2 (sub_cons t0 sub_nil)) o rfl (e_nilp o rfl) fun a o=>ds 9 (St.ldsX u i2 (sub_cons t0 sub_nil)) o rfl (e_fa o fa171_4 rfl) fun a o=>da1 (i:=10) (by kernel_rfl) ?_
 refine di (i:=10) rfl<|s_blk o u sizeOf46 rfl rfl rfl rfl (.tail .head) (.succ (.succ (.succ (.succ .zero)))) fun w u=>⟨fun _=>(St.ldsX u i2 (sub_cons t0 sub_nil)),?_⟩
 refine de (by kernel_rfl)<|tn<|?_
 replace u:=u.pk [2,1,0] rfl
 exact ⟨l68,oa70,cap71,vs72,hm,o.hs,u,hv73⟩
 rintro a w ⟨vA3,oaA4,capA5,vsA6,hm,o,u,hvA7⟩
 unfold Z3j at hm
 refine th<|th<|rg<|qm o rfl fun a o=>qv o (e_neq o rfl rfl) fun a o=>qm o rfl fun a o=>grp (N:=134) (Fk:=[(0,.pointer (some ⟨b2,0,none⟩)),(1,i6 p12),(2,i6 p13),(6,i6 vA1),(9,.pointer (some ⟨b64,0,none⟩)),(10,i6 (r39.2.Out.length:Int)),(79,.bool ((decide (vA1≠11)) && (decide (vA1≠12))))]) (b:=(decide (vA1≠11))) 3 u ?_ ?_ ?_
 intro hb key
 replace o:=Fr.as o (t:=76) rfl (congrArg Value.bool hb)
 refine qg o (e_move o rfl) fun a o=>qg o (e_neq o rfl rfl) fun a o=>qv o (e_as (v':=.bool ((decide (vA1≠11)) && (decide (vA1≠12)))) (e_pickT o rfl rfl) (by rw [hb];rfl)) fun a o=>?_
 exact key _ _ (o.hs) u
 intro hb key
 replace o:=Fr.as o (t:=76) rfl (congrArg Value.bool hb)
 iterate 2 refine qn o fun a o=>?_
 refine qv o (e_as (v':=.bool ((decide (vA1≠11)) && (decide (vA1≠12)))) (e_pickF o rfl rfl) (by rw [hb];rfl)) fun a o=>?_
 exact key _ _ (o.hs) u
 intro a w o u
 refine re<|?_
 rcases bdich ((decide (vA1≠11)) && (decide (vA1≠12))) with hb74 | hb74
 replace hm:=ite_t hm hb74
 refine tn<|ctv o rfl hb74<|th<|?_
 obtain ⟨r75,h76,hm⟩:=bs hm
 refine rg<|qm o rfl fun a o=>?_
 replace u:=u.pk [1,0,0] rfl
 replace u:=St.sep [blk b2 (.cells [.slice oa55 r39.2.L.length cap56,i6 r39.2.At,i6 r39.2.E,i6 r39.2.Pos,.slice oaA4 vA3.length capA5].toArray 171 (0,0)),sla 51 9 oaA4 vA3.length capA5 vsA6] u
 refine ls<|c1 o rfl call161 (Z3b_c (St.le u) (p1:=(leadlineref04_P.mk r39.2.L r39.2.At r39.2.E r39.2.Pos vA3)) (b2:=b2) (oa3:=oa55) (cap4:=cap56) (oa7:=oaA4) (cap8:=capA5) (vs9:=vsA6) hc57 hr58 hvA7 (St.sepOk u) (St.sepDis u) h76) ⟨rfl,rfl,trivial⟩ (fun v w a hR o=>?_)
 obtain ⟨H80,oa81,cap82,oa85,cap86,vs87,rfl,hc83,hr84,hv88,hx77,hl78,hd79,hk⟩:=hR
 obtain ⟨u,hx77⟩:=And.intro (St.mutH u hk hx77 hl78 hd79) (St.extcMM u hx77)
 replace u:=u.unsep
 refine re<|tn<|wr<|tr<|?_
 obtain rfl:=si hm
 exact r0 o results160 ⟨H80,oa81,cap82,oa85,cap86,vs87,rfl,hc83,hr84,hv88,(ExtM.trans hx41 hx77),(St.le u),(St.disL (u.pickL (.cons .head (.cons .head .nil)))),(u.pickL (.cons .head (.cons .head .nil))).endMut⟩
 replace hm:=ite_f hm hb74
 refine tn<|cfv o rfl hb74<|wk<|tn<|th<|rg<|qm o rfl fun a o=>qa o rfl fun a o=>re<|tn<|th<|th<|rg<|qm o rfl fun a o=>qv o (e_eql o rfl rfl) fun a o=>re<|tn<|midK (fun a w=>∃ (vA9:Int),(Z3k (Z34 N) N p12 vA1 r39 vA3) vA9=some r∧Fr 134 [(0,.pointer (some ⟨b2,0,none⟩)),(1,i6 p12),(6,i6 vA1),(9,.pointer (some ⟨b64,0,none⟩)),(10,i6 (r39.2.Out.length:Int)),(11,i6 vA9)] a∧St w0 (sepA [blk b2 (.cells [.slice oa3 p1.L.length cap4,i6 p1.At,i6 p1.E,i6 p1.Pos,.slice oa7 p1.Out.length cap8].toArray 171 (0,0)),sla 51 9 oa7 p1.Out.length cap8 vs9]).fp [H44] [sla 51 9 oaA4 vA3.length capA5 vsA6,blk b2 (.cells [.slice oa55 r39.2.L.length cap56,i6 r39.2.At,i6 r39.2.E,i6 r39.2.Pos,.slice oaA4 vA3.length capA5].toArray 171 (0,0)),blk b64 (.cells [i6 r39.1.Kind,strv r39.1.Reg,strv r39.1.Name,.slice oa47 r39.1.E.length cap48,.slice oa51 r39.1.F.length cap52,i6 r39.1.N,i6 r39.1.Body,i6 r39.1.Else,i6 r39.1.At].toArray 51 (0,0))] w) ?_ ?_
 rcases bdich (decide (vA1=12)) with hb90 | hb90
 replace hm:=itp_t hm hb90
 refine ctv o rfl hb90<|rg<|qm o rfl fun a o=>qv o (e_add o rfl rfl) fun a o=>qa o rfl fun a o=>re<|tn<|?_
 exact ⟨(IntKind.i64.wrap (p13+1)),hm,o.hs,u⟩
 replace hm:=itp_f hm hb90
 refine cfv o rfl hb90<|wk<|tn<|?_
 exact ⟨p13,hm,o.hs,u⟩
 rintro a w ⟨vA9,hm,o,u⟩
 unfold Z3k at hm
 refine th<|?_
 obtain ⟨r91,h92,hm⟩:=bs hm
 refine rg<|qm o rfl fun a o=>qm o rfl fun a o=>qv o (e_add o rfl rfl) fun a o=>qm o rfl fun a o=>?_
 replace u:=u.pk [1,0,0] rfl
 replace u:=St.sep [blk b2 (.cells [.slice oa55 r39.2.L.length cap56,i6 r39.2.At,i6 r39.2.E,i6 r39.2.Pos,.slice oaA4 vA3.length capA5].toArray 171 (0,0)),sla 51 9 oaA4 vA3.length capA5 vsA6] u
 refine ls<|c1 o rfl call169 (ih_Z34 (St.le u) (p1:=(leadlineref04_P.mk r39.2.L r39.2.At r39.2.E r39.2.Pos vA3)) (b2:=b2) (oa3:=oa55) (cap4:=cap56) (oa7:=oaA4) (cap8:=capA5) (vs9:=vsA6) hc57 hr58 hvA7 (St.sepOk u) (St.sepDis u) h92) ⟨rfl,rfl,rfl,trivial⟩ (fun v w a hR o=>?_)
 obtain ⟨H96,oa97,cap98,oa101,cap102,vs103,rfl,hc99,hr100,hv104,hx93,hl94,hd95,hk⟩:=hR
 obtain ⟨u,hx93⟩:=And.intro (St.mutH u hk hx93 hl94 hd95) (St.extcMM u hx93)
 replace u:=u.unsep
 refine qv o (e_fa o fa51_6 rfl) fun a o=>ls<|s_blk o u sizeOf3 rfl rfl rfl rfl (.tail (.tail .head)) (.succ (.succ (.succ (.succ (.succ (.succ .zero)))))) fun w u=>re<|tn<|th<|th<|midK (fun a w=>∃ (vA10:Bool),(Z3l (Z34 N) N p12 r39 vA9 r91) vA10=some r∧Fr 134 [(0,.pointer (some ⟨b2,0,none⟩)),(1,i6 p12),(9,.pointer (some ⟨b64,0,none⟩)),(10,i6 (r39.2.Out.length:Int)),(11,i6 vA9),(112,.bool vA10)] a∧St w0 (sepA [blk b2 (.cells [.slice oa3 p1.L.length cap4,i6 p1.At,i6 p1.E,i6 p1.Pos,.slice oa7 p1.Out.length cap8].toArray 171 (0,0)),sla 51 9 oa7 p1.Out.length cap8 vs9]).fp [H96] [sla 51 9 oa101 r91.2.Out.length cap102 vs103,blk b2 (.cells [.slice oa97 r91.2.L.length cap98,i6 r91.2.At,i6 r91.2.E,i6 r91.2.Pos,.slice oa101 r91.2.Out.length cap102].toArray 171 (0,0)),blk b64 (.cells [i6 r39.1.Kind,strv r39.1.Reg,strv r39.1.Name,.slice oa47 r39.1.E.length cap48,.slice oa51 r39.1.F.length cap52,i6 r39.1.N,i6 r91.1,i6 r39.1.Else,i6 r39.1.At].toArray 51 (0,0))] w) ?_ ?_
 rcases bdich (decide (vA1=11)) with hb106 | hb106
 replace hm:=itp_t hm hb106
 rcases bdich (decide (r91.2.E=0)) with hb107 | hb107
 replace hm:=itp_t hm hb107
 obtain ⟨r108,h109,hm⟩:=bs hm
 refine rdS 20 u wide fun w u=>dr 0 u o rfl (e_move o rfl) fun a o=>dr 1 u o rfl (e_eql o rfl rfl) fun a o=>dr 2 u o rfl (e_as (e_move o rfl) (congrArg Value.bool hb106)) fun a o=>dg 3 (St.ld u) o rfl (fun w hl=>e_move o rfl) fun a o=>dg 4 (St.ld u) o rfl (fun w hl=>e_nilp o rfl) fun a o=>dg 5 (St.ld u) o rfl (fun w hl=>e_fa o fa171_2 rfl) fun a o=>dg 6 (St.ld u) o rfl (fun w hl=>e_ld o isAgg29 rfl (hl.cellB t0 rfl)) fun a o=>dg 7 (St.ld u) o rfl (fun w hl=>e_eql o rfl rfl) fun a o=>dr 8 u o rfl (e_pickT o rfl rfl) fun a o=>dr 9 u o rfl (e_as (e_move o rfl) (congrArg Value.bool hb107)) fun a o=>dg 10 (St.ld u) o rfl (fun w hl=>e_move o rfl) fun a o=>dg 11 (St.ld u) o rfl (fun w hl=>e_nilp o rfl) fun a o=>dg 12 (St.ld u) o rfl (fun w hl=>e_fa o fa171_0 rfl) fun a o=>dg 13 (St.ld u) o rfl (fun w hl=>e_ld o isAgg120 rfl (hl.cellB t0 rfl)) fun a o=>dg 14 (St.ld u) o rfl (fun w hl=>e_move o rfl) fun a o=>dg 15 (St.ld u) o rfl (fun w hl=>e_nilp o rfl) fun a o=>dg 16 (St.ld u) o rfl (fun w hl=>e_fa o fa171_1 rfl) fun a o=>dg 17 (St.ld u) o rfl (fun w hl=>e_ld o isAgg3 rfl (hl.cellB t0 rfl)) fun a o=>da1 (i:=18) (by kernel_rfl) ?_
 refine di (i:=18) rfl<|gy o rfl rfl<|cq o call139 (Z1b_c (hp_le _) hc99 (St.srH u hr100) h109) ⟨rfl,rfl,rfl,trivial⟩ u fun w a u o=>⟨fun _=>(St.ld u),?_⟩
 refine dr 19 u o rfl (e_pickT o rfl rfl) fun a o=>de (by kernel_rfl)<|tn<|?_
 replace u:=u.pk [1,0,0] rfl
 exact ⟨r108,hm,o.hs,u⟩
 replace hm:=itp_f hm hb107
 refine rxS 20 u wide (by kernel_rfl) fun w u=>xm u o rfl fun a o=>xr u o (e_eql o rfl rfl) fun a o=>xr u o (e_as (e_move o rfl) (congrArg Value.bool hb106)) fun a o=>xg (St.ld u) o (fun w hl=>e_move o rfl) fun a o=>xg (St.ld u) o (fun w hl=>e_nilp o rfl) fun a o=>xg (St.ld u) o (fun w hl=>e_fa o fa171_2 rfl) fun a o=>xg (St.ld u) o (fun w hl=>e_ld o isAgg29 rfl (hl.cellB t0 rfl)) fun a o=>xg (St.ld u) o (fun w hl=>e_eql o rfl rfl) fun a o=>xr u o (e_pickT o rfl rfl) fun a o=>xr u o (e_as (e_move o rfl) (congrArg Value.bool hb107)) fun a o=>?_
 iterate 9 refine xn (St.ld u) o fun a o=>?_
 refine xr u o (e_pickF o rfl rfl) fun a o=>xe<|tn<|?_
 replace u:=u.pk [1,0,0] rfl
 exact ⟨false,hm,o.hs,u⟩
 replace hm:=itp_f hm hb106
 refine rxS 20 u wide (by kernel_rfl) fun w u=>xm u o rfl fun a o=>xr u o (e_eql o rfl rfl) fun a o=>xr u o (e_as (e_move o rfl) (congrArg Value.bool hb106)) fun a o=>?_
 iterate 5 refine xn (St.ld u) o fun a o=>?_
 refine xr u o (e_pickF o rfl rfl) fun a o=>xm u o rfl fun a o=>?_
 iterate 9 refine xn (St.ld u) o fun a o=>?_
 refine xr u o (e_pickF o rfl rfl) fun a o=>xe<|tn<|?_
 replace u:=u.pk [1,0,0] rfl
 exact ⟨false,hm,o.hs,u⟩
 rintro a w ⟨vA10,hm,o,u⟩
 unfold Z3l at hm
 refine midK (fun a w=>∃ (vA12:(List api_Token)) (vA17:Int) (vA18:Int) (vA19:Int) (vA20:(List api_Stmt)) (vA26:Int) (HA11:PH) (oaA13:Option Addr) (capA14:Nat) (oaA21:Option Addr) (capA22:Nat) (vsA23:List Value),(Z3m N r39 r91) vA12 vA17 vA18 vA19 vA20 vA26=some r∧ExtM w0 (sepA [blk b2 (.cells [.slice oa3 p1.L.length cap4,i6 p1.At,i6 p1.E,i6 p1.Pos,.slice oa7 p1.Out.length cap8].toArray 171 (0,0)),sla 51 9 oa7 p1.Out.length cap8 vs9]).fp H96 HA11∧Fr 134 [(0,.pointer (some ⟨b2,0,none⟩)),(9,.pointer (some ⟨b64,0,none⟩)),(10,i6 (r39.2.Out.length:Int))] a∧St w0 (sepA [blk b2 (.cells [.slice oa3 p1.L.length cap4,i6 p1.At,i6 p1.E,i6 p1.Pos,.slice oa7 p1.Out.length cap8].toArray 171 (0,0)),sla 51 9 oa7 p1.Out.length cap8 vs9]).fp [HA11] [sla 51 9 oaA21 vA20.length capA22 vsA23,blk b2 (.cells [.slice oaA13 vA12.length capA14,i6 vA17,i6 vA18,i6 vA19,.slice oaA21 vA20.length capA22].toArray 171 (0,0)),blk b64 (.cells [i6 r39.1.Kind,strv r39.1.Reg,strv r39.1.Name,.slice oa47 r39.1.E.length cap48,.slice oa51 r39.1.F.length cap52,i6 r39.1.N,i6 r91.1,i6 vA26,i6 r39.1.At].toArray 51 (0,0))] w∧vA12.length≤capA14∧SR HA11 oaA13 vA12∧Rows HA11 vsA23 vA20) ?_ ?_
 rcases bdich vA10 with hb110 | hb110
 replace hm:=ite_t hm hb110
 refine ctv o rfl hb110<|th<|rg<|qm o rfl fun a o=>qm o rfl fun a o=>qv o (e_nilp o rfl) fun a o=>qv o (e_fa o fa171_1 rfl) fun a o=>qv o (e_ld o isAgg3 rfl ((St.ld u).cellB t1 rfl)) fun a o=>qv o (e_add o rfl rfl) fun a o=>qv o (e_nilp o rfl) fun a o=>qv o (e_fa o fa171_1 rfl) fun a o=>ls<|s_blk o u sizeOf3 rfl rfl rfl rfl (.tail .head) (.succ .zero) fun w u=>re<|tn<|?_
 obtain ⟨r111,h112,hm⟩:=bs hm
 refine rg<|qm o rfl fun a o=>qm o rfl fun a o=>qv o (e_add o rfl rfl) fun a o=>qm o rfl fun a o=>?_
 replace u:=u.pk [1,0,0] rfl
 replace u:=St.sep [blk b2 (.cells [.slice oa97 r91.2.L.length cap98,i6 (IntKind.i64.wrap (r91.2.At+1)),i6 r91.2.E,i6 r91.2.Pos,.slice oa101 r91.2.Out.length cap102].toArray 171 (0,0)),sla 51 9 oa101 r91.2.Out.length cap102 vs103] u
 refine ls<|c1 o rfl call169 (ih_Z34 (St.le u) (p1:=(leadlineref04_P.mk r91.2.L (IntKind.i64.wrap (r91.2.At+1)) r91.2.E r91.2.Pos r91.2.Out)) (b2:=b2) (oa3:=oa97) (cap4:=cap98) (oa7:=oa101) (cap8:=cap102) (vs9:=vs103) hc99 hr100 hv104 (St.sepOk u) (St.sepDis u) h112) ⟨rfl,rfl,rfl,trivial⟩ (fun v w a hR o=>?_)
 obtain ⟨H116,oa117,cap118,oa121,cap122,vs123,rfl,hc119,hr120,hv124,hx113,hl114,hd115,hk⟩:=hR
 obtain ⟨u,hx113⟩:=And.intro (St.mutH u hk hx113 hl114 hd115) (St.extcMM u hx113)
 replace u:=u.unsep
 refine qv o (e_fa o fa51_7 rfl) fun a o=>ls<|s_blk o u sizeOf3 rfl rfl rfl rfl (.tail (.tail .head)) (.succ (.succ (.succ (.succ (.succ (.succ (.succ .zero))))))) fun w u=>re<|tn<|?_
 replace u:=u.pk [1,0,0] rfl
 exact ⟨r111.2.L,r111.2.At,r111.2.E,r111.2.Pos,r111.2.Out,r111.1,H116,oa117,cap118,oa121,cap122,vs123,hm,hx113,o.hs,u,hc119,hr120,hv124⟩
 replace hm:=ite_f hm hb110
 refine cfv o rfl hb110<|wk<|tn<|?_
 exact ⟨r91.2.L,r91.2.At,r91.2.E,r91.2.Pos,r91.2.Out,r39.1.Else,H96,oa97,cap98,oa101,cap102,vs103,hm,(ExtM.refl _ _ _),o.hs,u,hc99,hr100,hv104⟩
 rintro a w ⟨vA12,vA17,vA18,vA19,vA20,vA26,HA11,oaA13,capA14,oaA21,capA22,vsA23,hm,hxHA11,o,u,hcA15,hrA16,hvA24⟩
 unfold Z3m at hm
 obtain ⟨x126,h127,hm⟩:=bs hm
 have ho128:=Rd.oaI (u.rdO t0) hvA24 (by decide) h127
 obtain ⟨l129,h130,hm⟩:=bs hm
 refine rxS 7 u wide (by kernel_rfl) fun w u=>xm u o rfl fun a o=>xr u o (e_nilp o rfl) fun a o=>xr u o (e_fa o fa171_4 rfl) fun a o=>xq (St.ld u) o (fun w hl=>e_ld o isAgg46 rfl (hl.cellB t1 rfl)) fun a o=>xm u o rfl fun a o=>xq (St.ld u) o (fun w hl=>e_ldA o isAgg51 sizeOf51 rfl rfl (hl.cellsB t2)) fun a o=>xr u o (e_iaI o runUnderlying46 sizeOf51 rfl rfl h127 ho128) fun a o=>?_
 have hn133:=setI_len h130
 refine xz rfl<|s_slW (α:=api_Stmt) o u sizeOf51 rfl rfl rfl hvA24 (show Enc.rep (α:=api_Stmt) HA11 [i6 r39.1.Kind,strv r39.1.Reg,strv r39.1.Name,.slice oa47 r39.1.E.length cap48,.slice oa51 r39.1.F.length cap52,i6 r39.1.N,i6 r91.1,i6 vA26,i6 r39.1.At] (api_Stmt.mk r39.1.Kind r39.1.Reg r39.1.Name r39.1.E r39.1.F r39.1.N r91.1 vA26 r39.1.At) from ⟨_,_,rfl,rfl,⟨_,_,rfl,rfl,⟨_,_,rfl,rfl,⟨_,_,rfl,⟨_,_,rfl,hc49,(hr50.mono (cp hxHA11.sub hx93.sub))⟩,⟨_,_,rfl,⟨_,_,rfl,hc53,(hr54.mono (cp hxHA11.sub hx93.sub))⟩,⟨_,_,rfl,rfl,⟨_,_,rfl,rfl,⟨_,_,rfl,rfl,rfl⟩⟩⟩⟩⟩⟩⟩⟩) h130 t0 fun vs131 w hv132 hU=>?_
 replace u:=hU _ .head
 replace u:=St.eqL u (A':=blk b2 (.cells [.slice oaA13 vA12.length capA14,i6 vA17,i6 vA18,i6 vA19,.slice oaA21 l129.length capA22].toArray 171 (0,0))) (.tail .head) (by rw [hn133])
 obtain rfl:=si hm
 exact r0n o results160 ⟨HA11,oaA13,capA14,oaA21,capA22,vs131,rfl,hcA15,hrA16,hv132,(ExtM.trans hx41 (ExtM.trans hx93 hxHA11)),(St.le u),(St.disL (u.pickL (.cons (.tail .head) (.cons .head .nil)))),(u.pickL (.cons (.tail .head) (.cons .head .nil))).endMut⟩
theorem Z3f_c:∀ (N:Nat) {w0:World} {H:PH} (_:H.le w0) {b2:Nat} {p1:leadlineref04_P} {oa3:Option Addr} {cap4:Nat} (_:p1.L.length≤cap4) (_:SR H oa3 p1.L) {oa7:Option Addr} {cap8:Nat} {vs9:List Value} (_:Rows H vs9 p1.Out) {p12:Int} {p13:Int} (_:(sepA [blk b2 (.cells [.slice oa3 p1.L.length cap4,i6 p1.At,i6 p1.E,i6 p1.Pos,.slice oa7 p1.Out.length cap8].toArray 171 (0,0)),sla 51 9 oa7 p1.Out.length cap8 vs9]).ok (hp w0)) (_:∀ b,(sepA [blk b2 (.cells [.slice oa3 p1.L.length cap4,i6 p1.At,i6 p1.E,i6 p1.Pos,.slice oa7 p1.Out.length cap8].toArray 171 (0,0)),sla 51 9 oa7 p1.Out.length cap8 vs9]).fp b→H b=none) {r:leadlineref04_P} (_:Z3f N p1 p12 p13=some r),Tot Tryz.prog 160 #[.pointer (some ⟨b2,0,none⟩),i6 p12,i6 p13] w0 (fun v w'=>∃ (H':PH) (oa1m:Option Addr) (cap1m:Nat) (oa2m:Option Addr) (cap2m:Nat) (vs2m:List Value),v=.tuple #[]∧r.L.length≤cap1m∧SR H' oa1m r.L∧Rows H' vs2m r.Out∧ExtM w0 (sepA [blk b2 (.cells [.slice oa3 p1.L.length cap4,i6 p1.At,i6 p1.E,i6 p1.Pos,.slice oa7 p1.Out.length cap8].toArray 171 (0,0)),sla 51 9 oa7 p1.Out.length cap8 vs9]).fp H H'∧H'.le w'∧(∀ b,(sepA [blk b2 (.cells [.slice oa1m r.L.length cap1m,i6 r.At,i6 r.E,i6 r.Pos,.slice oa2m r.Out.length cap2m].toArray 171 (0,0)),sla 51 9 oa2m r.Out.length cap2m vs2m]).fp b→H' b=none)∧Mut w0 (sepA [blk b2 (.cells [.slice oa3 p1.L.length cap4,i6 p1.At,i6 p1.E,i6 p1.Pos,.slice oa7 p1.Out.length cap8].toArray 171 (0,0)),sla 51 9 oa7 p1.Out.length cap8 vs9]) (sepA [blk b2 (.cells [.slice oa1m r.L.length cap1m,i6 r.At,i6 r.E,i6 r.Pos,.slice oa2m r.Out.length cap2m].toArray 171 (0,0)),sla 51 9 oa2m r.Out.length cap2m vs2m]) w'):=fun N=>(Z3f_g N).2
theorem Z3u_c (hH:H.le w0) {oa2:Option Addr} {cap3:Nat} {p1:(List api_Token)} (hc4:p1.length≤cap3) (hr5:SR H oa2 p1) {p6:Int} {p7:Int} {r:((List api_Stmt)×Int×Int×Int)} (hm:Z3u N p1 p6 p7=some r):Tot Tryz.prog 141 #[.slice oa2 p1.length cap3,i6 p6,i6 p7] w0 (fun v w'=>∃ (H':PH) (oa0:Option Addr) (cap0:Nat),v=.tuple #[.slice oa0 r.1.length cap0,i6 r.2.1,i6 r.2.2.1,i6 r.2.2.2]∧r.1.length≤cap0∧SR H' oa0 r.1∧Ext w0 H H'∧H'.le w'∧Keep Nil w0 w'):=by
 unfold Z3u at hm
 refine fn0 func141 rfl ntmps141 rfl rfl fun a o=>?_
 have u:St w0 Nil [H] [] w0:=start1 hH
 refine th<|rg<|qa o rfl fun a o=>?_
 iterate 3 refine qa o rfl fun a o=>?_
 refine re<|tn<|th<|rg<|qm o rfl fun a o=>qm o rfl fun a o=>qv o (e_bldK [.slice oa2 p1.length cap3,i6 p6] [.slice oa2 p1.length cap3,i6 p6,i6 0,i6 0,.slice none 0 0] o ⟨rfl,rfl,trivial⟩ (fun w=>by kernel_rfl)) fun a o=>ls<|a_box (cs:=[.slice oa2 p1.length cap3,i6 p6,i6 0,i6 0,.slice none 0 0].toArray) o rfl u rfl rfl fun b8 w a u o=>qa o rfl fun a o=>re<|tn<|th<|midK (fun a w=>∃ (vA2:(List api_Token)) (vA7:Int) (vA8:Int) (vA9:Int) (vA10:(List api_Stmt)) (HA1:PH) (oaA3:Option Addr) (capA4:Nat) (oaA11:Option Addr) (capA12:Nat) (vsA13:List Value),(Z3v N p1 p7) vA2 vA7 vA8 vA9 vA10=some r∧Ext w0 H HA1∧Fr 68 [(0,.slice oa2 p1.length cap3),(2,i6 p7),(10,.pointer (some ⟨b8,0,none⟩))] a∧St w0 Nil [HA1] [sla 51 9 oaA11 vA10.length capA12 vsA13,blk b8 (.cells [.slice oaA3 vA2.length capA4,i6 vA7,i6 vA8,i6 vA9,.slice oaA11 vA10.length capA12].toArray 171 (0,0))] w∧vA2.length≤capA4∧SR HA1 oaA3 vA2∧Rows HA1 vsA13 vA10) ?_ ?_
 replace u:=St.nilS u 51 9
 refine wb<|lp (α:=Nat×(List api_Token)×Int×Int×Int×(List api_Stmt)) (fun gh a w=>match gh with | (nn2,vB2,vB7,vB8,vB9,vB10)=>∃ (HB1:PH) (oaB3:Option Addr) (capB4:Nat) (oaB11:Option Addr) (capB12:Nat) (vsB13:List Value),(Z3x N (Z3v N p1 p7)) nn2 vB2 vB7 vB8 vB9 vB10=some r∧Ext w0 H HB1∧Fr 68 [(0,.slice oa2 p1.length cap3),(2,i6 p7),(10,.pointer (some ⟨b8,0,none⟩))] a∧St w0 Nil [HB1] [sla 51 9 oaB11 vB10.length capB12 vsB13,blk b8 (.cells [.slice oaB3 vB2.length capB4,i6 vB7,i6 vB8,i6 vB9,.slice oaB11 vB10.length capB12].toArray 171 (0,0))] w∧vB2.length≤capB4∧SR HB1 oaB3 vB2∧Rows HB1 vsB13 vB10) (fun gh=>gh.1) (N,p1,p6,0,0,[]) ⟨H,oa2,cap3,none,0,[],hm,(Ext.refl _ _),o.hs,u,hc4,hr5,.nil⟩ ?_
 rintro ⟨nn2,vB2,vB7,vB8,vB9,vB10⟩ a w ⟨HB1,oaB3,capB4,oaB11,capB12,vsB13,hm,hxHB1,o,u,hcB5,hrB6,hvB14⟩
 obtain _ | nn2:=nn2
 simp [Z3x] at hm
 rw [Z3x] at hm
 refine th<|th<|midK (fun a w=>∃ (vC1:Bool),(Z3w N (Z3v N p1 p7) (Z3x N (Z3v N p1 p7) nn2) vB2 vB7 vB8 vB9 vB10) vC1=some r∧Fr 68 [(0,.slice oa2 p1.length cap3),(2,i6 p7),(10,.pointer (some ⟨b8,0,none⟩)),(31,.bool vC1)] a∧St w0 Nil [HB1] [sla 51 9 oaB11 vB10.length capB12 vsB13,blk b8 (.cells [.slice oaB3 vB2.length capB4,i6 vB7,i6 vB8,i6 vB9,.slice oaB11 vB10.length capB12].toArray 171 (0,0))] w) ?_ ?_
 rcases bdich (decide (vB8=0)) with hb9 | hb9
 replace hm:=itp_t hm hb9
 obtain ⟨r10,h11,hm⟩:=bs hm
 refine rdS 17 u wide fun w u=>dr 0 u o rfl (e_move o rfl) fun a o=>dr 1 u o rfl (e_nilp o rfl) fun a o=>dr 2 u o rfl (e_fa o fa171_2 rfl) fun a o=>dq 3 (St.ld u) o rfl (fun w hl=>e_ld o isAgg29 rfl (hl.cellB t1 rfl)) fun a o=>dr 4 u o rfl (e_eql o rfl rfl) fun a o=>dr 5 u o rfl (e_as (e_move o rfl) (congrArg Value.bool hb9)) fun a o=>dg 6 (St.ld u) o rfl (fun w hl=>e_move o rfl) fun a o=>dg 7 (St.ld u) o rfl (fun w hl=>e_nilp o rfl) fun a o=>dg 8 (St.ld u) o rfl (fun w hl=>e_fa o fa171_0 rfl) fun a o=>dg 9 (St.ld u) o rfl (fun w hl=>e_ld o isAgg120 rfl (hl.cellB t1 rfl)) fun a o=>dg 10 (St.ld u) o rfl (fun w hl=>e_move o rfl) fun a o=>dg 11 (St.ld u) o rfl (fun w hl=>e_nilp o rfl) fun a o=>dg 12 (St.ld u) o rfl (fun w hl=>e_fa o fa171_1 rfl) fun a o=>dg 13 (St.ld u) o rfl (fun w hl=>e_ld o isAgg3 rfl (hl.cellB t1 rfl)) fun a o=>da1 (i:=14) (by kernel_rfl) ?_
 refine di (i:=14) rfl<|gy o rfl rfl<|cq o call139 (Z1b_c (hp_le _) hcB5 (St.srH u hrB6) h11) ⟨rfl,rfl,rfl,trivial⟩ u fun w a u o=>⟨fun _=>(St.ld u),?_⟩
 refine dg 15 (St.ld u) o rfl (fun w hl=>e_not o rfl) fun a o=>dr 16 u o rfl (e_pickT o rfl rfl) fun a o=>de (by kernel_rfl)<|tn<|?_
 exact ⟨(!r10),hm,o.hs,u⟩
 replace hm:=itp_f hm hb9
 refine rxS 17 u wide (by kernel_rfl) fun w u=>xm u o rfl fun a o=>xr u o (e_nilp o rfl) fun a o=>xr u o (e_fa o fa171_2 rfl) fun a o=>xq (St.ld u) o (fun w hl=>e_ld o isAgg29 rfl (hl.cellB t1 rfl)) fun a o=>xr u o (e_eql o rfl rfl) fun a o=>xr u o (e_as (e_move o rfl) (congrArg Value.bool hb9)) fun a o=>?_
 iterate 10 refine xn (St.ld u) o fun a o=>?_
 refine xr u o (e_pickF o rfl rfl) fun a o=>xe<|tn<|?_
 exact ⟨false,hm,o.hs,u⟩
 rintro a w ⟨vC1,hm,o,u⟩
 unfold Z3w at hm
 rcases bdich vC1 with hb12 | hb12
 replace hm:=ite_t hm hb12
 refine ctv o rfl hb12<|wk<|tn<|wb<|?_
 obtain ⟨r13,h14,hm⟩:=bs hm
 refine rg<|qm o rfl fun a o=>?_
 replace u:=u.pk [1,0] rfl
 replace u:=St.sep [blk b8 (.cells [.slice oaB3 vB2.length capB4,i6 vB7,i6 vB8,i6 vB9,.slice oaB11 vB10.length capB12].toArray 171 (0,0)),sla 51 9 oaB11 vB10.length capB12 vsB13] u
 refine ls<|c1 o rfl call160 (Z3f_c _ (St.le u) (p1:=(leadlineref04_P.mk vB2 vB7 vB8 vB9 vB10)) (b2:=b8) (oa3:=oaB3) (cap4:=capB4) (oa7:=oaB11) (cap8:=capB12) (vs9:=vsB13) hcB5 hrB6 hvB14 (St.sepOk u) (St.sepDis u) h14) ⟨rfl,rfl,rfl,trivial⟩ (fun v w a hR o=>?_)
 obtain ⟨H18,oa19,cap20,oa23,cap24,vs25,rfl,hc21,hr22,hv26,hx15,hl16,hd17,hk⟩:=hR
 obtain ⟨u,hx15⟩:=And.intro (St.mutH u hk hx15 hl16 hd17) (St.extc0 u hx15)
 replace u:=u.unsep
 refine re<|bn<|tn<|?_
 replace u:=u.pk [1,0] rfl
 exact ⟨(nn2,r13.L,r13.At,r13.E,r13.Pos,r13.Out),⟨H18,oa19,cap20,oa23,cap24,vs25,hm,(Ext.trans hxHB1 hx15),o.hs,u,hc21,hr22,hv26⟩,Nat.lt_succ_self _⟩
 replace hm:=ite_f hm hb12
 refine cfv o rfl hb12<|we<|tx<|tx<|bx<|tn<|?_
 exact ⟨vB2,vB7,vB8,vB9,vB10,HB1,oaB3,capB4,oaB11,capB12,vsB13,hm,hxHB1,o.hs,u,hcB5,hrB6,hvB14⟩
 rintro a w ⟨vA2,vA7,vA8,vA9,vA10,HA1,oaA3,capA4,oaA11,capA12,vsA13,hm,hxHA1,o,u,hcA5,hrA6,hvA14⟩
 unfold Z3v at hm
 refine th<|?_
 obtain ⟨r28,h29,hm⟩:=bs hm
 refine rg<|qm o rfl fun a o=>?_
 replace u:=u.pk [1,0] rfl
 replace u:=St.sep [blk b8 (.cells [.slice oaA3 vA2.length capA4,i6 vA7,i6 vA8,i6 vA9,.slice oaA11 vA10.length capA12].toArray 171 (0,0)),sla 51 9 oaA11 vA10.length capA12 vsA13] u
 refine ls<|c1 o rfl call161 (Z3b_c (St.le u) (p1:=(leadlineref04_P.mk vA2 vA7 vA8 vA9 vA10)) (b2:=b8) (oa3:=oaA3) (cap4:=capA4) (oa7:=oaA11) (cap8:=capA12) (vs9:=vsA13) hcA5 hrA6 hvA14 (St.sepOk u) (St.sepDis u) h29) ⟨rfl,rfl,trivial⟩ (fun v w a hR o=>?_)
 obtain ⟨H33,oa34,cap35,oa38,cap39,vs40,rfl,hc36,hr37,hv41,hx30,hl31,hd32,hk⟩:=hR
 obtain ⟨u,hx30⟩:=And.intro (St.mutH u hk hx30 hl31 hd32) (St.extc0 u hx30)
 replace u:=u.unsep
 refine re<|tn<|th<|th<|rg<|qm o rfl fun a o=>qv o (e_nilp o rfl) fun a o=>qv o (e_fa o fa171_2 rfl) fun a o=>qv o (e_ld o isAgg29 rfl ((St.ld u).cellB t0 rfl)) fun a o=>qv o (e_neq o rfl rfl) fun a o=>re<|?_
 rcases bdich (decide (r28.E≠0)) with hb43 | hb43
 replace hm:=itp_t hm hb43
 refine tn<|ctv o rfl hb43<|th<|rxS 12 u wide (by kernel_rfl) fun w u=>xm u o rfl fun a o=>xr u o (e_nilp o rfl) fun a o=>xr u o (e_fa o fa171_2 rfl) fun a o=>xq (St.ld u) o (fun w hl=>e_ld o isAgg29 rfl (hl.cellB t0 rfl)) fun a o=>xm u o rfl fun a o=>xr u o (e_nilp o rfl) fun a o=>xr u o (e_fa o fa171_3 rfl) fun a o=>xq (St.ld u) o (fun w hl=>e_ld o isAgg3 rfl (hl.cellB t0 rfl)) fun a o=>?_
 iterate 4 refine xq (St.ld u) o (fun w hl=>e_asg o rfl) fun a o=>?_
 refine xe<|tn<|wr<|tr<|?_
 obtain rfl:=si hm
 exact Go.LM.r4 o results141 rfl rfl rfl rfl ⟨H33,_,_,rfl,(Nat.le_refl 0),(SR.nil _ _),(Ext.trans hxHA1 hx30),(St.le u),u.keep⟩
 replace hm:=itp_f hm hb43
 refine tn<|cfv o rfl hb43<|wk<|tn<|th<|th<|rg<|qm o rfl fun a o=>qv o (e_nilp o rfl) fun a o=>qv o (e_fa o fa171_4 rfl) fun a o=>qv o (e_ld o isAgg46 rfl ((St.ld u).cellB t0 rfl)) fun a o=>qv o (e_lenL (α:=api_Stmt) (xs:=r28.Out) o runUnderlying46 rfl) fun a o=>qv o (e_gtr o rfl rfl) fun a o=>re<|?_
 rcases bdich (decide (40 < (r28.Out.length:Int))) with hb44 | hb44
 replace hm:=itp_t hm hb44
 refine tn<|ctv o rfl hb44<|th<|?_
 obtain ⟨x45,h46,hm⟩:=bs hm
 obtain ⟨c47,g48,hl49⟩:=SR.get hr5 h46
 obtain rfl:=api_Token_open g48
 refine rxS 9 u wide (by kernel_rfl) fun w u=>?_
 iterate 2 refine xq (St.ld u) o (fun w hl=>e_move o rfl) fun a o=>?_
 refine xr u o (e_iaI o runUnderlying120 sizeOf130 rfl rfl h46 (SR.oaI hr5 (by decide) h46)) fun a o=>xr u o (e_fa o fa130_3 rfl) fun a o=>xq (St.ld u) o (fun w hl=>e_ld o isAgg3 rfl (PH.le.cell (fun b o hx=>(Lds.le hl) b o ((cp hx30.sub hxHA1.sub) b o hx)) (hl49 3 _ rfl))) fun a o=>?_
 iterate 4 refine xq (St.ld u) o (fun w hl=>e_asg o rfl) fun a o=>?_
 refine xe<|tn<|wr<|tr<|?_
 obtain rfl:=si hm
 exact Go.LM.r4 o results141 rfl rfl rfl rfl ⟨H33,_,_,rfl,(Nat.le_refl 0),(SR.nil _ _),(Ext.trans hxHA1 hx30),(St.le u),u.keep⟩
 replace hm:=itp_f hm hb44
 refine tn<|cfv o rfl hb44<|wk<|tn<|th<|rxS 12 u wide (by kernel_rfl) fun w u=>xm u o rfl fun a o=>xr u o (e_nilp o rfl) fun a o=>xr u o (e_fa o fa171_4 rfl) fun a o=>xq (St.ld u) o (fun w hl=>e_ld o isAgg46 rfl (hl.cellB t0 rfl)) fun a o=>xm u o rfl fun a o=>xr u o (e_nilp o rfl) fun a o=>xr u o (e_fa o fa171_1 rfl) fun a o=>xq (St.ld u) o (fun w hl=>e_ld o isAgg3 rfl (hl.cellB t0 rfl)) fun a o=>?_
 iterate 4 refine xq (St.ld u) o (fun w hl=>e_asg o rfl) fun a o=>?_
 refine xe<|tn<|wr<|?_
 obtain ⟨H53,hx50,hr51,hc52,u⟩:=St.frzS u (.tail .head) hv41
 obtain rfl:=si hm
 exact Go.LM.r4 o results141 rfl rfl rfl rfl ⟨H53,_,_,rfl,hc52,hr51,(Ext.trans hxHA1 (Ext.trans hx30 hx50)),(St.le u),u.keep⟩
set_option maxHeartbeats 4000000 in
theorem Z4r_c (hH:H.le w0) {b2:Nat} {p1:leadlineref05_In} {oa3:Option Addr} {cap4:Nat} (hc5:p1.L.length≤cap4) (hr6:SR H oa3 p1.L) {p7:Str} {oa9:Option Addr} {cap10:Nat} {p8:(List api_Stmt)} (hc11:p8.length≤cap10) (hr12:SR H oa9 p8) {p13:Int} (hO:(sepA [blk b2 (.cells [.slice oa3 p1.L.length cap4,i6 p1.At,i6 p1.E,i6 p1.Pos].toArray 125 (0,0))]).ok (hp w0)) (hD:∀ b,(sepA [blk b2 (.cells [.slice oa3 p1.L.length cap4,i6 p1.At,i6 p1.E,i6 p1.Pos].toArray 125 (0,0))]).fp b→H b=none) {r:(api_Thread×leadlineref05_In)} (hm:Z4r N p1 p7 p8 p13=some r):Tot Tryz.prog 105 #[.pointer (some ⟨b2,0,none⟩),.agg #[strv p7,.slice none 0 0,.slice oa9 p8.length cap10,i6 p13]] w0 (fun v w'=>∃ (H':PH) (cs0:List Value) (oa1m:Option Addr) (cap1m:Nat),v=.agg cs0.toArray∧Enc.rep H' cs0 r.1∧r.2.L.length≤cap1m∧SR H' oa1m r.2.L∧ExtM w0 (sepA [blk b2 (.cells [.slice oa3 p1.L.length cap4,i6 p1.At,i6 p1.E,i6 p1.Pos].toArray 125 (0,0))]).fp H H'∧H'.le w'∧(∀ b,(sepA [blk b2 (.cells [.slice oa1m r.2.L.length cap1m,i6 r.2.At,i6 r.2.E,i6 r.2.Pos].toArray 125 (0,0))]).fp b→H' b=none)∧Mut w0 (sepA [blk b2 (.cells [.slice oa3 p1.L.length cap4,i6 p1.At,i6 p1.E,i6 p1.Pos].toArray 125 (0,0))]) (sepA [blk b2 (.cells [.slice oa1m r.2.L.length cap1m,i6 r.2.At,i6 r.2.E,i6 r.2.Pos].toArray 125 (0,0))]) w'):=by
 unfold Z4r at hm
 refine fn0 func105 rfl ntmps105 rfl rfl fun a o=>?_
 have u:=startM hH hO hD
 refine th<|rg<|ls<|a_box (cs:=[strv p7,.slice none 0 0,.slice oa9 p8.length cap10,i6 p13].toArray) o rfl u rfl rfl fun b14 w a u o=>ls<|a_alloc (cs:=[strv [],.slice none 0 0,.slice none 0 0,i6 0].toArray) o rfl u zeroValue48 rfl fun b15 w a u o=>re<|tn<|th<|rg<|qm o rfl fun a o=>qv o (e_nilp o rfl) fun a o=>qv o (e_fa o fa125_1 rfl) fun a o=>qv o (e_ld o isAgg3 rfl ((St.ld u).cellB t2 rfl)) fun a o=>qa o rfl fun a o=>re<|tn<|th<|?_
 obtain ⟨r16,h17,hm⟩:=bs hm
 refine rg<|qm o rfl fun a o=>?_
 replace u:=u.pk [2,0,0] rfl
 replace u:=St.sep [blk b2 (.cells [.slice oa3 p1.L.length cap4,i6 p1.At,i6 p1.E,i6 p1.Pos].toArray 125 (0,0))] u
 refine ls<|c1 o rfl call140 (Z4i_c (St.le u) (p1:=p1) (b2:=b2) (oa3:=oa3) (cap4:=cap4) hc5 hr6 (St.sepOk u) (St.sepDis u) h17) ⟨rfl,rfl,trivial⟩ (fun v w a hR o=>?_)
 obtain ⟨oa18,cap19,rfl,hc20,hr21,hk⟩:=hR
 replace u:=(u.mut hk .head).unsep
 refine re<|tn<|th<|th<|?_
 obtain ⟨r22,h23,hm⟩:=bs hm
 refine rg<|qm o rfl fun a o=>?_
 replace u:=u.pk [0,0,0] rfl
 replace u:=St.sep [blk b2 (.cells [.slice oa18 r16.L.length cap19,i6 r16.At,i6 r16.E,i6 r16.Pos].toArray 125 (0,0))] u
 refine ls<|c1 o rfl call102 (Z4g_c (St.le u) (p1:=r16) (b2:=b2) (oa3:=oa18) (cap4:=cap19) hc20 hr21 (St.sepOk u) (St.sepDis u) h23) ⟨rfl,rfl,trivial⟩ (fun v w a hR o=>?_)
 obtain ⟨oa24,cap25,rfl,hc26,hr27,hk⟩:=hR
 replace u:=(u.mut hk .head).unsep
 refine re<|tn<|midK (fun a w=>∃ (vA1:(List api_Token)) (vA6:Int) (vA7:Int) (vA8:Int) (vA9:(List Str)) (oaA2:Option Addr) (capA3:Nat) (oaA10:Option Addr) (capA11:Nat) (vsA12:List Value),(Z4s N p1 p7 p8 p13) vA1 vA6 vA7 vA8 vA9=some r∧Fr 73 [(0,.pointer (some ⟨b2,0,none⟩)),(3,.pointer (some ⟨b14,0,none⟩)),(4,.pointer (some ⟨b15,0,none⟩)),(5,i6 p1.At)] a∧St w0 (sepA [blk b2 (.cells [.slice oa3 p1.L.length cap4,i6 p1.At,i6 p1.E,i6 p1.Pos].toArray 125 (0,0))]).fp [H] [blk b2 (.cells [.slice oaA2 vA1.length capA3,i6 vA6,i6 vA7,i6 vA8].toArray 125 (0,0)),sla 9 1 oaA10 vA9.length capA11 vsA12,blk b14 (.cells [strv p7,.slice oaA10 vA9.length capA11,.slice oa9 p8.length cap10,i6 p13].toArray 48 (0,0)),blk b15 (.cells [strv [],.slice none 0 0,.slice none 0 0,i6 0].toArray 48 (0,0))] w∧vA1.length≤capA3∧SR H oaA2 vA1∧Rows H vsA12 vA9) ?_ ?_
 rcases bdich r22.1 with hb28 | hb28
 replace hm:=ite_t hm hb28
 refine ctv o rfl hb28<|th<|?_
 obtain ⟨r29,h30,hm⟩:=bs hm
 refine rg<|qm o rfl fun a o=>?_
 replace u:=u.pk [0,0,0] rfl
 replace u:=St.sep [blk b2 (.cells [.slice oa24 r22.2.L.length cap25,i6 r22.2.At,i6 r22.2.E,i6 r22.2.Pos].toArray 125 (0,0))] u
 refine ls<|c1 o rfl call103 (Z4l_c (St.le u) (p1:=r22.2) (b2:=b2) (oa3:=oa24) (cap4:=cap25) hc26 hr27 (St.sepOk u) (St.sepDis u) h30) ⟨rfl,rfl,trivial⟩ (fun v w a hR o=>?_)
 obtain ⟨oa31,cap32,vs33,oa36,cap37,rfl,hv34,hc38,hr39,hk⟩:=hR
 replace u:=(u.mut hk .head).unsep
 replace hv34:=hv34 H
 refine qa o rfl fun a o=>re<|tn<|th<|rg<|qa o rfl fun a o=>re<|?_
 replace u:=St.nilS u 9 1
 replace u:=u.pk [1,0,2,1,0] rfl
 refine tn<|wb<|lp (α:=Nat×(List Str)×Int) (fun gh a w=>match gh with | (nn2,vB1,vB7)=>∃ (oaB2:Option Addr) (capB3:Nat) (vsB4:List Value),(Z4u N (Z4s N p1 p7 p8 p13) r29) nn2 vB1 vB7=some r∧Fr 73 [(0,.pointer (some ⟨b2,0,none⟩)),(3,.pointer (some ⟨b14,0,none⟩)),(4,.pointer (some ⟨b15,0,none⟩)),(5,i6 p1.At),(6,.slice oa31 r29.1.length cap32),(7,i6 vB7)] a∧St w0 (sepA [blk b2 (.cells [.slice oa3 p1.L.length cap4,i6 p1.At,i6 p1.E,i6 p1.Pos].toArray 125 (0,0))]).fp [H] [blk b2 (.cells [.slice oa36 r29.2.L.length cap37,i6 r29.2.At,i6 r29.2.E,i6 r29.2.Pos].toArray 125 (0,0)),sla 9 1 oaB2 vB1.length capB3 vsB4,blk b14 (.cells [strv p7,.slice oaB2 vB1.length capB3,.slice oa9 p8.length cap10,i6 p13].toArray 48 (0,0)),blk b15 (.cells [strv [],.slice none 0 0,.slice none 0 0,i6 0].toArray 48 (0,0)),sla 53 3 oa31 r29.1.length cap32 vs33] w∧Rows H vsB4 vB1) (fun gh=>gh.1) (N,[],0) ⟨none,0,[],hm,o.hs,u,.nil⟩ ?_
 rintro ⟨nn2,vB1,vB7⟩ a w ⟨oaB2,capB3,vsB4,hm,o,u,hvB5⟩
 obtain _ | nn2:=nn2
 simp [Z4u] at hm
 rw [Z4u] at hm
 refine th<|th<|rg<|qm o rfl fun a o=>qm o rfl fun a o=>qv o (e_lenL (α:=api_Cell) (xs:=r29.1) o runUnderlying23 rfl) fun a o=>qv o (e_lss o rfl rfl) fun a o=>re<|?_
 rcases bdich (decide (vB7 < (r29.1.length:Int))) with hb40 | hb40
 replace hm:=itp_t hm hb40
 refine tn<|ctv o rfl hb40<|wk<|tn<|th<|wb<|?_
 obtain ⟨x41,h42,hm⟩:=bs hm
 have ho43:=Rd.oaI (u.rdO t4) hv34 (by decide) h42
 obtain ⟨c44,g45,hl46⟩:=Rows.getI hv34 h42
 obtain rfl:=api_Cell_open g45
 obtain ⟨l50,h51,hm⟩:=bs hm
 refine rdL (sub_cons t0 (sub_cons t2 (sub_cons t3 (sub_cons t4 sub_nil)))) 10 u wide fun w u=>ds 0 (St.ldsX u i2 (sub_cons t0 (sub_cons t2 (sub_cons t3 (sub_cons t4 sub_nil))))) o rfl (e_fa o fa48_1 rfl) fun a o=>dq 1 (St.ldsX u i2 (sub_cons t0 (sub_cons t2 (sub_cons t3 (sub_cons t4 sub_nil))))) o rfl (fun w hl=>e_ld o isAgg36 rfl (hl.cellB t1 rfl)) fun a o=>ds 2 (St.ldsX u i2 (sub_cons t0 (sub_cons t2 (sub_cons t3 (sub_cons t4 sub_nil))))) o rfl (e_move o rfl) fun a o=>ds 3 (St.ldsX u i2 (sub_cons t0 (sub_cons t2 (sub_cons t3 (sub_cons t4 sub_nil))))) o rfl (e_move o rfl) fun a o=>ds 4 (St.ldsX u i2 (sub_cons t0 (sub_cons t2 (sub_cons t3 (sub_cons t4 sub_nil))))) o rfl (e_iaI o runUnderlying23 sizeOf53 rfl rfl h42 ho43) fun a o=>ds 5 (St.ldsX u i2 (sub_cons t0 (sub_cons t2 (sub_cons t3 (sub_cons t4 sub_nil))))) o rfl (e_fa o fa53_0 rfl) fun a o=>dq 6 (St.ldsX u i2 (sub_cons t0 (sub_cons t2 (sub_cons t3 (sub_cons t4 sub_nil))))) o rfl (fun w hl=>e_ld o isAgg9 rfl (hl.elO2 t3 (hl46 0 _ rfl))) fun a o=>da1 (i:=7) (by kernel_rfl) ?_
 refine di (i:=7) rfl<|a_bsl (e:=9) (sz:=1) [strv x41.Name] o rfl u rfl rfl rfl (fun w=>by kernel_rfl) fun b48 w a u o=>?_
 have hv47:Rows (α:=Str) H [strv x41.Name] ([x41.Name]:List Str):=(.cons (c:=[strv x41.Name]) rfl .nil)
 refine ⟨fun _=>(St.ldsX u i2 (sub_cons t1 (sub_cons t3 (sub_cons t4 (sub_cons t5 sub_nil))))),?_⟩
 refine da1 (i:=8) (by kernel_rfl) ?_
 refine di (i:=8) rfl<|m_app (α:=Str) (xs:=vB1) (ys:=([x41.Name]:List Str)) o rfl u underlying36 info9 rfl (by decide) rfl rfl rfl t2 hvB5 (u.rdO t0) hv47 h51 fun oa52 cap53 vs54 w a hv55 hU o=>?_
 replace u:=hU _ (.tail (.tail .head))
 replace u:=u.drop .head
 refine ⟨fun _=>(St.ldsX u i2 (sub_cons t0 (sub_cons t2 (sub_cons t3 (sub_cons t4 sub_nil))))),?_⟩
 refine ds 9 (St.ldsX u i2 (sub_cons t0 (sub_cons t2 (sub_cons t3 (sub_cons t4 sub_nil))))) o rfl (e_fa o fa48_1 rfl) fun a o=>da1 (i:=10) (by kernel_rfl) ?_
 refine di (i:=10) rfl<|s_blk o u sizeOf36 rfl rfl rfl rfl (.tail (.tail .head)) (.succ .zero) fun w u=>⟨fun h=>absurd rfl h,?_⟩
 refine de (by kernel_rfl)<|bn<|tn<|rg<|qm o rfl fun a o=>qv o (e_add o rfl rfl) fun a o=>qa o rfl fun a o=>re<|tn<|?_
 exact ⟨(nn2,l50,(IntKind.i64.wrap (vB7+1))),⟨oa52,cap53,vs54,hm,o.hs,u,hv55⟩,Nat.lt_succ_self _⟩
 replace hm:=itp_f hm hb40
 refine tn<|cfv o rfl hb40<|we<|tx<|tx<|bx<|tn<|?_
 replace u:=u.pk [0,0,0,0] rfl
 exact ⟨r29.2.L,r29.2.At,r29.2.E,r29.2.Pos,vB1,oa36,cap37,oaB2,capB3,vsB4,hm,o.hs,u,hc38,hr39,hvB5⟩
 replace hm:=ite_f hm hb28
 refine cfv o rfl hb28<|wk<|tn<|?_
 replace u:=St.nilS u 9 1
 replace u:=u.pk [1,0,1,0] rfl
 exact ⟨r22.2.L,r22.2.At,r22.2.E,r22.2.Pos,[],oa24,cap25,none,0,[],hm,o.hs,u,hc26,hr27,.nil⟩
 rintro a w ⟨vA1,vA6,vA7,vA8,vA9,oaA2,capA3,oaA10,capA11,vsA12,hm,o,u,hcA4,hrA5,hvA13⟩
 unfold Z4s at hm
 refine th<|th<|rg<|qm o rfl fun a o=>qv o (e_nilp o rfl) fun a o=>qv o (e_fa o fa125_2 rfl) fun a o=>qv o (e_ld o isAgg29 rfl ((St.ld u).cellB t0 rfl)) fun a o=>qv o (e_eql o rfl rfl) fun a o=>re<|tn<|midK (fun a w=>∃ (vA16:Int) (vA17:Int) (vA18:Int) (vA19:(List api_Stmt)) (HA15:PH) (oaA20:Option Addr) (capA21:Nat),(Z4t p7 p13 vA1 vA9) vA16 vA17 vA18 vA19=some r∧ExtM w0 (sepA [blk b2 (.cells [.slice oa3 p1.L.length cap4,i6 p1.At,i6 p1.E,i6 p1.Pos].toArray 125 (0,0))]).fp H HA15∧Fr 73 [(0,.pointer (some ⟨b2,0,none⟩)),(3,.pointer (some ⟨b14,0,none⟩)),(4,.pointer (some ⟨b15,0,none⟩))] a∧St w0 (sepA [blk b2 (.cells [.slice oa3 p1.L.length cap4,i6 p1.At,i6 p1.E,i6 p1.Pos].toArray 125 (0,0))]).fp [HA15] [blk b2 (.cells [.slice oaA2 vA1.length capA3,i6 vA16,i6 vA17,i6 vA18].toArray 125 (0,0)),sla 9 1 oaA10 vA9.length capA11 vsA12,blk b14 (.cells [strv p7,.slice oaA10 vA9.length capA11,.slice oaA20 vA19.length capA21,i6 p13].toArray 48 (0,0)),blk b15 (.cells [strv [],.slice none 0 0,.slice none 0 0,i6 0].toArray 48 (0,0))] w∧vA19.length≤capA21∧SR HA15 oaA20 vA19) ?_ ?_
 rcases bdich (decide (vA7=0)) with hb56 | hb56
 replace hm:=itp_t hm hb56
 refine ctv o rfl hb56<|th<|?_
 obtain ⟨r57,h58,hm⟩:=bs hm
 refine rdS 19 u wide fun w u=>dr 0 u o rfl (e_move o rfl) fun a o=>dr 1 u o rfl (e_nilp o rfl) fun a o=>dr 2 u o rfl (e_fa o fa125_0 rfl) fun a o=>dq 3 (St.ld u) o rfl (fun w hl=>e_ld o isAgg120 rfl (hl.cellB t0 rfl)) fun a o=>dr 4 u o rfl (e_move o rfl) fun a o=>dr 5 u o rfl (e_nilp o rfl) fun a o=>dr 6 u o rfl (e_fa o fa125_1 rfl) fun a o=>dq 7 (St.ld u) o rfl (fun w hl=>e_ld o isAgg3 rfl (hl.cellB t0 rfl)) fun a o=>dr 8 u o rfl (e_move o rfl) fun a o=>da1 (i:=9) (by kernel_rfl) ?_
 refine di (i:=9) rfl<|c1 o rfl call141 (Z3u_c (St.le u) hcA4 hrA5 h58) ⟨rfl,rfl,rfl,trivial⟩ (fun v w a hR o=>?_)
 obtain ⟨H62,oa63,cap64,rfl,hc65,hr66,hx59,hl60,hk⟩:=hR
 obtain ⟨u,hx59⟩:=And.intro (St.passH u hk hx59 hl60) (St.extcM u hx59)
 refine ⟨fun _=>(St.ldsX u hx59.sub i1),?_⟩
 refine ds 10 (St.ldsX u hx59.sub i1) o rfl (e_move o rfl) fun a o=>ds 11 (St.ldsX u hx59.sub i1) o rfl (e_ext o rfl rfl) fun a o=>ds 12 (St.ldsX u hx59.sub i1) o rfl (e_ext o rfl rfl) fun a o=>ds 13 (St.ldsX u hx59.sub i1) o rfl (e_ext o rfl rfl) fun a o=>ds 14 (St.ldsX u hx59.sub i1) o rfl (e_ext o rfl rfl) fun a o=>ds 15 (St.ldsX u hx59.sub i1) o rfl (e_asg o rfl) fun a o=>ds 16 (St.ldsX u hx59.sub i1) o rfl (e_asg o rfl) fun a o=>ds 17 (St.ldsX u hx59.sub i1) o rfl (e_asg o rfl) fun a o=>ds 18 (St.ldsX u hx59.sub i1) o rfl (e_asg o rfl) fun a o=>de (by kernel_rfl)<|tn<|th<|rg<|qm o rfl fun a o=>qv o (e_fa o fa48_2 rfl) fun a o=>ls<|s_blk o u sizeOf46 rfl rfl rfl rfl (.tail (.tail .head)) (.succ (.succ .zero)) fun w u=>re<|tn<|th<|rg<|qm o rfl fun a o=>qm o rfl fun a o=>qv o (e_nilp o rfl) fun a o=>qv o (e_fa o fa125_1 rfl) fun a o=>ls<|s_blk o u sizeOf3 rfl rfl rfl rfl .head (.succ .zero) fun w u=>re<|tn<|th<|rg<|qm o rfl fun a o=>qm o rfl fun a o=>qv o (e_nilp o rfl) fun a o=>qv o (e_fa o fa125_2 rfl) fun a o=>ls<|s_blk o u sizeOf29 rfl rfl rfl rfl .head (.succ (.succ .zero)) fun w u=>re<|tn<|rg<|qm o rfl fun a o=>qm o rfl fun a o=>qv o (e_nilp o rfl) fun a o=>qv o (e_fa o fa125_3 rfl) fun a o=>ls<|s_blk o u sizeOf3 rfl rfl rfl rfl .head (.succ (.succ (.succ .zero))) fun w u=>re<|tn<|?_
 exact ⟨r57.2.1,r57.2.2.1,r57.2.2.2,r57.1,H62,oa63,cap64,hm,hx59,o.hs,u,hc65,hr66⟩
 replace hm:=itp_f hm hb56
 refine cfv o rfl hb56<|wk<|tn<|?_
 exact ⟨vA6,vA7,vA8,p8,H,oa9,cap10,hm,(ExtM.refl _ _ _),o.hs,u,hc11,hr12⟩
 rintro a w ⟨vA16,vA17,vA18,vA19,HA15,oaA20,capA21,hm,hxHA15,o,u,hcA22,hrA23⟩
 unfold Z4t at hm
 refine th<|rg<|qv o (e_ldA o Tryz.isAgg48 Tryz.sizeOf48 rfl rfl ((St.ld u).cellsB t2)) fun a o=>ls<|s_blkA o u sizeOf48 rfl rfl rfl rfl (one_cells rfl) (.tail (.tail (.tail .head))) fun w u=>re<|tn<|wr<|?_
 obtain ⟨H70,hx67,hr68,hc69,u⟩:=St.frzSM u (.tail .head) (hvA13.mono hxHA15.sub)
 obtain rfl:=si hm
 exact r1c (vs:=[strv p7,.slice oaA10 vA9.length capA11,.slice oaA20 vA19.length capA21,i6 p13]) (.inl rfl) o results105 rfl isAgg48 sizeOf48 rfl ((St.ld u).cellsB t2) ⟨H70,_,oaA2,capA3,rfl,(show Enc.rep (α:=api_Thread) H70 [strv p7,.slice oaA10 vA9.length capA11,.slice oaA20 vA19.length capA21,i6 p13] (api_Thread.mk p7 vA9 vA19 p13) from ⟨_,_,rfl,rfl,⟨_,_,rfl,⟨_,_,rfl,hc69,hr68⟩,⟨_,_,rfl,⟨_,_,rfl,hcA22,(hrA23.mono hx67.sub)⟩,rfl⟩⟩⟩),hcA4,(hrA5.mono (cp hx67.sub hxHA15.sub)),(ExtM.trans hxHA15 hx67),(St.le u),(St.disL (u.pickL (.cons .head .nil))),(u.pickL (.cons .head .nil)).endMut⟩
theorem Z4f_c (hH:H.le w0) {b2:Nat} {p1:leadlineref05_In} {oa3:Option Addr} {cap4:Nat} (hc5:p1.L.length≤cap4) (hr6:SR H oa3 p1.L) {p7:Int} (hO:(sepA [blk b2 (.cells [.slice oa3 p1.L.length cap4,i6 p1.At,i6 p1.E,i6 p1.Pos].toArray 125 (0,0))]).ok (hp w0)) (hD:∀ b,(sepA [blk b2 (.cells [.slice oa3 p1.L.length cap4,i6 p1.At,i6 p1.E,i6 p1.Pos].toArray 125 (0,0))]).fp b→H b=none) {r:(api_Claim×leadlineref05_In)} (hm:Z4f N p1 p7=some r):Tot Tryz.prog 106 #[.pointer (some ⟨b2,0,none⟩),i6 p7] w0 (fun v w'=>∃ (H':PH) (cs0:List Value) (oa1m:Option Addr) (cap1m:Nat),v=.agg cs0.toArray∧Enc.rep H' cs0 r.1∧r.2.L.length≤cap1m∧SR H' oa1m r.2.L∧ExtM w0 (sepA [blk b2 (.cells [.slice oa3 p1.L.length cap4,i6 p1.At,i6 p1.E,i6 p1.Pos].toArray 125 (0,0))]).fp H H'∧H'.le w'∧(∀ b,(sepA [blk b2 (.cells [.slice oa1m r.2.L.length cap1m,i6 r.2.At,i6 r.2.E,i6 r.2.Pos].toArray 125 (0,0))]).fp b→H' b=none)∧Mut w0 (sepA [blk b2 (.cells [.slice oa3 p1.L.length cap4,i6 p1.At,i6 p1.E,i6 p1.Pos].toArray 125 (0,0))]) (sepA [blk b2 (.cells [.slice oa1m r.2.L.length cap1m,i6 r.2.At,i6 r.2.E,i6 r.2.Pos].toArray 125 (0,0))]) w'):=by
 unfold Z4f at hm
 refine fn0 func106 rfl ntmps106 rfl rfl fun a o=>?_
 have u:=startM hH hO hD
 refine th<|rg<|ls<|a_alloc (cs:=[.slice none 0 0,i6 0].toArray) o rfl u Tryz.zeroValue74 rfl fun b8 w a u o=>re<|tn<|th<|?_
 obtain ⟨rz9,h10,hm⟩:=bs hm
 refine rdS 18 u wide fun w u=>dr 0 u o rfl (e_move o rfl) fun a o=>dr 1 u o rfl (e_nilp o rfl) fun a o=>dr 2 u o rfl (e_fa o fa125_0 rfl) fun a o=>dq 3 (St.ld u) o rfl (fun w hl=>e_ld o isAgg120 rfl (hl.cellB t1 rfl)) fun a o=>dr 4 u o rfl (e_move o rfl) fun a o=>dr 5 u o rfl (e_nilp o rfl) fun a o=>dr 6 u o rfl (e_fa o fa125_1 rfl) fun a o=>dq 7 (St.ld u) o rfl (fun w hl=>e_ld o isAgg3 rfl (hl.cellB t1 rfl)) fun a o=>da1 (i:=8) (by kernel_rfl) ?_
 refine di (i:=8) rfl<|c1 o rfl call142 (Z2k_c (St.le u) hc5 hr6 h10) ⟨rfl,rfl,trivial⟩ (fun v w a hR o=>?_)
 obtain ⟨H14,oa15,cap16,rfl,hc17,hr18,hx11,hl12,hk⟩:=hR
 obtain ⟨u,hx11⟩:=And.intro (St.passH u hk hx11 hl12) (St.extcM u hx11)
 refine ⟨fun _=>(St.ldsX u hx11.sub i1),?_⟩
 refine ds 9 (St.ldsX u hx11.sub i1) o rfl (e_move o rfl) fun a o=>ds 10 (St.ldsX u hx11.sub i1) o rfl (e_ext o rfl rfl) fun a o=>ds 11 (St.ldsX u hx11.sub i1) o rfl (e_ext o rfl rfl) fun a o=>ds 12 (St.ldsX u hx11.sub i1) o rfl (e_ext o rfl rfl) fun a o=>ds 13 (St.ldsX u hx11.sub i1) o rfl (e_ext o rfl rfl) fun a o=>ds 14 (St.ldsX u hx11.sub i1) o rfl (e_asg o rfl) fun a o=>ds 15 (St.ldsX u hx11.sub i1) o rfl (e_asg o rfl) fun a o=>ds 16 (St.ldsX u hx11.sub i1) o rfl (e_asg o rfl) fun a o=>ds 17 (St.ldsX u hx11.sub i1) o rfl (e_asg o rfl) fun a o=>de (by kernel_rfl)<|tn<|th<|th<|rg<|qm o rfl fun a o=>qv o (e_neq o rfl rfl) fun a o=>re<|?_
 rcases bdich (decide (rz9.2.2.1≠0)) with hb19 | hb19
 replace hm:=itp_t hm hb19
 refine tn<|ctv o rfl hb19<|th<|rg<|qm o rfl fun a o=>qm o rfl fun a o=>qv o (e_nilp o rfl) fun a o=>qv o (e_fa o fa125_2 rfl) fun a o=>ls<|s_blk o u sizeOf29 rfl rfl rfl rfl (.tail .head) (.succ (.succ .zero)) fun w u=>re<|tn<|th<|rg<|qm o rfl fun a o=>qm o rfl fun a o=>qv o (e_nilp o rfl) fun a o=>qv o (e_fa o fa125_3 rfl) fun a o=>ls<|s_blk o u sizeOf3 rfl rfl rfl rfl (.tail .head) (.succ (.succ (.succ .zero))) fun w u=>re<|tn<|th<|rg<|qv o (e_bldK [] [.slice none 0 0,i6 0] o trivial (fun w=>by kernel_rfl)) fun a o=>ls<|s_blkA o u sizeOf74 rfl rfl rfl rfl (one_cells rfl) .head fun w u=>re<|tn<|wr<|tr<|?_
 obtain rfl:=si hm
 exact r1c (vs:=[.slice none 0 0,i6 0]) (.inl rfl) o results106 rfl isAgg74 sizeOf74 rfl ((St.ld u).cellsB t0) ⟨H14,_,oa3,cap4,rfl,(show Enc.rep (α:=api_Claim) H14 [.slice none 0 0,i6 0] (api_Claim.mk [] 0) from ⟨_,_,rfl,⟨none,0,rfl,Nat.le_refl _,SR.nil _ _⟩,rfl⟩),hc5,(hr6.mono hx11.sub),hx11,(St.le u),(St.disL (u.pickL (.cons (.tail .head) .nil))),(u.pickL (.cons (.tail .head) .nil)).endMut⟩
 replace hm:=itp_f hm hb19
 refine tn<|cfv o rfl hb19<|wk<|tn<|th<|rg<|qm o rfl fun a o=>qm o rfl fun a o=>qv o (e_nilp o rfl) fun a o=>qv o (e_fa o fa125_1 rfl) fun a o=>ls<|s_blk o u sizeOf3 rfl rfl rfl rfl (.tail .head) (.succ .zero) fun w u=>re<|tn<|th<|?_
 obtain ⟨r20,h21,hm⟩:=bs hm
 refine rg<|qm o rfl fun a o=>?_
 replace u:=u.pk [1,0] rfl
 replace u:=St.sep [blk b2 (.cells [.slice oa3 p1.L.length cap4,i6 rz9.2.1,i6 p1.E,i6 p1.Pos].toArray 125 (0,0))] u
 refine ls<|c1 o rfl call140 (Z4i_c (St.le u) (p1:=(leadlineref05_In.mk p1.L rz9.2.1 p1.E p1.Pos)) (b2:=b2) (oa3:=oa3) (cap4:=cap4) hc5 (hr6.mono hx11.sub) (St.sepOk u) (St.sepDis u) h21) ⟨rfl,rfl,trivial⟩ (fun v w a hR o=>?_)
 obtain ⟨oa22,cap23,rfl,hc24,hr25,hk⟩:=hR
 replace u:=(u.mut hk .head).unsep
 refine re<|tn<|th<|rg<|qm o rfl fun a o=>qm o rfl fun a o=>qv o (e_bldK [.slice oa15 rz9.1.length cap16,i6 p7] [.slice oa15 rz9.1.length cap16,i6 p7] o ⟨rfl,rfl,trivial⟩ (fun w=>by kernel_rfl)) fun a o=>ls<|s_blkA o u sizeOf74 rfl rfl rfl rfl (one_cells rfl) (.tail .head) fun w u=>re<|tn<|wr<|?_
 obtain rfl:=si hm
 exact r1c (vs:=[.slice oa15 rz9.1.length cap16,i6 p7]) (.inl rfl) o results106 rfl isAgg74 sizeOf74 rfl ((St.ld u).cellsB t1) ⟨H14,_,oa22,cap23,rfl,(show Enc.rep (α:=api_Claim) H14 [.slice oa15 rz9.1.length cap16,i6 p7] (api_Claim.mk rz9.1 p7) from ⟨_,_,rfl,⟨_,_,rfl,hc17,hr18⟩,rfl⟩),hc24,hr25,hx11,(St.le u),(St.disL (u.pickL (.cons .head .nil))),(u.pickL (.cons .head .nil)).endMut⟩
end Go.LM.LB
