/- Walks, lifted by program. No condition beyond the theorems' own premises. -/
import Derived.Test.YtbblmeecfimnkaaGreatDoorBMQ7
namespace Go.LM.BINZ
open Go Go.LL Go.MD Go.LM Go.Proofs Go.MD.BINZ
set_option maxRecDepth 100000
set_option maxHeartbeats 4000000 in
set_option maxRecDepth 100000 in
theorem Z1l_c {N:Nat} {w0:World} {H:PH} (hH:H.le w0) (hT:Tab H)  {r:Bool} (hm:Z1l N  = some r):Tot Tryz.prog 13 #[] w0 (fun v w'=>v=.bool r∧Keep Nil w0 w'):=by
  unfold Z1l at hm
  refine fn0 (args:=[]) (F:=[]) Tryz.func13 rfl Tryz.ntmps13 rfl rfl fun a hF=>?_
  have hS:St w0 Nil [H] [] w0:=start1 hH
  refine th<|?_
  refine rg<|?_
  refine ls<|q1 hF rfl (e_asg hF rfl) fun a hF=>?_
  refine re<|?_
  refine tn<|th<|?_
  refine rg<|?_
  refine ls<|q1 hF rfl (e_bldK [.int .i64 1,.int .i64 1] [.int .i64 1,.int .i64 1] hF ⟨rfl,rfl,trivial⟩ (fun w=>by kernel_rfl)) fun a hF=>?_
  refine ls<|q1 hF rfl (e_bldK [.int .i64 1,.int .i64 2] [.int .i64 1,.int .i64 2] hF ⟨rfl,rfl,trivial⟩ (fun w=>by kernel_rfl)) fun a hF=>?_
  refine ls<|q1 hF rfl (e_bldK [.int .i64 5] [.int .i64 5,.int .i64 0] hF ⟨rfl,trivial⟩ (fun w=>by kernel_rfl)) fun a hF=>?_
  refine ls<|a_bsl (e:=83) (sz:=2) [.int .i64 1,.int .i64 1,.int .i64 1,.int .i64 2,.int .i64 5,.int .i64 0] hF rfl hS rfl rfl rfl (fun w=>by kernel_rfl) fun b2 w a hS hF=>?_
  have hv1:Rows (α:=api_Op) H [.int .i64 1,.int .i64 1,.int .i64 1,.int .i64 2,.int .i64 5,.int .i64 0] ([(api_Op.mk 1 1),(api_Op.mk 1 2),(api_Op.mk 5 0)]:List api_Op):=(.cons (c:=[.int .i64 1,.int .i64 1]) ⟨_,_,rfl,rfl,rfl⟩ (.cons (c:=[.int .i64 1,.int .i64 2]) ⟨_,_,rfl,rfl,rfl⟩ (.cons (c:=[.int .i64 5,.int .i64 0]) ⟨_,_,rfl,rfl,rfl⟩ .nil)))
  refine ls<|q1 hF rfl (e_bldK [.int .i64 1,.slice (some ⟨b2,0,none⟩) ([(api_Op.mk 1 1),(api_Op.mk 1 2),(api_Op.mk 5 0)]:List api_Op).length 3] [.int .i64 1,.int .i64 0,.int .i64 0,.slice (some ⟨b2,0,none⟩) ([(api_Op.mk 1 1),(api_Op.mk 1 2),(api_Op.mk 5 0)]:List api_Op).length 3,.slice none 0 0,.int .i64 0] hF ⟨rfl,rfl,trivial⟩ (fun w=>by kernel_rfl)) fun a hF=>?_
  obtain ⟨H7,hx4,hr5,hc6,hS⟩:=St.frzS hS .head hv1
  refine ls<|a_bsl (e:=85) (sz:=6) [.int .i64 1,.int .i64 0,.int .i64 0,.slice (some ⟨b2,0,none⟩) ([(api_Op.mk 1 1),(api_Op.mk 1 2),(api_Op.mk 5 0)]:List api_Op).length 3,.slice none 0 0,.int .i64 0] hF rfl hS rfl rfl rfl (fun w=>by kernel_rfl) fun b9 w a hS hF=>?_
  have hv8:Rows (α:=api_Instr) H7 [.int .i64 1,.int .i64 0,.int .i64 0,.slice (some ⟨b2,0,none⟩) ([(api_Op.mk 1 1),(api_Op.mk 1 2),(api_Op.mk 5 0)]:List api_Op).length 3,.slice none 0 0,.int .i64 0] ([(api_Instr.mk 1 0 0 ([(api_Op.mk 1 1),(api_Op.mk 1 2),(api_Op.mk 5 0)]:List api_Op) [] 0)]:List api_Instr):=(.cons (c:=[.int .i64 1,.int .i64 0,.int .i64 0,.slice (some ⟨b2,0,none⟩) ([(api_Op.mk 1 1),(api_Op.mk 1 2),(api_Op.mk 5 0)]:List api_Op).length 3,.slice none 0 0,.int .i64 0]) ⟨_,_,rfl,rfl,⟨_,_,rfl,rfl,⟨_,_,rfl,rfl,⟨_,_,rfl,⟨_,_,rfl,hc6,hr5⟩,⟨_,_,rfl,⟨none,0,rfl,Nat.le_refl _,SR.nil _ _⟩,rfl⟩⟩⟩⟩⟩ .nil)
  refine ls<|q1 hF rfl (e_bldK [.int .i64 1,.slice (some ⟨b9,0,none⟩) ([(api_Instr.mk 1 0 0 ([(api_Op.mk 1 1),(api_Op.mk 1 2),(api_Op.mk 5 0)]:List api_Op) [] 0)]:List api_Instr).length 1] [.int .i64 1,.int .i64 0,.slice (some ⟨b9,0,none⟩) ([(api_Instr.mk 1 0 0 ([(api_Op.mk 1 1),(api_Op.mk 1 2),(api_Op.mk 5 0)]:List api_Op) [] 0)]:List api_Instr).length 1] hF ⟨rfl,rfl,trivial⟩ (fun w=>by kernel_rfl)) fun a hF=>?_
  obtain ⟨H14,hx11,hr12,hc13,hS⟩:=St.frzS hS .head hv8
  refine ls<|a_bsl (e:=26) (sz:=3) [.int .i64 1,.int .i64 0,.slice (some ⟨b9,0,none⟩) ([(api_Instr.mk 1 0 0 ([(api_Op.mk 1 1),(api_Op.mk 1 2),(api_Op.mk 5 0)]:List api_Op) [] 0)]:List api_Instr).length 1] hF rfl hS rfl rfl rfl (fun w=>by kernel_rfl) fun b16 w a hS hF=>?_
  have hv15:Rows (α:=api_Code) H14 [.int .i64 1,.int .i64 0,.slice (some ⟨b9,0,none⟩) ([(api_Instr.mk 1 0 0 ([(api_Op.mk 1 1),(api_Op.mk 1 2),(api_Op.mk 5 0)]:List api_Op) [] 0)]:List api_Instr).length 1] ([(api_Code.mk 1 0 ([(api_Instr.mk 1 0 0 ([(api_Op.mk 1 1),(api_Op.mk 1 2),(api_Op.mk 5 0)]:List api_Op) [] 0)]:List api_Instr))]:List api_Code):=(.cons (c:=[.int .i64 1,.int .i64 0,.slice (some ⟨b9,0,none⟩) ([(api_Instr.mk 1 0 0 ([(api_Op.mk 1 1),(api_Op.mk 1 2),(api_Op.mk 5 0)]:List api_Op) [] 0)]:List api_Instr).length 1]) ⟨_,_,rfl,rfl,⟨_,_,rfl,rfl,⟨_,_,rfl,hc13,hr12⟩⟩⟩ .nil)
  refine ls<|q1 hF rfl (e_bldK [.slice (some ⟨b16,0,none⟩) ([(api_Code.mk 1 0 ([(api_Instr.mk 1 0 0 ([(api_Op.mk 1 1),(api_Op.mk 1 2),(api_Op.mk 5 0)]:List api_Op) [] 0)]:List api_Instr))]:List api_Code).length 1] [.slice none 0 0,.int .i64 0,.slice none 0 0,.int .i64 0,.slice (some ⟨b16,0,none⟩) ([(api_Code.mk 1 0 ([(api_Instr.mk 1 0 0 ([(api_Op.mk 1 1),(api_Op.mk 1 2),(api_Op.mk 5 0)]:List api_Op) [] 0)]:List api_Instr))]:List api_Code).length 1,.int .i64 0,.int .i64 0,.slice none 0 0,.slice none 0 0] hF ⟨rfl,trivial⟩ (fun w=>by kernel_rfl)) fun a hF=>?_
  refine ls<|a_alloc (cs:=[.slice none 0 0,.int .i64 0,.slice none 0 0,.int .i64 0,.slice none 0 0,.int .i64 0,.int .i64 0,.slice none 0 0,.slice none 0 0].toArray) hF rfl hS Tryz.zeroValue29 rfl fun b18 w a hS hF=>?_
  refine ls<|s_blkA hF hS Tryz.sizeOf29 rfl rfl rfl rfl (one_cells rfl) .head fun w hS=>?_
  refine re<|?_
  refine tn<|th<|?_
  replace hm:=bind_some hm
  obtain ⟨r23,h24,hm⟩:=hm
  refine rg<|?_
  refine ls<|q1 hF rfl (e_ldA hF Tryz.isAgg29 Tryz.sizeOf29 rfl rfl ((St.ld hS).cellsB (.head _))) fun a hF=>?_
  obtain ⟨H22,hx19,hr20,hc21,hS⟩:=St.frzS hS (.tail .head) hv15
  refine ls<|c1 hF rfl Tryz.call8 (Z2_c (hp_le _) (Enc.mono (St.up hS) (show Enc.rep (α:=api_Unit) H22 [.slice none 0 0,.int .i64 0,.slice none 0 0,.int .i64 0,.slice (some ⟨b16,0,none⟩) ([(api_Code.mk 1 0 ([(api_Instr.mk 1 0 0 ([(api_Op.mk 1 1),(api_Op.mk 1 2),(api_Op.mk 5 0)]:List api_Op) [] 0)]:List api_Instr))]:List api_Code).length 1,.int .i64 0,.int .i64 0,.slice none 0 0,.slice none 0 0] (api_Unit.mk [] 0 [] 0 ([(api_Code.mk 1 0 ([(api_Instr.mk 1 0 0 ([(api_Op.mk 1 1),(api_Op.mk 1 2),(api_Op.mk 5 0)]:List api_Op) [] 0)]:List api_Instr))]:List api_Code) (api_Code.mk 0 0 []) []) from ⟨_,_,rfl,⟨none,0,rfl,Nat.le_refl _,SR.nil _ _⟩,⟨_,_,rfl,rfl,⟨_,_,rfl,⟨none,0,rfl,Nat.le_refl _,SR.nil _ _⟩,⟨_,_,rfl,rfl,⟨_,_,rfl,⟨_,_,rfl,hc21,hr20⟩,⟨_,_,rfl,⟨_,_,rfl,rfl,⟨_,_,rfl,rfl,⟨none,0,rfl,Nat.le_refl _,SR.nil _ _⟩⟩⟩,⟨none,0,rfl,Nat.le_refl _,SR.nil _ _⟩⟩⟩⟩⟩⟩⟩)) h24) ⟨rfl,trivial⟩ (fun v w a hR hF=>?_)
  obtain ⟨rfl,hk⟩:=hR
  replace hS:=hS.pass hk
  clear hk
  refine ls<|q1 hF rfl (e_move hF rfl) fun a hF=>?_
  refine ls<|q1 hF rfl (e_ext hF rfl rfl) fun a hF=>?_
  refine ls<|q1 hF rfl (e_ext hF rfl rfl) fun a hF=>?_
  refine ls<|q1 hF rfl (e_asg hF rfl) fun a hF=>?_
  refine ls<|q1 hF rfl (e_asg hF rfl) fun a hF=>?_
  refine re<|?_
  refine tn<|th<|?_
  replace hm:=bind_some hm
  obtain ⟨r25,h26,hm⟩:=hm
  refine rg<|?_
  refine ls<|q1 hF rfl (e_move hF rfl) fun a hF=>?_
  refine ls<|c1 hF rfl Tryz.call10 (Z0_c (St.le hS) h26) ⟨rfl,trivial⟩ (fun v w a hR hF=>?_)
  obtain ⟨H30,cs31,rfl,g32,hx27,hl28,hk⟩:=hR
  obtain ⟨hS,hx27⟩:=And.intro (St.passH hS hk hx27 hl28) (St.extc hS hx27)
  clear hk
  have g33:Enc.rep (α:=(List Int)×Int×(List Int)×Int×(List api_Code)×api_Code×(List (List api_Op))) H30 cs31 (r25.1.Lines,r25.1.Stays,r25.1.Firsts,r25.1.Locks,r25.1.Threads,r25.1.Recover,r25.1.Claims):=g32
  obtain ⟨q34,q35,rfl,g36,g37⟩:=g33
  obtain ⟨oa38,cap39,rfl,hc40,hr41⟩:=g36
  obtain ⟨q42,q43,rfl,g44,g45⟩:=g37
  obtain rfl:q42=[.int .i64 r25.1.Stays]:=g44
  obtain ⟨q46,q47,rfl,g48,g49⟩:=g45
  obtain ⟨oa50,cap51,rfl,hc52,hr53⟩:=g48
  obtain ⟨q54,q55,rfl,g56,g57⟩:=g49
  obtain rfl:q54=[.int .i64 r25.1.Locks]:=g56
  obtain ⟨q58,q59,rfl,g60,g61⟩:=g57
  obtain ⟨oa62,cap63,rfl,hc64,hr65⟩:=g60
  obtain ⟨q66,q67,rfl,g68,g69⟩:=g61
  obtain ⟨oa70,cap71,rfl,hc72,hr73⟩:=api_Code_open g68
  obtain ⟨oa74,cap75,rfl,hc76,hr77⟩:=g69
  refine ls<|q1 hF rfl (e_move hF rfl) fun a hF=>?_
  refine ls<|q1 hF rfl (e_ext hF rfl rfl) fun a hF=>?_
  refine ls<|q1 hF rfl (e_ext hF rfl rfl) fun a hF=>?_
  refine ls<|a_alloc (cs:=[.slice none 0 0,.int .i64 0,.slice none 0 0,.int .i64 0,.slice none 0 0,.int .i64 0,.int .i64 0,.slice none 0 0,.slice none 0 0].toArray) hF rfl hS Tryz.zeroValue29 rfl fun b78 w a hS hF=>?_
  refine ls<|s_blkA hF hS Tryz.sizeOf29 rfl rfl rfl rfl (one_cells rfl) .head fun w hS=>?_
  refine ls<|q1 hF rfl (e_asg hF rfl) fun a hF=>?_
  refine re<|?_
  refine tn<|th<|?_
  replace hm:=bind_some hm
  obtain ⟨s79,h80,hm⟩:=hm
  replace hm:=bind_some hm
  obtain ⟨r81,h82,hm⟩:=hm
  refine rg<|?_
  refine ls<|q1 hF rfl (e_move hF rfl) fun a hF=>?_
  refine ls<|q1 hF rfl (e_catU hF rfl rfl h80) fun a hF=>?_
  refine ls<|c1 hF rfl Tryz.call10 (Z0_c (St.le hS) h82) ⟨rfl,trivial⟩ (fun v w a hR hF=>?_)
  obtain ⟨H86,cs87,rfl,g88,hx83,hl84,hk⟩:=hR
  obtain ⟨hS,hx83⟩:=And.intro (St.passH hS hk hx83 hl84) (St.extc hS hx83)
  clear hk
  have g89:Enc.rep (α:=(List Int)×Int×(List Int)×Int×(List api_Code)×api_Code×(List (List api_Op))) H86 cs87 (r81.1.Lines,r81.1.Stays,r81.1.Firsts,r81.1.Locks,r81.1.Threads,r81.1.Recover,r81.1.Claims):=g88
  obtain ⟨q90,q91,rfl,g92,g93⟩:=g89
  obtain ⟨oa94,cap95,rfl,hc96,hr97⟩:=g92
  obtain ⟨q98,q99,rfl,g100,g101⟩:=g93
  obtain rfl:q98=[.int .i64 r81.1.Stays]:=g100
  obtain ⟨q102,q103,rfl,g104,g105⟩:=g101
  obtain ⟨oa106,cap107,rfl,hc108,hr109⟩:=g104
  obtain ⟨q110,q111,rfl,g112,g113⟩:=g105
  obtain rfl:q110=[.int .i64 r81.1.Locks]:=g112
  obtain ⟨q114,q115,rfl,g116,g117⟩:=g113
  obtain ⟨oa118,cap119,rfl,hc120,hr121⟩:=g116
  obtain ⟨q122,q123,rfl,g124,g125⟩:=g117
  obtain ⟨oa126,cap127,rfl,hc128,hr129⟩:=api_Code_open g124
  obtain ⟨oa130,cap131,rfl,hc132,hr133⟩:=g125
  refine ls<|q1 hF rfl (e_move hF rfl) fun a hF=>?_
  refine ls<|q1 hF rfl (e_ext hF rfl rfl) fun a hF=>?_
  refine ls<|q1 hF rfl (e_ext hF rfl rfl) fun a hF=>?_
  refine ls<|a_alloc (cs:=[.slice none 0 0,.int .i64 0,.slice none 0 0,.int .i64 0,.slice none 0 0,.int .i64 0,.int .i64 0,.slice none 0 0,.slice none 0 0].toArray) hF rfl hS Tryz.zeroValue29 rfl fun b134 w a hS hF=>?_
  refine ls<|s_blkA hF hS Tryz.sizeOf29 rfl rfl rfl rfl (one_cells rfl) .head fun w hS=>?_
  refine ls<|q1 hF rfl (e_asg hF rfl) fun a hF=>?_
  refine re<|?_
  refine tn<|th<|?_
  replace hm:=bind_some hm
  obtain ⟨r135,h136,hm⟩:=hm
  refine rg<|?_
  refine ls<|q1 hF rfl (e_bldK [] [.slice none 0 0,.int .i64 0,.slice none 0 0,.int .i64 0,.slice none 0 0,.int .i64 0,.int .i64 0,.slice none 0 0,.slice none 0 0] hF trivial (fun w=>by kernel_rfl)) fun a hF=>?_
  refine ls<|c1 hF rfl Tryz.call8 (Z2_c (hp_le _) (Enc.mono (St.up hS) (show Enc.rep (α:=api_Unit) H86 [.slice none 0 0,.int .i64 0,.slice none 0 0,.int .i64 0,.slice none 0 0,.int .i64 0,.int .i64 0,.slice none 0 0,.slice none 0 0] (api_Unit.mk [] 0 [] 0 [] (api_Code.mk 0 0 []) []) from ⟨_,_,rfl,⟨none,0,rfl,Nat.le_refl _,SR.nil _ _⟩,⟨_,_,rfl,rfl,⟨_,_,rfl,⟨none,0,rfl,Nat.le_refl _,SR.nil _ _⟩,⟨_,_,rfl,rfl,⟨_,_,rfl,⟨none,0,rfl,Nat.le_refl _,SR.nil _ _⟩,⟨_,_,rfl,⟨_,_,rfl,rfl,⟨_,_,rfl,rfl,⟨none,0,rfl,Nat.le_refl _,SR.nil _ _⟩⟩⟩,⟨none,0,rfl,Nat.le_refl _,SR.nil _ _⟩⟩⟩⟩⟩⟩⟩)) h136) ⟨rfl,trivial⟩ (fun v w a hR hF=>?_)
  obtain ⟨rfl,hk⟩:=hR
  replace hS:=hS.pass hk
  clear hk
  refine ls<|q1 hF rfl (e_move hF rfl) fun a hF=>?_
  refine ls<|q1 hF rfl (e_ext hF rfl rfl) fun a hF=>?_
  refine ls<|q1 hF rfl (e_ext hF rfl rfl) fun a hF=>?_
  refine ls<|q1 hF rfl (e_asg hF rfl) fun a hF=>?_
  refine ls<|q1 hF rfl (e_asg hF rfl) fun a hF=>?_
  refine re<|?_
  refine tn<|th<|?_
  replace hm:=bind_some hm
  obtain ⟨r137,h138,hm⟩:=hm
  refine rg<|?_
  refine ls<|c1 hF rfl Tryz.call42 (Z7_c (hp_le _) h138) ⟨rfl,rfl,trivial⟩ (fun v w a hR hF=>?_)
  obtain ⟨rfl,hk⟩:=hR
  replace hS:=hS.pass hk
  clear hk
  refine ls<|q1 hF rfl (e_move hF rfl) fun a hF=>?_
  refine ls<|q1 hF rfl (e_ext hF rfl rfl) fun a hF=>?_
  refine ls<|q1 hF rfl (e_ext hF rfl rfl) fun a hF=>?_
  refine ls<|q1 hF rfl (e_ext hF rfl rfl) fun a hF=>?_
  refine ls<|q1 hF rfl (e_asg hF rfl) fun a hF=>?_
  refine ls<|q1 hF rfl (e_asg hF rfl) fun a hF=>?_
  refine ls<|q1 hF rfl (e_asg hF rfl) fun a hF=>?_
  refine re<|?_
  refine tn<|th<|?_
  replace hm:=bind_some hm
  obtain ⟨r139,h140,hm⟩:=hm
  refine rg<|?_
  refine ls<|c1 hF rfl Tryz.call42 (Z7_c (hp_le _) h140) ⟨rfl,rfl,trivial⟩ (fun v w a hR hF=>?_)
  obtain ⟨rfl,hk⟩:=hR
  replace hS:=hS.pass hk
  clear hk
  refine ls<|q1 hF rfl (e_move hF rfl) fun a hF=>?_
  refine ls<|q1 hF rfl (e_ext hF rfl rfl) fun a hF=>?_
  refine ls<|q1 hF rfl (e_ext hF rfl rfl) fun a hF=>?_
  refine ls<|q1 hF rfl (e_ext hF rfl rfl) fun a hF=>?_
  refine ls<|q1 hF rfl (e_asg hF rfl) fun a hF=>?_
  refine ls<|q1 hF rfl (e_asg hF rfl) fun a hF=>?_
  refine ls<|q1 hF rfl (e_asg hF rfl) fun a hF=>?_
  refine re<|?_
  refine tn<|th<|?_
  replace hm:=bind_some hm
  obtain ⟨r141,h142,hm⟩:=hm
  refine rg<|?_
  refine ls<|c1 hF rfl Tryz.call42 (Z7_c (hp_le _) h142) ⟨rfl,rfl,trivial⟩ (fun v w a hR hF=>?_)
  obtain ⟨rfl,hk⟩:=hR
  replace hS:=hS.pass hk
  clear hk
  refine ls<|q1 hF rfl (e_move hF rfl) fun a hF=>?_
  refine ls<|q1 hF rfl (e_ext hF rfl rfl) fun a hF=>?_
  refine ls<|q1 hF rfl (e_ext hF rfl rfl) fun a hF=>?_
  refine ls<|q1 hF rfl (e_ext hF rfl rfl) fun a hF=>?_
  refine ls<|q1 hF rfl (e_asg hF rfl) fun a hF=>?_
  refine ls<|q1 hF rfl (e_asg hF rfl) fun a hF=>?_
  refine ls<|q1 hF rfl (e_asg hF rfl) fun a hF=>?_
  refine re<|?_
  refine tn<|th<|?_
  replace hm:=bind_some hm
  obtain ⟨r143,h144,hm⟩:=hm
  refine rg<|?_
  refine ls<|c1 hF rfl Tryz.call42 (Z7_c (hp_le _) h144) ⟨rfl,rfl,trivial⟩ (fun v w a hR hF=>?_)
  obtain ⟨rfl,hk⟩:=hR
  replace hS:=hS.pass hk
  clear hk
  refine ls<|q1 hF rfl (e_move hF rfl) fun a hF=>?_
  refine ls<|q1 hF rfl (e_ext hF rfl rfl) fun a hF=>?_
  refine ls<|q1 hF rfl (e_ext hF rfl rfl) fun a hF=>?_
  refine ls<|q1 hF rfl (e_ext hF rfl rfl) fun a hF=>?_
  refine ls<|q1 hF rfl (e_asg hF rfl) fun a hF=>?_
  refine ls<|q1 hF rfl (e_asg hF rfl) fun a hF=>?_
  refine ls<|q1 hF rfl (e_asg hF rfl) fun a hF=>?_
  refine re<|?_
  refine tn<|th<|?_
  replace hm:=bind_some hm
  obtain ⟨r145,h146,hm⟩:=hm
  refine rg<|?_
  refine ls<|c1 hF rfl Tryz.call42 (Z7_c (hp_le _) h146) ⟨rfl,rfl,trivial⟩ (fun v w a hR hF=>?_)
  obtain ⟨rfl,hk⟩:=hR
  replace hS:=hS.pass hk
  clear hk
  refine ls<|q1 hF rfl (e_move hF rfl) fun a hF=>?_
  refine ls<|q1 hF rfl (e_ext hF rfl rfl) fun a hF=>?_
  refine ls<|q1 hF rfl (e_ext hF rfl rfl) fun a hF=>?_
  refine ls<|q1 hF rfl (e_ext hF rfl rfl) fun a hF=>?_
  refine ls<|q1 hF rfl (e_asg hF rfl) fun a hF=>?_
  refine ls<|q1 hF rfl (e_asg hF rfl) fun a hF=>?_
  refine ls<|q1 hF rfl (e_asg hF rfl) fun a hF=>?_
  refine re<|?_
  refine tn<|th<|?_
  replace hm:=bind_some hm
  obtain ⟨r147,h148,hm⟩:=hm
  refine rg<|?_
  refine ls<|q1 hF rfl (e_ldA hF Tryz.isAgg29 Tryz.sizeOf29 rfl rfl ((St.ld hS).cellsB (.tail _ (.tail _ (.head _))))) fun a hF=>?_
  refine ls<|c1 hF rfl Tryz.call9 (Z39_c (hp_le _) (Enc.mono (St.up hS) (show Enc.rep (α:=api_Unit) H86 [.slice none 0 0,.int .i64 0,.slice none 0 0,.int .i64 0,.slice (some ⟨b16,0,none⟩) ([(api_Code.mk 1 0 ([(api_Instr.mk 1 0 0 ([(api_Op.mk 1 1),(api_Op.mk 1 2),(api_Op.mk 5 0)]:List api_Op) [] 0)]:List api_Instr))]:List api_Code).length 1,.int .i64 0,.int .i64 0,.slice none 0 0,.slice none 0 0] (api_Unit.mk [] 0 [] 0 ([(api_Code.mk 1 0 ([(api_Instr.mk 1 0 0 ([(api_Op.mk 1 1),(api_Op.mk 1 2),(api_Op.mk 5 0)]:List api_Op) [] 0)]:List api_Instr))]:List api_Code) (api_Code.mk 0 0 []) []) from ⟨_,_,rfl,⟨none,0,rfl,Nat.le_refl _,SR.nil _ _⟩,⟨_,_,rfl,rfl,⟨_,_,rfl,⟨none,0,rfl,Nat.le_refl _,SR.nil _ _⟩,⟨_,_,rfl,rfl,⟨_,_,rfl,⟨_,_,rfl,hc21,(hr20.mono (fun b o h=>hx83.sub b o (hx27.sub b o h)))⟩,⟨_,_,rfl,⟨_,_,rfl,rfl,⟨_,_,rfl,rfl,⟨none,0,rfl,Nat.le_refl _,SR.nil _ _⟩⟩⟩,⟨none,0,rfl,Nat.le_refl _,SR.nil _ _⟩⟩⟩⟩⟩⟩⟩)) h148) ⟨rfl,trivial⟩ (fun v w a hR hF=>?_)
  obtain ⟨rfl,hk⟩:=hR
  replace hS:=hS.pass hk
  clear hk
  refine ls<|q1 hF rfl (e_move hF rfl) fun a hF=>?_
  refine ls<|q1 hF rfl (e_ext hF rfl rfl) fun a hF=>?_
  refine ls<|q1 hF rfl (e_ext hF rfl rfl) fun a hF=>?_
  refine ls<|q1 hF rfl (e_asg hF rfl) fun a hF=>?_
  refine ls<|q1 hF rfl (e_asg hF rfl) fun a hF=>?_
  refine re<|?_
  refine tn<|th<|?_
  replace hm:=bind_some hm
  obtain ⟨_,hb149,hm⟩:=hm
  replace hb149:=sure_some hb149
  replace hm:=bind_some hm
  obtain ⟨r150,h151,hm⟩:=hm
  replace hm:=bind_some hm
  obtain ⟨_,hb152,hm⟩:=hm
  replace hb152:=sure_some hb152
  replace hm:=bind_some hm
  obtain ⟨r153,h154,hm⟩:=hm
  replace hm:=bind_some hm
  obtain ⟨_,hb155,hm⟩:=hm
  replace hb155:=sure_some hb155
  replace hm:=bind_some hm
  obtain ⟨r156,h157,hm⟩:=hm
  replace hm:=bind_some hm
  obtain ⟨_,hb158,hm⟩:=hm
  replace hb158:=sure_some hb158
  replace hm:=bind_some hm
  obtain ⟨r159,h160,hm⟩:=hm
  replace hm:=bind_some hm
  obtain ⟨_,hb161,hm⟩:=hm
  replace hb161:=sure_some hb161
  replace hm:=bind_some hm
  obtain ⟨x162,h163,hm⟩:=hm
  obtain ⟨c164,g165,hl166⟩:=SR.get hr20 h163
  obtain ⟨oa167,cap168,rfl,hc169,hr170⟩:=api_Code_open g165
  replace hm:=bind_some hm
  obtain ⟨r171,h172,hm⟩:=hm
  refine rg<|?_
  refine ls<|q1 hF rfl (e_move hF rfl) fun a hF=>?_
  refine ls<|q1 hF rfl (e_eql hF rfl rfl) fun a hF=>?_
  refine ls<|q1 hF rfl (e_move hF rfl) fun a hF=>?_
  refine grp (N:=163) (Fk:=[(1,.pointer (some ⟨b18,0,none⟩)),(4,.pointer (some ⟨b78,0,none⟩)),(5,.int .i64 r25.2),(7,.int .i64 r81.2),(9,.int .i64 r135.2),(10,.int .i64 r137.1),(11,.int .i64 r137.2.1),(12,.int .i64 r137.2.2),(15,.int .i64 r139.2.2),(18,.int .i64 r141.2.2),(21,.int .i64 r143.2.2),(24,.int .i64 r145.2.2),(26,.int .i64 r147.2),(93,.bool ((decide (r23.2=0)) && (decide (r23.1=r147.1))))]) (b:=(decide (r23.2=0))) 4 hS ?_ ?_ ?_
  ·
    intro hb key
    replace hF:=Fr.as hF (t:=89) rfl (congrArg Value.bool hb)
    refine ls<|gy hF rfl rfl<|q1 hF rfl (e_move hF rfl) fun a hF=>?_
    refine ls<|gy hF rfl rfl<|q1 hF rfl (e_move hF rfl) fun a hF=>?_
    refine ls<|gy hF rfl rfl<|q1 hF rfl (e_eqlU (m:=r23.1) (n:=r147.1) hF rfl rfl) fun a hF=>?_
    refine ls<|q1 hF rfl (e_as (v':=.bool ((decide (r23.2=0)) && (decide (r23.1=r147.1)))) (e_pickT hF rfl rfl) (by rw [hb];rfl)) fun a hF=>?_
    exact key _ _ (hF.has ⟨rfl,rfl,rfl,rfl,rfl,rfl,rfl,rfl,rfl,rfl,rfl,rfl,rfl,rfl,trivial⟩) hS
  ·
    intro hb key
    replace hF:=Fr.as hF (t:=89) rfl (congrArg Value.bool hb)
    refine ls<|gn hF rfl rfl rfl rfl fun a hF=>?_
    refine ls<|gn hF rfl rfl rfl rfl fun a hF=>?_
    refine ls<|gn hF rfl rfl rfl rfl fun a hF=>?_
    refine ls<|q1 hF rfl (e_as (v':=.bool ((decide (r23.2=0)) && (decide (r23.1=r147.1)))) (e_pickF hF rfl rfl) (by rw [hb];rfl)) fun a hF=>?_
    exact key _ _ (hF.has ⟨rfl,rfl,rfl,rfl,rfl,rfl,rfl,rfl,rfl,rfl,rfl,rfl,rfl,rfl,trivial⟩) hS
  intro a w hF hS
  refine ls<|q1 hF rfl (e_move hF rfl) fun a hF=>?_
  refine grp (N:=163) (Fk:=[(1,.pointer (some ⟨b18,0,none⟩)),(4,.pointer (some ⟨b78,0,none⟩)),(5,.int .i64 r25.2),(7,.int .i64 r81.2),(9,.int .i64 r135.2),(10,.int .i64 r137.1),(11,.int .i64 r137.2.1),(12,.int .i64 r137.2.2),(15,.int .i64 r139.2.2),(18,.int .i64 r141.2.2),(21,.int .i64 r143.2.2),(24,.int .i64 r145.2.2),(97,.bool (((decide (r23.2=0)) && (decide (r23.1=r147.1))) && (decide (r147.2=0))))]) (b:=((decide (r23.2=0)) && (decide (r23.1=r147.1)))) 3 hS ?_ ?_ ?_
  ·
    intro hb key
    replace hF:=Fr.as hF (t:=94) rfl (congrArg Value.bool hb)
    refine ls<|gy hF rfl rfl<|q1 hF rfl (e_move hF rfl) fun a hF=>?_
    refine ls<|gy hF rfl rfl<|q1 hF rfl (e_eql hF rfl rfl) fun a hF=>?_
    refine ls<|q1 hF rfl (e_as (v':=.bool (((decide (r23.2=0)) && (decide (r23.1=r147.1))) && (decide (r147.2=0)))) (e_pickT hF rfl rfl) (by rw [hb];rfl)) fun a hF=>?_
    exact key _ _ (hF.has ⟨rfl,rfl,rfl,rfl,rfl,rfl,rfl,rfl,rfl,rfl,rfl,rfl,rfl,trivial⟩) hS
  ·
    intro hb key
    replace hF:=Fr.as hF (t:=94) rfl (congrArg Value.bool hb)
    refine ls<|gn hF rfl rfl rfl rfl fun a hF=>?_
    refine ls<|gn hF rfl rfl rfl rfl fun a hF=>?_
    refine ls<|q1 hF rfl (e_as (v':=.bool (((decide (r23.2=0)) && (decide (r23.1=r147.1))) && (decide (r147.2=0)))) (e_pickF hF rfl rfl) (by rw [hb];rfl)) fun a hF=>?_
    exact key _ _ (hF.has ⟨rfl,rfl,rfl,rfl,rfl,rfl,rfl,rfl,rfl,rfl,rfl,rfl,rfl,trivial⟩) hS
  intro a w hF hS
  refine ls<|q1 hF rfl (e_move hF rfl) fun a hF=>?_
  refine grp (N:=163) (Fk:=[(1,.pointer (some ⟨b18,0,none⟩)),(4,.pointer (some ⟨b78,0,none⟩)),(7,.int .i64 r81.2),(9,.int .i64 r135.2),(10,.int .i64 r137.1),(11,.int .i64 r137.2.1),(12,.int .i64 r137.2.2),(15,.int .i64 r139.2.2),(18,.int .i64 r141.2.2),(21,.int .i64 r143.2.2),(24,.int .i64 r145.2.2),(101,.bool ((((decide (r23.2=0)) && (decide (r23.1=r147.1))) && (decide (r147.2=0))) && (decide (r25.2=0))))]) (b:=(((decide (r23.2=0)) && (decide (r23.1=r147.1))) && (decide (r147.2=0)))) 3 hS ?_ ?_ ?_
  ·
    intro hb key
    replace hF:=Fr.as hF (t:=98) rfl (congrArg Value.bool hb)
    refine ls<|gy hF rfl rfl<|q1 hF rfl (e_move hF rfl) fun a hF=>?_
    refine ls<|gy hF rfl rfl<|q1 hF rfl (e_eql hF rfl rfl) fun a hF=>?_
    refine ls<|q1 hF rfl (e_as (v':=.bool ((((decide (r23.2=0)) && (decide (r23.1=r147.1))) && (decide (r147.2=0))) && (decide (r25.2=0)))) (e_pickT hF rfl rfl) (by rw [hb];rfl)) fun a hF=>?_
    exact key _ _ (hF.has ⟨rfl,rfl,rfl,rfl,rfl,rfl,rfl,rfl,rfl,rfl,rfl,rfl,trivial⟩) hS
  ·
    intro hb key
    replace hF:=Fr.as hF (t:=98) rfl (congrArg Value.bool hb)
    refine ls<|gn hF rfl rfl rfl rfl fun a hF=>?_
    refine ls<|gn hF rfl rfl rfl rfl fun a hF=>?_
    refine ls<|q1 hF rfl (e_as (v':=.bool ((((decide (r23.2=0)) && (decide (r23.1=r147.1))) && (decide (r147.2=0))) && (decide (r25.2=0)))) (e_pickF hF rfl rfl) (by rw [hb];rfl)) fun a hF=>?_
    exact key _ _ (hF.has ⟨rfl,rfl,rfl,rfl,rfl,rfl,rfl,rfl,rfl,rfl,rfl,rfl,trivial⟩) hS
  intro a w hF hS
  refine ls<|q1 hF rfl (e_as (e_move hF rfl) (congrArg Value.bool hb149)) fun a hF=>?_
  refine ls<|gy hF rfl rfl<|q1 hF rfl (e_ldA hF Tryz.isAgg29 Tryz.sizeOf29 rfl rfl ((St.ld hS).cellsB (.tail _ (.tail _ (.head _))))) fun a hF=>?_
  refine ls<|gy hF rfl rfl<|q1 hF rfl (e_ldA hF Tryz.isAgg29 Tryz.sizeOf29 rfl rfl ((St.ld hS).cellsB (.tail _ (.head _)))) fun a hF=>?_
  refine ls<|gy hF rfl rfl<|c1 hF rfl Tryz.call12 (Z2k_c (hp_le _) (Enc.mono (St.up hS) (show Enc.rep (α:=api_Unit) H86 [.slice none 0 0,.int .i64 0,.slice none 0 0,.int .i64 0,.slice (some ⟨b16,0,none⟩) ([(api_Code.mk 1 0 ([(api_Instr.mk 1 0 0 ([(api_Op.mk 1 1),(api_Op.mk 1 2),(api_Op.mk 5 0)]:List api_Op) [] 0)]:List api_Instr))]:List api_Code).length 1,.int .i64 0,.int .i64 0,.slice none 0 0,.slice none 0 0] (api_Unit.mk [] 0 [] 0 ([(api_Code.mk 1 0 ([(api_Instr.mk 1 0 0 ([(api_Op.mk 1 1),(api_Op.mk 1 2),(api_Op.mk 5 0)]:List api_Op) [] 0)]:List api_Instr))]:List api_Code) (api_Code.mk 0 0 []) []) from ⟨_,_,rfl,⟨none,0,rfl,Nat.le_refl _,SR.nil _ _⟩,⟨_,_,rfl,rfl,⟨_,_,rfl,⟨none,0,rfl,Nat.le_refl _,SR.nil _ _⟩,⟨_,_,rfl,rfl,⟨_,_,rfl,⟨_,_,rfl,hc21,(hr20.mono (fun b o h=>hx83.sub b o (hx27.sub b o h)))⟩,⟨_,_,rfl,⟨_,_,rfl,rfl,⟨_,_,rfl,rfl,⟨none,0,rfl,Nat.le_refl _,SR.nil _ _⟩⟩⟩,⟨none,0,rfl,Nat.le_refl _,SR.nil _ _⟩⟩⟩⟩⟩⟩⟩)) (Enc.mono (St.up hS) (show Enc.rep (α:=api_Unit) H86 [.slice oa38 r25.1.Lines.length cap39,.int .i64 r25.1.Stays,.slice oa50 r25.1.Firsts.length cap51,.int .i64 r25.1.Locks,.slice oa62 r25.1.Threads.length cap63,.int .i64 r25.1.Recover.Regs,.int .i64 r25.1.Recover.Counts,.slice oa70 r25.1.Recover.L.length cap71,.slice oa74 r25.1.Claims.length cap75] r25.1 from ⟨_,_,rfl,⟨_,_,rfl,hc40,(hr41.mono hx83.sub)⟩,⟨_,_,rfl,rfl,⟨_,_,rfl,⟨_,_,rfl,hc52,(hr53.mono hx83.sub)⟩,⟨_,_,rfl,rfl,⟨_,_,rfl,⟨_,_,rfl,hc64,(hr65.mono hx83.sub)⟩,⟨_,_,rfl,⟨_,_,rfl,rfl,⟨_,_,rfl,rfl,⟨_,_,rfl,hc72,(hr73.mono hx83.sub)⟩⟩⟩,⟨_,_,rfl,hc76,(hr77.mono hx83.sub)⟩⟩⟩⟩⟩⟩⟩)) h151) ⟨rfl,rfl,trivial⟩ (fun v w a hR hF=>?_)
  obtain ⟨rfl,hk⟩:=hR
  replace hS:=hS.pass hk
  clear hk
  refine ls<|q1 hF rfl (e_pickT hF rfl rfl) fun a hF=>?_
  refine ls<|q1 hF rfl (e_move hF rfl) fun a hF=>?_
  refine grp (N:=163) (Fk:=[(1,.pointer (some ⟨b18,0,none⟩)),(9,.int .i64 r135.2),(10,.int .i64 r137.1),(11,.int .i64 r137.2.1),(12,.int .i64 r137.2.2),(15,.int .i64 r139.2.2),(18,.int .i64 r141.2.2),(21,.int .i64 r143.2.2),(24,.int .i64 r145.2.2),(110,.bool (r150 && (decide (r81.2=8))))]) (b:=r150) 3 hS ?_ ?_ ?_
  ·
    intro hb key
    replace hF:=Fr.as hF (t:=107) rfl (congrArg Value.bool hb)
    refine ls<|gy hF rfl rfl<|q1 hF rfl (e_move hF rfl) fun a hF=>?_
    refine ls<|gy hF rfl rfl<|q1 hF rfl (e_eql hF rfl rfl) fun a hF=>?_
    refine ls<|q1 hF rfl (e_as (v':=.bool (r150 && (decide (r81.2=8)))) (e_pickT hF rfl rfl) (by rw [hb];rfl)) fun a hF=>?_
    exact key _ _ (hF.has ⟨rfl,rfl,rfl,rfl,rfl,rfl,rfl,rfl,rfl,rfl,trivial⟩) hS
  ·
    intro hb key
    replace hF:=Fr.as hF (t:=107) rfl (congrArg Value.bool hb)
    refine ls<|gn hF rfl rfl rfl rfl fun a hF=>?_
    refine ls<|gn hF rfl rfl rfl rfl fun a hF=>?_
    refine ls<|q1 hF rfl (e_as (v':=.bool (r150 && (decide (r81.2=8)))) (e_pickF hF rfl rfl) (by rw [hb];rfl)) fun a hF=>?_
    exact key _ _ (hF.has ⟨rfl,rfl,rfl,rfl,rfl,rfl,rfl,rfl,rfl,rfl,trivial⟩) hS
  intro a w hF hS
  refine ls<|q1 hF rfl (e_move hF rfl) fun a hF=>?_
  refine grp (N:=163) (Fk:=[(1,.pointer (some ⟨b18,0,none⟩)),(10,.int .i64 r137.1),(11,.int .i64 r137.2.1),(12,.int .i64 r137.2.2),(15,.int .i64 r139.2.2),(18,.int .i64 r141.2.2),(21,.int .i64 r143.2.2),(24,.int .i64 r145.2.2),(114,.bool ((r150 && (decide (r81.2=8))) && (decide (r135.2=8))))]) (b:=(r150 && (decide (r81.2=8)))) 3 hS ?_ ?_ ?_
  ·
    intro hb key
    replace hF:=Fr.as hF (t:=111) rfl (congrArg Value.bool hb)
    refine ls<|gy hF rfl rfl<|q1 hF rfl (e_move hF rfl) fun a hF=>?_
    refine ls<|gy hF rfl rfl<|q1 hF rfl (e_eql hF rfl rfl) fun a hF=>?_
    refine ls<|q1 hF rfl (e_as (v':=.bool ((r150 && (decide (r81.2=8))) && (decide (r135.2=8)))) (e_pickT hF rfl rfl) (by rw [hb];rfl)) fun a hF=>?_
    exact key _ _ (hF.has ⟨rfl,rfl,rfl,rfl,rfl,rfl,rfl,rfl,rfl,trivial⟩) hS
  ·
    intro hb key
    replace hF:=Fr.as hF (t:=111) rfl (congrArg Value.bool hb)
    refine ls<|gn hF rfl rfl rfl rfl fun a hF=>?_
    refine ls<|gn hF rfl rfl rfl rfl fun a hF=>?_
    refine ls<|q1 hF rfl (e_as (v':=.bool ((r150 && (decide (r81.2=8))) && (decide (r135.2=8)))) (e_pickF hF rfl rfl) (by rw [hb];rfl)) fun a hF=>?_
    exact key _ _ (hF.has ⟨rfl,rfl,rfl,rfl,rfl,rfl,rfl,rfl,rfl,trivial⟩) hS
  intro a w hF hS
  refine ls<|q1 hF rfl (e_move hF rfl) fun a hF=>?_
  refine grp (N:=163) (Fk:=[(1,.pointer (some ⟨b18,0,none⟩)),(11,.int .i64 r137.2.1),(12,.int .i64 r137.2.2),(15,.int .i64 r139.2.2),(18,.int .i64 r141.2.2),(21,.int .i64 r143.2.2),(24,.int .i64 r145.2.2),(118,.bool (((r150 && (decide (r81.2=8))) && (decide (r135.2=8))) && (decide (r137.1=300))))]) (b:=((r150 && (decide (r81.2=8))) && (decide (r135.2=8)))) 3 hS ?_ ?_ ?_
  ·
    intro hb key
    replace hF:=Fr.as hF (t:=115) rfl (congrArg Value.bool hb)
    refine ls<|gy hF rfl rfl<|q1 hF rfl (e_move hF rfl) fun a hF=>?_
    refine ls<|gy hF rfl rfl<|q1 hF rfl (e_eql hF rfl rfl) fun a hF=>?_
    refine ls<|q1 hF rfl (e_as (v':=.bool (((r150 && (decide (r81.2=8))) && (decide (r135.2=8))) && (decide (r137.1=300)))) (e_pickT hF rfl rfl) (by rw [hb];rfl)) fun a hF=>?_
    exact key _ _ (hF.has ⟨rfl,rfl,rfl,rfl,rfl,rfl,rfl,rfl,trivial⟩) hS
  ·
    intro hb key
    replace hF:=Fr.as hF (t:=115) rfl (congrArg Value.bool hb)
    refine ls<|gn hF rfl rfl rfl rfl fun a hF=>?_
    refine ls<|gn hF rfl rfl rfl rfl fun a hF=>?_
    refine ls<|q1 hF rfl (e_as (v':=.bool (((r150 && (decide (r81.2=8))) && (decide (r135.2=8))) && (decide (r137.1=300)))) (e_pickF hF rfl rfl) (by rw [hb];rfl)) fun a hF=>?_
    exact key _ _ (hF.has ⟨rfl,rfl,rfl,rfl,rfl,rfl,rfl,rfl,trivial⟩) hS
  intro a w hF hS
  refine ls<|q1 hF rfl (e_move hF rfl) fun a hF=>?_
  refine grp (N:=163) (Fk:=[(1,.pointer (some ⟨b18,0,none⟩)),(12,.int .i64 r137.2.2),(15,.int .i64 r139.2.2),(18,.int .i64 r141.2.2),(21,.int .i64 r143.2.2),(24,.int .i64 r145.2.2),(122,.bool ((((r150 && (decide (r81.2=8))) && (decide (r135.2=8))) && (decide (r137.1=300))) && (decide (r137.2.1=2))))]) (b:=(((r150 && (decide (r81.2=8))) && (decide (r135.2=8))) && (decide (r137.1=300)))) 3 hS ?_ ?_ ?_
  ·
    intro hb key
    replace hF:=Fr.as hF (t:=119) rfl (congrArg Value.bool hb)
    refine ls<|gy hF rfl rfl<|q1 hF rfl (e_move hF rfl) fun a hF=>?_
    refine ls<|gy hF rfl rfl<|q1 hF rfl (e_eql hF rfl rfl) fun a hF=>?_
    refine ls<|q1 hF rfl (e_as (v':=.bool ((((r150 && (decide (r81.2=8))) && (decide (r135.2=8))) && (decide (r137.1=300))) && (decide (r137.2.1=2)))) (e_pickT hF rfl rfl) (by rw [hb];rfl)) fun a hF=>?_
    exact key _ _ (hF.has ⟨rfl,rfl,rfl,rfl,rfl,rfl,rfl,trivial⟩) hS
  ·
    intro hb key
    replace hF:=Fr.as hF (t:=119) rfl (congrArg Value.bool hb)
    refine ls<|gn hF rfl rfl rfl rfl fun a hF=>?_
    refine ls<|gn hF rfl rfl rfl rfl fun a hF=>?_
    refine ls<|q1 hF rfl (e_as (v':=.bool ((((r150 && (decide (r81.2=8))) && (decide (r135.2=8))) && (decide (r137.1=300))) && (decide (r137.2.1=2)))) (e_pickF hF rfl rfl) (by rw [hb];rfl)) fun a hF=>?_
    exact key _ _ (hF.has ⟨rfl,rfl,rfl,rfl,rfl,rfl,rfl,trivial⟩) hS
  intro a w hF hS
  refine ls<|q1 hF rfl (e_move hF rfl) fun a hF=>?_
  refine grp (N:=163) (Fk:=[(1,.pointer (some ⟨b18,0,none⟩)),(15,.int .i64 r139.2.2),(18,.int .i64 r141.2.2),(21,.int .i64 r143.2.2),(24,.int .i64 r145.2.2),(126,.bool (((((r150 && (decide (r81.2=8))) && (decide (r135.2=8))) && (decide (r137.1=300))) && (decide (r137.2.1=2))) && (decide (r137.2.2=0))))]) (b:=((((r150 && (decide (r81.2=8))) && (decide (r135.2=8))) && (decide (r137.1=300))) && (decide (r137.2.1=2)))) 3 hS ?_ ?_ ?_
  ·
    intro hb key
    replace hF:=Fr.as hF (t:=123) rfl (congrArg Value.bool hb)
    refine ls<|gy hF rfl rfl<|q1 hF rfl (e_move hF rfl) fun a hF=>?_
    refine ls<|gy hF rfl rfl<|q1 hF rfl (e_eql hF rfl rfl) fun a hF=>?_
    refine ls<|q1 hF rfl (e_as (v':=.bool (((((r150 && (decide (r81.2=8))) && (decide (r135.2=8))) && (decide (r137.1=300))) && (decide (r137.2.1=2))) && (decide (r137.2.2=0)))) (e_pickT hF rfl rfl) (by rw [hb];rfl)) fun a hF=>?_
    exact key _ _ (hF.has ⟨rfl,rfl,rfl,rfl,rfl,rfl,trivial⟩) hS
  ·
    intro hb key
    replace hF:=Fr.as hF (t:=123) rfl (congrArg Value.bool hb)
    refine ls<|gn hF rfl rfl rfl rfl fun a hF=>?_
    refine ls<|gn hF rfl rfl rfl rfl fun a hF=>?_
    refine ls<|q1 hF rfl (e_as (v':=.bool (((((r150 && (decide (r81.2=8))) && (decide (r135.2=8))) && (decide (r137.1=300))) && (decide (r137.2.1=2))) && (decide (r137.2.2=0)))) (e_pickF hF rfl rfl) (by rw [hb];rfl)) fun a hF=>?_
    exact key _ _ (hF.has ⟨rfl,rfl,rfl,rfl,rfl,rfl,trivial⟩) hS
  intro a w hF hS
  refine ls<|q1 hF rfl (e_move hF rfl) fun a hF=>?_
  refine grp (N:=163) (Fk:=[(1,.pointer (some ⟨b18,0,none⟩)),(18,.int .i64 r141.2.2),(21,.int .i64 r143.2.2),(24,.int .i64 r145.2.2),(130,.bool ((((((r150 && (decide (r81.2=8))) && (decide (r135.2=8))) && (decide (r137.1=300))) && (decide (r137.2.1=2))) && (decide (r137.2.2=0))) && (decide (r139.2.2=8))))]) (b:=(((((r150 && (decide (r81.2=8))) && (decide (r135.2=8))) && (decide (r137.1=300))) && (decide (r137.2.1=2))) && (decide (r137.2.2=0)))) 3 hS ?_ ?_ ?_
  ·
    intro hb key
    replace hF:=Fr.as hF (t:=127) rfl (congrArg Value.bool hb)
    refine ls<|gy hF rfl rfl<|q1 hF rfl (e_move hF rfl) fun a hF=>?_
    refine ls<|gy hF rfl rfl<|q1 hF rfl (e_eql hF rfl rfl) fun a hF=>?_
    refine ls<|q1 hF rfl (e_as (v':=.bool ((((((r150 && (decide (r81.2=8))) && (decide (r135.2=8))) && (decide (r137.1=300))) && (decide (r137.2.1=2))) && (decide (r137.2.2=0))) && (decide (r139.2.2=8)))) (e_pickT hF rfl rfl) (by rw [hb];rfl)) fun a hF=>?_
    exact key _ _ (hF.has ⟨rfl,rfl,rfl,rfl,rfl,trivial⟩) hS
  ·
    intro hb key
    replace hF:=Fr.as hF (t:=127) rfl (congrArg Value.bool hb)
    refine ls<|gn hF rfl rfl rfl rfl fun a hF=>?_
    refine ls<|gn hF rfl rfl rfl rfl fun a hF=>?_
    refine ls<|q1 hF rfl (e_as (v':=.bool ((((((r150 && (decide (r81.2=8))) && (decide (r135.2=8))) && (decide (r137.1=300))) && (decide (r137.2.1=2))) && (decide (r137.2.2=0))) && (decide (r139.2.2=8)))) (e_pickF hF rfl rfl) (by rw [hb];rfl)) fun a hF=>?_
    exact key _ _ (hF.has ⟨rfl,rfl,rfl,rfl,rfl,trivial⟩) hS
  intro a w hF hS
  refine ls<|q1 hF rfl (e_move hF rfl) fun a hF=>?_
  refine grp (N:=163) (Fk:=[(1,.pointer (some ⟨b18,0,none⟩)),(21,.int .i64 r143.2.2),(24,.int .i64 r145.2.2),(134,.bool (((((((r150 && (decide (r81.2=8))) && (decide (r135.2=8))) && (decide (r137.1=300))) && (decide (r137.2.1=2))) && (decide (r137.2.2=0))) && (decide (r139.2.2=8))) && (decide (r141.2.2=6))))]) (b:=((((((r150 && (decide (r81.2=8))) && (decide (r135.2=8))) && (decide (r137.1=300))) && (decide (r137.2.1=2))) && (decide (r137.2.2=0))) && (decide (r139.2.2=8)))) 3 hS ?_ ?_ ?_
  ·
    intro hb key
    replace hF:=Fr.as hF (t:=131) rfl (congrArg Value.bool hb)
    refine ls<|gy hF rfl rfl<|q1 hF rfl (e_move hF rfl) fun a hF=>?_
    refine ls<|gy hF rfl rfl<|q1 hF rfl (e_eql hF rfl rfl) fun a hF=>?_
    refine ls<|q1 hF rfl (e_as (v':=.bool (((((((r150 && (decide (r81.2=8))) && (decide (r135.2=8))) && (decide (r137.1=300))) && (decide (r137.2.1=2))) && (decide (r137.2.2=0))) && (decide (r139.2.2=8))) && (decide (r141.2.2=6)))) (e_pickT hF rfl rfl) (by rw [hb];rfl)) fun a hF=>?_
    exact key _ _ (hF.has ⟨rfl,rfl,rfl,rfl,trivial⟩) hS
  ·
    intro hb key
    replace hF:=Fr.as hF (t:=131) rfl (congrArg Value.bool hb)
    refine ls<|gn hF rfl rfl rfl rfl fun a hF=>?_
    refine ls<|gn hF rfl rfl rfl rfl fun a hF=>?_
    refine ls<|q1 hF rfl (e_as (v':=.bool (((((((r150 && (decide (r81.2=8))) && (decide (r135.2=8))) && (decide (r137.1=300))) && (decide (r137.2.1=2))) && (decide (r137.2.2=0))) && (decide (r139.2.2=8))) && (decide (r141.2.2=6)))) (e_pickF hF rfl rfl) (by rw [hb];rfl)) fun a hF=>?_
    exact key _ _ (hF.has ⟨rfl,rfl,rfl,rfl,trivial⟩) hS
  intro a w hF hS
  refine ls<|q1 hF rfl (e_move hF rfl) fun a hF=>?_
  refine grp (N:=163) (Fk:=[(1,.pointer (some ⟨b18,0,none⟩)),(24,.int .i64 r145.2.2),(138,.bool ((((((((r150 && (decide (r81.2=8))) && (decide (r135.2=8))) && (decide (r137.1=300))) && (decide (r137.2.1=2))) && (decide (r137.2.2=0))) && (decide (r139.2.2=8))) && (decide (r141.2.2=6))) && (decide (r143.2.2=1))))]) (b:=(((((((r150 && (decide (r81.2=8))) && (decide (r135.2=8))) && (decide (r137.1=300))) && (decide (r137.2.1=2))) && (decide (r137.2.2=0))) && (decide (r139.2.2=8))) && (decide (r141.2.2=6)))) 3 hS ?_ ?_ ?_
  ·
    intro hb key
    replace hF:=Fr.as hF (t:=135) rfl (congrArg Value.bool hb)
    refine ls<|gy hF rfl rfl<|q1 hF rfl (e_move hF rfl) fun a hF=>?_
    refine ls<|gy hF rfl rfl<|q1 hF rfl (e_eql hF rfl rfl) fun a hF=>?_
    refine ls<|q1 hF rfl (e_as (v':=.bool ((((((((r150 && (decide (r81.2=8))) && (decide (r135.2=8))) && (decide (r137.1=300))) && (decide (r137.2.1=2))) && (decide (r137.2.2=0))) && (decide (r139.2.2=8))) && (decide (r141.2.2=6))) && (decide (r143.2.2=1)))) (e_pickT hF rfl rfl) (by rw [hb];rfl)) fun a hF=>?_
    exact key _ _ (hF.has ⟨rfl,rfl,rfl,trivial⟩) hS
  ·
    intro hb key
    replace hF:=Fr.as hF (t:=135) rfl (congrArg Value.bool hb)
    refine ls<|gn hF rfl rfl rfl rfl fun a hF=>?_
    refine ls<|gn hF rfl rfl rfl rfl fun a hF=>?_
    refine ls<|q1 hF rfl (e_as (v':=.bool ((((((((r150 && (decide (r81.2=8))) && (decide (r135.2=8))) && (decide (r137.1=300))) && (decide (r137.2.1=2))) && (decide (r137.2.2=0))) && (decide (r139.2.2=8))) && (decide (r141.2.2=6))) && (decide (r143.2.2=1)))) (e_pickF hF rfl rfl) (by rw [hb];rfl)) fun a hF=>?_
    exact key _ _ (hF.has ⟨rfl,rfl,rfl,trivial⟩) hS
  intro a w hF hS
  refine ls<|q1 hF rfl (e_move hF rfl) fun a hF=>?_
  refine grp (N:=163) (Fk:=[(1,.pointer (some ⟨b18,0,none⟩)),(142,.bool (((((((((r150 && (decide (r81.2=8))) && (decide (r135.2=8))) && (decide (r137.1=300))) && (decide (r137.2.1=2))) && (decide (r137.2.2=0))) && (decide (r139.2.2=8))) && (decide (r141.2.2=6))) && (decide (r143.2.2=1))) && (decide (r145.2.2=2))))]) (b:=((((((((r150 && (decide (r81.2=8))) && (decide (r135.2=8))) && (decide (r137.1=300))) && (decide (r137.2.1=2))) && (decide (r137.2.2=0))) && (decide (r139.2.2=8))) && (decide (r141.2.2=6))) && (decide (r143.2.2=1)))) 3 hS ?_ ?_ ?_
  ·
    intro hb key
    replace hF:=Fr.as hF (t:=139) rfl (congrArg Value.bool hb)
    refine ls<|gy hF rfl rfl<|q1 hF rfl (e_move hF rfl) fun a hF=>?_
    refine ls<|gy hF rfl rfl<|q1 hF rfl (e_eql hF rfl rfl) fun a hF=>?_
    refine ls<|q1 hF rfl (e_as (v':=.bool (((((((((r150 && (decide (r81.2=8))) && (decide (r135.2=8))) && (decide (r137.1=300))) && (decide (r137.2.1=2))) && (decide (r137.2.2=0))) && (decide (r139.2.2=8))) && (decide (r141.2.2=6))) && (decide (r143.2.2=1))) && (decide (r145.2.2=2)))) (e_pickT hF rfl rfl) (by rw [hb];rfl)) fun a hF=>?_
    exact key _ _ (hF.has ⟨rfl,rfl,trivial⟩) hS
  ·
    intro hb key
    replace hF:=Fr.as hF (t:=139) rfl (congrArg Value.bool hb)
    refine ls<|gn hF rfl rfl rfl rfl fun a hF=>?_
    refine ls<|gn hF rfl rfl rfl rfl fun a hF=>?_
    refine ls<|q1 hF rfl (e_as (v':=.bool (((((((((r150 && (decide (r81.2=8))) && (decide (r135.2=8))) && (decide (r137.1=300))) && (decide (r137.2.1=2))) && (decide (r137.2.2=0))) && (decide (r139.2.2=8))) && (decide (r141.2.2=6))) && (decide (r143.2.2=1))) && (decide (r145.2.2=2)))) (e_pickF hF rfl rfl) (by rw [hb];rfl)) fun a hF=>?_
    exact key _ _ (hF.has ⟨rfl,rfl,trivial⟩) hS
  intro a w hF hS
  refine ls<|q1 hF rfl (e_as (e_move hF rfl) (congrArg Value.bool hb152)) fun a hF=>?_
  refine ls<|gy hF rfl rfl<|c1 hF rfl Tryz.call43 (Za_c (hp_le _) h154) ⟨rfl,trivial⟩ (fun v w a hR hF=>?_)
  obtain ⟨rfl,hk⟩:=hR
  replace hS:=hS.pass hk
  clear hk
  refine ls<|gy hF rfl rfl<|q1 hF rfl (e_eqlU (m:=r153) (n:=[172,2]) hF rfl rfl) fun a hF=>?_
  refine ls<|q1 hF rfl (e_pickT hF rfl rfl) fun a hF=>?_
  refine ls<|q1 hF rfl (e_as (e_move hF rfl) (congrArg Value.bool hb155)) fun a hF=>?_
  refine ls<|gy hF rfl rfl<|c1 hF rfl Tryz.call43 (Za_c (hp_le _) h157) ⟨rfl,trivial⟩ (fun v w a hR hF=>?_)
  obtain ⟨rfl,hk⟩:=hR
  replace hS:=hS.pass hk
  clear hk
  refine ls<|gy hF rfl rfl<|q1 hF rfl (e_eqlU (m:=r156) (n:=[]) hF rfl rfl) fun a hF=>?_
  refine ls<|q1 hF rfl (e_pickT hF rfl rfl) fun a hF=>?_
  refine ls<|q1 hF rfl (e_as (e_move hF rfl) (congrArg Value.bool hb158)) fun a hF=>?_
  refine ls<|gy hF rfl rfl<|c1 hF rfl Tryz.call17 (Zg_c (hp_le _) (Tab.mono (Tab.mono hT (fun b o h=>(fun b o h=>(fun b o h=>(fun b o h=>hx83.sub b o (hx27.sub b o h)) b o (hx19.sub b o h)) b o (hx11.sub b o h)) b o (hx4.sub b o h))) (St.up hS)) h160) ⟨rfl,trivial⟩ (fun v w a hR hF=>?_)
  obtain ⟨rfl,hk⟩:=hR
  replace hS:=hS.pass hk
  clear hk
  refine ls<|gy hF rfl rfl<|q1 hF rfl (e_eqlU (m:=r159) (n:=[99,104,101,99,107]) hF rfl rfl) fun a hF=>?_
  refine ls<|q1 hF rfl (e_pickT hF rfl rfl) fun a hF=>?_
  refine ls<|q1 hF rfl (e_as (e_move hF rfl) (congrArg Value.bool hb161)) fun a hF=>?_
  refine ls<|gy hF rfl rfl<|q1 hF rfl (e_fa hF fa29_4 rfl) fun a hF=>?_
  refine ls<|gy hF rfl rfl<|q1 hF rfl (e_ld hF Tryz.isAgg23 rfl ((St.ld hS).cellB (.tail _ (.tail _ (.head _))) rfl)) fun a hF=>?_
  refine ls<|gy hF rfl rfl<|q1 hF rfl (e_iaI hF Tryz.runUnderlying23 Tryz.sizeOf26 rfl rfl h163 (SR.oaI hr20 (by decide) h163)) fun a hF=>?_
  refine ls<|gy hF rfl rfl<|q1 hF rfl (e_ldA hF Tryz.isAgg26 Tryz.sizeOf26 rfl rfl (fun j v hj=>PH.le.cell (fun b o hx=>(Lds.le (St.ld hS)) b o ((fun b o h=>hx83.sub b o (hx27.sub b o h)) b o hx)) (hl166 j v hj))) fun a hF=>?_
  refine ls<|gy hF rfl rfl<|c1 hF rfl Tryz.call15 (Zd_c (hp_le _) (Tab.mono (Tab.mono hT (fun b o h=>(fun b o h=>(fun b o h=>(fun b o h=>hx83.sub b o (hx27.sub b o h)) b o (hx19.sub b o h)) b o (hx11.sub b o h)) b o (hx4.sub b o h))) (St.up hS)) (Enc.mono (St.up hS) (show Enc.rep (α:=api_Code) H86 [.int .i64 x162.Regs,.int .i64 x162.Counts,.slice oa167 x162.L.length cap168] x162 from ⟨_,_,rfl,rfl,⟨_,_,rfl,rfl,⟨_,_,rfl,hc169,(hr170.mono (fun b o h=>hx83.sub b o (hx27.sub b o h)))⟩⟩⟩)) h172) ⟨rfl,trivial⟩ (fun v w a hR hF=>?_)
  obtain ⟨rfl,hk⟩:=hR
  replace hS:=hS.pass hk
  clear hk
  refine ls<|gy hF rfl rfl<|q1 hF rfl (e_eqlU (m:=r171) (n:=[48,32,115,101,116,32,48,32,48,32,48,32,91,35,49,32,35,50,32,58,53,93,10]) hF rfl rfl) fun a hF=>?_
  refine ls<|q1 hF rfl (e_pickT hF rfl rfl) fun a hF=>?_
  refine ls<|q1 hF rfl (e_asg hF rfl) fun a hF=>?_
  refine re<|?_
  refine tn<|?_
  refine wr<|?_
  obtain rfl:=Option.some.inj hm
  exact r1 hF Tryz.results13 rfl ⟨rfl,hS.keep⟩
set_option maxRecDepth 100000 in
theorem Z1m_c:∀ (N:Nat) {w0:World} {H:PH} (hH:H.le w0) {p1:Int} {r:Str} (hm:Z1m N p1=some r),Tot Tryz.prog 47 #[.int .i64 p1] w0 (fun v w'=>v=strv r∧Keep Nil w0 w'):=by
  intro N
  induction N with
  | zero=>intros;rename_i hm;simp [Z1m] at hm
  | succ N ih=>
  intro w0 H hH p1 r hm
  rw [Z1m] at hm
  refine fn0 (args:=[.int .i64 p1]) (F:=[(0,.int .i64 p1)]) Tryz.func47 rfl Tryz.ntmps47 rfl rfl fun a hF=>?_
  have hS:St w0 Nil [H] [] w0:=start1 hH
  refine th<|?_
  refine rg<|?_
  refine ls<|q1 hF rfl (e_asg hF rfl) fun a hF=>?_
  refine re<|?_
  refine tn<|th<|th<|?_
  refine rg<|?_
  refine ls<|q1 hF rfl (e_move hF rfl) fun a hF=>?_
  refine ls<|q1 hF rfl (e_geq hF rfl rfl) fun a hF=>?_
  refine ls<|q1 hF rfl (e_move hF rfl) fun a hF=>?_
  refine grp (N:=40) (Fk:=[(0,.int .i64 p1),(9,.bool ((decide (0≤p1)) && (decide (p1 < 10))))]) (b:=(decide (0≤p1))) 3 hS ?_ ?_ ?_
  ·
    intro hb key
    replace hF:=Fr.as hF (t:=6) rfl (congrArg Value.bool hb)
    refine ls<|gy hF rfl rfl<|q1 hF rfl (e_move hF rfl) fun a hF=>?_
    refine ls<|gy hF rfl rfl<|q1 hF rfl (e_lss hF rfl rfl) fun a hF=>?_
    refine ls<|q1 hF rfl (e_as (v':=.bool ((decide (0≤p1)) && (decide (p1 < 10)))) (e_pickT hF rfl rfl) (by rw [hb];rfl)) fun a hF=>?_
    exact key _ _ (hF.has ⟨rfl,rfl,trivial⟩) hS
  ·
    intro hb key
    replace hF:=Fr.as hF (t:=6) rfl (congrArg Value.bool hb)
    refine ls<|gn hF rfl rfl rfl rfl fun a hF=>?_
    refine ls<|gn hF rfl rfl rfl rfl fun a hF=>?_
    refine ls<|q1 hF rfl (e_as (v':=.bool ((decide (0≤p1)) && (decide (p1 < 10)))) (e_pickF hF rfl rfl) (by rw [hb];rfl)) fun a hF=>?_
    exact key _ _ (hF.has ⟨rfl,rfl,trivial⟩) hS
  intro a w hF hS
  refine re<|?_
  rcases bdich ((decide (0≤p1)) && (decide (p1 < 10))) with hb2 | hb2
  ·
    replace hm:=ite_t hm hb2
    refine tn<|ctv hF rfl hb2<|th<|?_
    refine rg<|?_
    refine ls<|q1 hF rfl (e_move hF rfl) fun a hF=>?_
    refine ls<|q1 hF rfl (e_add hF rfl rfl) fun a hF=>?_
    refine ls<|q1 hF rfl (e_cvt hF Tryz.runUnderlying3 Tryz.runUnderlying5 rfl) fun a hF=>?_
    refine ls<|a_bsl (e:=5) (sz:=1) [.int .u8 (IntKind.u8.wrap (IntKind.i64.wrap (48+p1)))] hF rfl hS rfl rfl rfl (fun w=>by kernel_rfl) fun b4 w a hS hF=>?_
    have hv3:Rows (α:=(IntK .u8)) H [.int .u8 (IntKind.u8.wrap (IntKind.i64.wrap (48+p1)))] ([(IntK.mk (IntKind.u8.wrap (IntKind.i64.wrap (48+p1))))]:List (IntK .u8)):=(.cons (c:=[.int .u8 (IntKind.u8.wrap (IntKind.i64.wrap (48+p1)))]) rfl .nil)
    refine ls<|q1 hF rfl (e_b2s (xs:=([(IntK.mk (IntKind.u8.wrap (IntKind.i64.wrap (48+p1))))]:List (IntK .u8))) hF Tryz.underlying52 Tryz.underlying5 Tryz.underlying9 rfl ((St.ld hS).rdO (.head _)) hv3) fun a hF=>?_
    refine ls<|q1 hF rfl (e_asg hF rfl) fun a hF=>?_
    refine re<|?_
    refine tn<|?_
    refine wr<|tr<|?_
    obtain rfl:=Option.some.inj hm
    exact r1 hF Tryz.results47 rfl ⟨rfl,hS.keep⟩
  ·
    replace hm:=ite_f hm hb2
    refine tn<|cfv hF rfl hb2<|wk<|?_
    refine tn<|th<|th<|?_
    refine rg<|?_
    refine ls<|q1 hF rfl (e_move hF rfl) fun a hF=>?_
    refine ls<|q1 hF rfl (e_gtr hF rfl rfl) fun a hF=>?_
    refine re<|?_
    rcases bdich (decide (0 < p1)) with hb6 | hb6
    ·
      replace hm:=itp_t hm hb6
      refine tn<|ctv hF rfl hb6<|th<|?_
      replace hm:=bind_some hm
      obtain ⟨rz7,h8,hm⟩:=hm
      replace hm:=bind_some hm
      obtain ⟨rz9,h10,hm⟩:=hm
      replace hm:=bind_some hm
      obtain ⟨s11,h12,hm⟩:=hm
      refine rg<|?_
      refine ls<|q1 hF rfl (e_move hF rfl) fun a hF=>?_
      refine ls<|q1 hF rfl (e_quo hF rfl rfl (by decide)) fun a hF=>?_
      refine ls<|c1 hF rfl Tryz.call47 (ih (hp_le _) h8) ⟨rfl,trivial⟩ (fun v w a hR hF=>?_)
      obtain ⟨rfl,hk⟩:=hR
      replace hS:=hS.pass hk
      clear hk
      refine ls<|q1 hF rfl (e_move hF rfl) fun a hF=>?_
      refine ls<|q1 hF rfl (e_rem hF rfl rfl (by decide)) fun a hF=>?_
      refine ls<|c1 hF rfl Tryz.call47 (ih (hp_le _) h10) ⟨rfl,trivial⟩ (fun v w a hR hF=>?_)
      obtain ⟨rfl,hk⟩:=hR
      replace hS:=hS.pass hk
      clear hk
      refine ls<|q1 hF rfl (e_catU hF rfl rfl h12) fun a hF=>?_
      refine ls<|q1 hF rfl (e_asg hF rfl) fun a hF=>?_
      refine re<|?_
      refine tn<|?_
      refine wr<|tr<|?_
      obtain rfl:=Option.some.inj hm
      exact r1 hF Tryz.results47 rfl ⟨rfl,hS.keep⟩
    ·
      replace hm:=itp_f hm hb6
      refine tn<|cfv hF rfl hb6<|wk<|?_
      refine tn<|th<|?_
      refine rg<|?_
      refine ls<|q1 hF rfl (e_move hF rfl) fun a hF=>?_
      refine ls<|q1 hF rfl (e_rem hF rfl rfl (by decide)) fun a hF=>?_
      refine ls<|q1 hF rfl (e_asg hF rfl) fun a hF=>?_
      refine re<|?_
      refine tn<|th<|th<|?_
      refine rg<|?_
      refine ls<|q1 hF rfl (e_move hF rfl) fun a hF=>?_
      refine ls<|q1 hF rfl (e_quo hF rfl rfl (by decide)) fun a hF=>?_
      refine ls<|q1 hF rfl (e_eql hF rfl rfl) fun a hF=>?_
      refine re<|?_
      rcases bdich (decide ((IntKind.i64.wrap (p1.tdiv 10))=0)) with hb13 | hb13
      ·
        replace hm:=itp_t hm hb13
        refine tn<|ctv hF rfl hb13<|th<|?_
        replace hm:=bind_some hm
        obtain ⟨r14,h15,hm⟩:=hm
        replace hm:=bind_some hm
        obtain ⟨s16,h17,hm⟩:=hm
        refine rg<|?_
        refine ls<|q1 hF rfl (e_move hF rfl) fun a hF=>?_
        refine ls<|q1 hF rfl (e_neg hF rfl) fun a hF=>?_
        refine ls<|c1 hF rfl Tryz.call47 (ih (hp_le _) h15) ⟨rfl,trivial⟩ (fun v w a hR hF=>?_)
        obtain ⟨rfl,hk⟩:=hR
        replace hS:=hS.pass hk
        clear hk
        refine ls<|q1 hF rfl (e_catU hF rfl rfl h17) fun a hF=>?_
        refine ls<|q1 hF rfl (e_asg hF rfl) fun a hF=>?_
        refine re<|?_
        refine tn<|?_
        refine wr<|tr<|?_
        obtain rfl:=Option.some.inj hm
        exact r1 hF Tryz.results47 rfl ⟨rfl,hS.keep⟩
      ·
        replace hm:=itp_f hm hb13
        refine tn<|cfv hF rfl hb13<|wk<|?_
        refine tn<|th<|?_
        replace hm:=bind_some hm
        obtain ⟨r18,h19,hm⟩:=hm
        replace hm:=bind_some hm
        obtain ⟨r20,h21,hm⟩:=hm
        replace hm:=bind_some hm
        obtain ⟨s22,h23,hm⟩:=hm
        refine rg<|?_
        refine ls<|q1 hF rfl (e_move hF rfl) fun a hF=>?_
        refine ls<|q1 hF rfl (e_quo hF rfl rfl (by decide)) fun a hF=>?_
        refine ls<|c1 hF rfl Tryz.call47 (ih (hp_le _) h19) ⟨rfl,trivial⟩ (fun v w a hR hF=>?_)
        obtain ⟨rfl,hk⟩:=hR
        replace hS:=hS.pass hk
        clear hk
        refine ls<|q1 hF rfl (e_move hF rfl) fun a hF=>?_
        refine ls<|q1 hF rfl (e_neg hF rfl) fun a hF=>?_
        refine ls<|c1 hF rfl Tryz.call47 (ih (hp_le _) h21) ⟨rfl,trivial⟩ (fun v w a hR hF=>?_)
        obtain ⟨rfl,hk⟩:=hR
        replace hS:=hS.pass hk
        clear hk
        refine ls<|q1 hF rfl (e_catU hF rfl rfl h23) fun a hF=>?_
        refine ls<|q1 hF rfl (e_asg hF rfl) fun a hF=>?_
        refine re<|?_
        refine tn<|?_
        refine wr<|?_
        obtain rfl:=Option.some.inj hm
        exact r1 hF Tryz.results47 rfl ⟨rfl,hS.keep⟩
set_option maxRecDepth 100000 in
theorem Z3i_c {N:Nat} {w0:World} {H:PH} (hH:H.le w0) {p1:Int} {r:Str} (hm:Z3i N p1=some r):Tot Tryz.prog 18 #[.int .i64 p1] w0 (fun v w'=>v=strv r∧Keep Nil w0 w'):=by
  unfold Z3i at hm
  refine fn0 (args:=[.int .i64 p1]) (F:=[(0,.int .i64 p1)]) Tryz.func18 rfl Tryz.ntmps18 rfl rfl fun a hF=>?_
  have hS:St w0 Nil [H] [] w0:=start1 hH
  refine th<|?_
  refine rg<|?_
  refine ls<|q1 hF rfl (e_asg hF rfl) fun a hF=>?_
  refine re<|?_
  refine tn<|th<|th<|?_
  refine rg<|?_
  refine ls<|q1 hF rfl (e_move hF rfl) fun a hF=>?_
  refine ls<|q1 hF rfl (e_lss hF rfl rfl) fun a hF=>?_
  refine ls<|q1 hF rfl (e_move hF rfl) fun a hF=>?_
  refine grp (N:=14) (Fk:=[(0,.int .i64 p1),(8,.bool ((decide (p1 < 1)) || (decide (15 < p1))))]) (b:=(decide (p1 < 1))) 3 hS ?_ ?_ ?_
  ·
    intro hb key
    replace hF:=Fr.as hF (t:=5) rfl (congrArg Value.bool hb)
    refine ls<|gn hF rfl rfl rfl rfl fun a hF=>?_
    refine ls<|gn hF rfl rfl rfl rfl fun a hF=>?_
    refine ls<|q1 hF rfl (e_as (v':=.bool ((decide (p1 < 1)) || (decide (15 < p1)))) (e_pickT hF rfl rfl) (by rw [hb];rfl)) fun a hF=>?_
    exact key _ _ (hF.has ⟨rfl,rfl,trivial⟩) hS
  ·
    intro hb key
    replace hF:=Fr.as hF (t:=5) rfl (congrArg Value.bool hb)
    refine ls<|gy hF rfl rfl<|q1 hF rfl (e_move hF rfl) fun a hF=>?_
    refine ls<|gy hF rfl rfl<|q1 hF rfl (e_gtr hF rfl rfl) fun a hF=>?_
    refine ls<|q1 hF rfl (e_as (v':=.bool ((decide (p1 < 1)) || (decide (15 < p1)))) (e_pickF hF rfl rfl) (by rw [hb];rfl)) fun a hF=>?_
    exact key _ _ (hF.has ⟨rfl,rfl,trivial⟩) hS
  intro a w hF hS
  refine re<|?_
  rcases bdich ((decide (p1 < 1)) || (decide (15 < p1))) with hb2 | hb2
  ·
    replace hm:=ite_t hm hb2
    refine tn<|ctv hF rfl hb2<|th<|?_
    refine rg<|?_
    refine ls<|q1 hF rfl (e_asg hF rfl) fun a hF=>?_
    refine re<|?_
    refine tn<|?_
    refine wr<|tr<|?_
    obtain rfl:=Option.some.inj hm
    exact r1 hF Tryz.results18 rfl ⟨rfl,hS.keep⟩
  ·
    replace hm:=ite_f hm hb2
    refine tn<|cfv hF rfl hb2<|wk<|?_
    refine tn<|th<|?_
    replace hm:=bind_some hm
    obtain ⟨xz6,h7,hm⟩:=hm
    refine rg<|?_
    refine ls<|a_bsl (e:=9) (sz:=1) [strv [115,101,116],strv [108,111,97,100],strv [115,116,111,114,101],strv [99,97,115],strv [102,108,117,115,104],strv [111,112,116],strv [115,102,101,110,99,101],strv [109,102,101,110,99,101],strv [116,97,107,101],strv [103,105,118,101],strv [106,117,109,112],strv [101,108,115,101],strv [99,111,117,110,116],strv [97,103,97,105,110],strv [99,104,101,99,107]] hF rfl hS rfl rfl rfl (fun w=>by kernel_rfl) fun b4 w a hS hF=>?_
    have hv3:Rows (α:=Str) H [strv [115,101,116],strv [108,111,97,100],strv [115,116,111,114,101],strv [99,97,115],strv [102,108,117,115,104],strv [111,112,116],strv [115,102,101,110,99,101],strv [109,102,101,110,99,101],strv [116,97,107,101],strv [103,105,118,101],strv [106,117,109,112],strv [101,108,115,101],strv [99,111,117,110,116],strv [97,103,97,105,110],strv [99,104,101,99,107]] ([[115,101,116],[108,111,97,100],[115,116,111,114,101],[99,97,115],[102,108,117,115,104],[111,112,116],[115,102,101,110,99,101],[109,102,101,110,99,101],[116,97,107,101],[103,105,118,101],[106,117,109,112],[101,108,115,101],[99,111,117,110,116],[97,103,97,105,110],[99,104,101,99,107]]:List Str):=(.cons (c:=[strv [115,101,116]]) rfl (.cons (c:=[strv [108,111,97,100]]) rfl (.cons (c:=[strv [115,116,111,114,101]]) rfl (.cons (c:=[strv [99,97,115]]) rfl (.cons (c:=[strv [102,108,117,115,104]]) rfl (.cons (c:=[strv [111,112,116]]) rfl (.cons (c:=[strv [115,102,101,110,99,101]]) rfl (.cons (c:=[strv [109,102,101,110,99,101]]) rfl (.cons (c:=[strv [116,97,107,101]]) rfl (.cons (c:=[strv [103,105,118,101]]) rfl (.cons (c:=[strv [106,117,109,112]]) rfl (.cons (c:=[strv [101,108,115,101]]) rfl (.cons (c:=[strv [99,111,117,110,116]]) rfl (.cons (c:=[strv [97,103,97,105,110]]) rfl (.cons (c:=[strv [99,104,101,99,107]]) rfl .nil)))))))))))))))
    refine ls<|q1 hF rfl (e_move hF rfl) fun a hF=>?_
    refine ls<|q1 hF rfl (e_sub hF rfl rfl) fun a hF=>?_
    refine ls<|q1 hF rfl (e_iaI hF Tryz.runUnderlying92 Tryz.sizeOf9 rfl rfl h7 (Rd.oaI ((St.ld hS).rdO (.head _)) hv3 (by decide) h7)) fun a hF=>?_
    obtain ⟨cz8,g9,hl10⟩:=Rows.getI hv3 h7
    obtain rfl:cz8=[strv xz6]:=g9
    refine ls<|q1 hF rfl (e_ld hF Tryz.isAgg9 rfl ((St.ld hS).elO (.head _) (hl10 0 _ rfl))) fun a hF=>?_
    refine ls<|q1 hF rfl (e_asg hF rfl) fun a hF=>?_
    refine re<|?_
    refine tn<|?_
    refine wr<|?_
    obtain rfl:=Option.some.inj hm
    exact r1 hF Tryz.results18 rfl ⟨rfl,hS.keep⟩
set_option maxRecDepth 100000 in
theorem Z3p_c {N:Nat} {w0:World} {H:PH} (hH:H.le w0) {oa2:Option Addr} {cap3:Nat} {p1:(List api_Op)} (hc4:p1.length≤cap3) (hr5:SR H oa2 p1) {r:Str} (hm:Z3p N p1=some r):Tot Tryz.prog 48 #[.slice oa2 p1.length cap3] w0 (fun v w'=>v=strv r∧Keep Nil w0 w'):=by
  unfold Z3p at hm
  refine fn0 (args:=[.slice oa2 p1.length cap3]) (F:=[(0,.slice oa2 p1.length cap3)]) Tryz.func48 rfl Tryz.ntmps48 rfl rfl fun a hF=>?_
  have hS:St w0 Nil [H] [] w0:=start1 hH
  refine th<|?_
  refine rg<|?_
  refine ls<|q1 hF rfl (e_asg hF rfl) fun a hF=>?_
  refine re<|?_
  refine tn<|th<|?_
  refine rg<|?_
  refine ls<|q1 hF rfl (e_asg hF rfl) fun a hF=>?_
  refine re<|?_
  refine tn<|th<|th<|?_
  refine rg<|?_
  refine ls<|q1 hF rfl (e_asg hF rfl) fun a hF=>?_
  refine re<|?_
  refine tn<|midK (fun a w=>∃ (vA1:Str),Z3q vA1=some r∧Fr 59 [(3,strv vA1)] a∧St w0 Nil [H] [] w) ?_ ?_
  ·
    refine wb<|lp (α:=Nat×Str×Int) (fun (gh:Nat×Str×Int) a w=>match gh with | (nn2,vB1,vB2)=>(Z3t N Z3q p1) nn2 vB1 vB2=some r∧Fr 59 [(0,.slice oa2 p1.length cap3),(3,strv vB1),(4,.int .i64 vB2)] a∧St w0 Nil [H] [] w) (fun gh=>gh.1) (N,[],0) ⟨hm,hF.has ⟨rfl,rfl,rfl,trivial⟩,hS⟩ ?_
    clear hm hF hS
    rintro ⟨nn2,vB1,vB2⟩ a w ⟨hm,hF,hS⟩
    obtain _ | nn2:=nn2
    · simp [Z3t] at hm
    rw [Z3t] at hm
    refine th<|th<|?_
    refine rg<|?_
    refine ls<|q1 hF rfl (e_move hF rfl) fun a hF=>?_
    refine ls<|q1 hF rfl (e_move hF rfl) fun a hF=>?_
    refine ls<|q1 hF rfl (e_lenL (α:=api_Op) (xs:=p1) hF Tryz.runUnderlying54 rfl) fun a hF=>?_
    refine ls<|q1 hF rfl (e_lss hF rfl rfl) fun a hF=>?_
    refine re<|?_
    rcases bdich (decide (vB2 < (p1.length:Int))) with hb6 | hb6
    ·
      replace hm:=itp_t hm hb6
      refine tn<|ctv hF rfl hb6<|wk<|?_
      refine tn<|th<|midK (fun a w=>∃ (vC1:Str),(Z3r (Z3t N Z3q p1 nn2) vB2) vC1=some r∧Fr 59 [(0,.slice oa2 p1.length cap3),(3,strv vC1),(4,.int .i64 vB2)] a∧St w0 Nil [H] [] w) ?_ ?_
      ·
        refine wb<|th<|th<|?_
        refine rg<|?_
        refine ls<|q1 hF rfl (e_move hF rfl) fun a hF=>?_
        refine ls<|q1 hF rfl (e_gtr hF rfl rfl) fun a hF=>?_
        refine re<|?_
        refine tn<|midK (fun a w=>∃ (vD1:Str),(Z3s N (Z3r (Z3t N Z3q p1 nn2) vB2) p1 vB2) vD1=some r∧Fr 59 [(0,.slice oa2 p1.length cap3),(3,strv vD1),(4,.int .i64 vB2)] a∧St w0 Nil [H] [] w) ?_ ?_
        ·
          rcases bdich (decide (0 < vB2)) with hb7 | hb7
          ·
            replace hm:=itp_t hm hb7
            refine ctv hF rfl hb7<|?_
            replace hm:=bind_some hm
            obtain ⟨s8,h9,hm⟩:=hm
            refine rg<|?_
            refine ls<|q1 hF rfl (e_move hF rfl) fun a hF=>?_
            refine ls<|q1 hF rfl (e_catU hF rfl rfl h9) fun a hF=>?_
            refine ls<|q1 hF rfl (e_asg hF rfl) fun a hF=>?_
            refine re<|?_
            refine tn<|?_
            exact ⟨s8,hm,hF.has ⟨rfl,rfl,rfl,trivial⟩,hS⟩
          ·
            replace hm:=itp_f hm hb7
            refine cfv hF rfl hb7<|wk<|?_
            refine tn<|?_
            exact ⟨vB1,hm,hF.has ⟨rfl,rfl,rfl,trivial⟩,hS⟩
        clear hm hF hS
        rintro a w ⟨vD1,hm,hF,hS⟩
        unfold Z3s at hm
        refine th<|?_
        replace hm:=bind_some hm
        obtain ⟨x10,h11,hm⟩:=hm
        obtain ⟨c12,g13,hl14⟩:=SR.get hr5 h11
        obtain rfl:=api_Op_open g13
        refine rg<|?_
        refine ls<|q1 hF rfl (e_move hF rfl) fun a hF=>?_
        refine ls<|q1 hF rfl (e_move hF rfl) fun a hF=>?_
        refine ls<|q1 hF rfl (e_iaI hF Tryz.runUnderlying54 Tryz.sizeOf83 rfl rfl h11 (SR.oaI hr5 (by decide) h11)) fun a hF=>?_
        refine ls<|q1 hF rfl (e_fa hF fa83_0 rfl) fun a hF=>?_
        refine ls<|q1 hF rfl (e_ld hF Tryz.isAgg3 rfl (PH.le.cell (Lds.le (St.ld hS)) (hl14 0 _ rfl))) fun a hF=>?_
        refine ls<|q1 hF rfl (e_eql hF rfl rfl) fun a hF=>?_
        refine re<|?_
        rcases bdich (decide (x10.Kind=1)) with hb15 | hb15
        ·
          replace hm:=itp_t hm hb15
          refine tn<|ctv hF rfl hb15<|?_
          replace hm:=bind_some hm
          obtain ⟨r16,h17,hm⟩:=hm
          replace hm:=bind_some hm
          obtain ⟨s18,h19,hm⟩:=hm
          replace hm:=bind_some hm
          obtain ⟨s20,h21,hm⟩:=hm
          refine rg<|?_
          refine ls<|q1 hF rfl (e_move hF rfl) fun a hF=>?_
          refine ls<|q1 hF rfl (e_move hF rfl) fun a hF=>?_
          refine ls<|q1 hF rfl (e_move hF rfl) fun a hF=>?_
          refine ls<|q1 hF rfl (e_iaI hF Tryz.runUnderlying54 Tryz.sizeOf83 rfl rfl h11 (SR.oaI hr5 (by decide) h11)) fun a hF=>?_
          refine ls<|q1 hF rfl (e_fa hF fa83_1 rfl) fun a hF=>?_
          refine ls<|q1 hF rfl (e_ld hF Tryz.isAgg3 rfl (PH.le.cell (Lds.le (St.ld hS)) (hl14 1 _ rfl))) fun a hF=>?_
          refine ls<|c1 hF rfl Tryz.call47 (Z1m_c _ (hp_le _) h17) ⟨rfl,trivial⟩ (fun v w a hR hF=>?_)
          obtain ⟨rfl,hk⟩:=hR
          replace hS:=hS.pass hk
          clear hk
          refine ls<|q1 hF rfl (e_catU hF rfl rfl h19) fun a hF=>?_
          refine ls<|q1 hF rfl (e_catU hF rfl rfl h21) fun a hF=>?_
          refine ls<|q1 hF rfl (e_asg hF rfl) fun a hF=>?_
          refine re<|?_
          refine bn<|tn<|?_
          exact ⟨s20,hm,hF.has ⟨rfl,rfl,rfl,trivial⟩,hS⟩
        ·
          replace hm:=itp_f hm hb15
          refine tn<|cfv hF rfl hb15<|th<|?_
          refine rg<|?_
          refine ls<|q1 hF rfl (e_move hF rfl) fun a hF=>?_
          refine ls<|q1 hF rfl (e_move hF rfl) fun a hF=>?_
          refine ls<|q1 hF rfl (e_iaI hF Tryz.runUnderlying54 Tryz.sizeOf83 rfl rfl h11 (SR.oaI hr5 (by decide) h11)) fun a hF=>?_
          refine ls<|q1 hF rfl (e_fa hF fa83_0 rfl) fun a hF=>?_
          refine ls<|q1 hF rfl (e_ld hF Tryz.isAgg3 rfl (PH.le.cell (Lds.le (St.ld hS)) (hl14 0 _ rfl))) fun a hF=>?_
          refine ls<|q1 hF rfl (e_eql hF rfl rfl) fun a hF=>?_
          refine re<|?_
          rcases bdich (decide (x10.Kind=2)) with hb22 | hb22
          ·
            replace hm:=itp_t hm hb22
            refine tn<|ctv hF rfl hb22<|?_
            replace hm:=bind_some hm
            obtain ⟨r23,h24,hm⟩:=hm
            replace hm:=bind_some hm
            obtain ⟨s25,h26,hm⟩:=hm
            replace hm:=bind_some hm
            obtain ⟨s27,h28,hm⟩:=hm
            refine rg<|?_
            refine ls<|q1 hF rfl (e_move hF rfl) fun a hF=>?_
            refine ls<|q1 hF rfl (e_move hF rfl) fun a hF=>?_
            refine ls<|q1 hF rfl (e_move hF rfl) fun a hF=>?_
            refine ls<|q1 hF rfl (e_iaI hF Tryz.runUnderlying54 Tryz.sizeOf83 rfl rfl h11 (SR.oaI hr5 (by decide) h11)) fun a hF=>?_
            refine ls<|q1 hF rfl (e_fa hF fa83_1 rfl) fun a hF=>?_
            refine ls<|q1 hF rfl (e_ld hF Tryz.isAgg3 rfl (PH.le.cell (Lds.le (St.ld hS)) (hl14 1 _ rfl))) fun a hF=>?_
            refine ls<|c1 hF rfl Tryz.call47 (Z1m_c _ (hp_le _) h24) ⟨rfl,trivial⟩ (fun v w a hR hF=>?_)
            obtain ⟨rfl,hk⟩:=hR
            replace hS:=hS.pass hk
            clear hk
            refine ls<|q1 hF rfl (e_catU hF rfl rfl h26) fun a hF=>?_
            refine ls<|q1 hF rfl (e_catU hF rfl rfl h28) fun a hF=>?_
            refine ls<|q1 hF rfl (e_asg hF rfl) fun a hF=>?_
            refine re<|?_
            refine bn<|tn<|?_
            exact ⟨s27,hm,hF.has ⟨rfl,rfl,rfl,trivial⟩,hS⟩
          ·
            replace hm:=itp_f hm hb22
            refine tn<|cfv hF rfl hb22<|?_
            replace hm:=bind_some hm
            obtain ⟨r29,h30,hm⟩:=hm
            replace hm:=bind_some hm
            obtain ⟨s31,h32,hm⟩:=hm
            replace hm:=bind_some hm
            obtain ⟨s33,h34,hm⟩:=hm
            refine rg<|?_
            refine ls<|q1 hF rfl (e_move hF rfl) fun a hF=>?_
            refine ls<|q1 hF rfl (e_move hF rfl) fun a hF=>?_
            refine ls<|q1 hF rfl (e_move hF rfl) fun a hF=>?_
            refine ls<|q1 hF rfl (e_iaI hF Tryz.runUnderlying54 Tryz.sizeOf83 rfl rfl h11 (SR.oaI hr5 (by decide) h11)) fun a hF=>?_
            refine ls<|q1 hF rfl (e_fa hF fa83_0 rfl) fun a hF=>?_
            refine ls<|q1 hF rfl (e_ld hF Tryz.isAgg3 rfl (PH.le.cell (Lds.le (St.ld hS)) (hl14 0 _ rfl))) fun a hF=>?_
            refine ls<|c1 hF rfl Tryz.call47 (Z1m_c _ (hp_le _) h30) ⟨rfl,trivial⟩ (fun v w a hR hF=>?_)
            obtain ⟨rfl,hk⟩:=hR
            replace hS:=hS.pass hk
            clear hk
            refine ls<|q1 hF rfl (e_catU hF rfl rfl h32) fun a hF=>?_
            refine ls<|q1 hF rfl (e_catU hF rfl rfl h34) fun a hF=>?_
            refine ls<|q1 hF rfl (e_asg hF rfl) fun a hF=>?_
            refine re<|?_
            refine bn<|tn<|?_
            exact ⟨s33,hm,hF.has ⟨rfl,rfl,rfl,trivial⟩,hS⟩
      clear hm hF hS
      rintro a w ⟨vC1,hm,hF,hS⟩
      unfold Z3r at hm
      refine rg<|?_
      refine ls<|q1 hF rfl (e_move hF rfl) fun a hF=>?_
      refine ls<|q1 hF rfl (e_add hF rfl rfl) fun a hF=>?_
      refine ls<|q1 hF rfl (e_asg hF rfl) fun a hF=>?_
      refine re<|?_
      refine tn<|?_
      exact ⟨(nn2,vC1,(IntKind.i64.wrap (vB2+1))),⟨hm,hF.has ⟨rfl,rfl,rfl,trivial⟩,hS⟩,Nat.lt_succ_self _⟩
    ·
      replace hm:=itp_f hm hb6
      refine tn<|cfv hF rfl hb6<|?_
      refine we<|tx<|tx<|bx<|?_
      refine tn<|?_
      exact ⟨vB1,hm,hF.has ⟨rfl,trivial⟩,hS⟩
  clear hm hF hS
  rintro a w ⟨vA1,hm,hF,hS⟩
  unfold Z3q at hm
  refine th<|th<|?_
  refine rg<|?_
  refine ls<|q1 hF rfl (e_move hF rfl) fun a hF=>?_
  refine ls<|q1 hF rfl (e_eqlU (m:=vA1) (n:=[]) hF rfl rfl) fun a hF=>?_
  refine re<|?_
  rcases bdich (decide (vA1=[])) with hb35 | hb35
  ·
    replace hm:=itp_t hm hb35
    refine tn<|ctv hF rfl hb35<|th<|?_
    refine rg<|?_
    refine ls<|q1 hF rfl (e_asg hF rfl) fun a hF=>?_
    refine re<|?_
    refine tn<|?_
    refine wr<|tr<|?_
    obtain rfl:=Option.some.inj hm
    exact r1 hF Tryz.results48 rfl ⟨rfl,hS.keep⟩
  ·
    replace hm:=itp_f hm hb35
    refine tn<|cfv hF rfl hb35<|wk<|?_
    refine tn<|th<|?_
    replace hm:=bind_some hm
    obtain ⟨s36,h37,hm⟩:=hm
    replace hm:=bind_some hm
    obtain ⟨s38,h39,hm⟩:=hm
    refine rg<|?_
    refine ls<|q1 hF rfl (e_move hF rfl) fun a hF=>?_
    refine ls<|q1 hF rfl (e_catU hF rfl rfl h37) fun a hF=>?_
    refine ls<|q1 hF rfl (e_catU hF rfl rfl h39) fun a hF=>?_
    refine ls<|q1 hF rfl (e_asg hF rfl) fun a hF=>?_
    refine re<|?_
    refine tn<|?_
    refine wr<|?_
    obtain rfl:=Option.some.inj hm
    exact r1 hF Tryz.results48 rfl ⟨rfl,hS.keep⟩
set_option maxRecDepth 100000 in
theorem Z3f_c {N:Nat} {w0:World} {H:PH} (hH:H.le w0) {cs2:List Value} {p1:api_Code} (g3:Enc.rep H cs2 p1) {r:Str} (hm:Z3f N p1=some r):Tot Tryz.prog 16 #[.agg cs2.toArray] w0 (fun v w'=>v=strv r∧Keep Nil w0 w'):=by
  unfold Z3f at hm
  refine fn0 (args:=[.agg cs2.toArray]) (F:=[(0,.agg cs2.toArray)]) Tryz.func16 rfl Tryz.ntmps16 rfl rfl fun a hF=>?_
  have hS:St w0 Nil [H] [] w0:=start1 hH
  obtain ⟨oa4,cap5,rfl,hc6,hr7⟩:=api_Code_open g3
  refine th<|?_
  refine rg<|?_
  refine ls<|a_box (cs:=[.int .i64 p1.Regs,.int .i64 p1.Counts,.slice oa4 p1.L.length cap5].toArray) hF rfl hS rfl rfl fun b8 w a hS hF=>?_
  refine ls<|q1 hF rfl (e_asg hF rfl) fun a hF=>?_
  refine re<|?_
  refine tn<|th<|?_
  refine rg<|?_
  refine ls<|q1 hF rfl (e_asg hF rfl) fun a hF=>?_
  refine re<|?_
  refine tn<|th<|th<|?_
  refine rg<|?_
  refine ls<|q1 hF rfl (e_asg hF rfl) fun a hF=>?_
  refine re<|?_
  refine tn<|midK (fun a w=>∃ (vA1:Str),Z3g vA1=some r∧Fr 52 [(3,strv vA1)] a∧St w0 Nil [H] [] w) ?_ ?_
  ·
    refine wb<|lp (α:=Nat×Str×Int) (fun (gh:Nat×Str×Int) a w=>match gh with | (nn2,vB1,vB2)=>(Z3h N Z3g p1) nn2 vB1 vB2=some r∧Fr 52 [(1,.pointer (some ⟨b8,0,none⟩)),(3,strv vB1),(4,.int .i64 vB2)] a∧St w0 Nil [H] [blk b8 (.cells [.int .i64 p1.Regs,.int .i64 p1.Counts,.slice oa4 p1.L.length cap5].toArray 26 (0,0))] w) (fun gh=>gh.1) (N,[],0) ⟨hm,hF.has ⟨rfl,rfl,rfl,trivial⟩,hS⟩ ?_
    clear hm hF hS
    rintro ⟨nn2,vB1,vB2⟩ a w ⟨hm,hF,hS⟩
    obtain _ | nn2:=nn2
    · simp [Z3h] at hm
    rw [Z3h] at hm
    refine th<|th<|?_
    refine rg<|?_
    refine ls<|q1 hF rfl (e_move hF rfl) fun a hF=>?_
    refine ls<|q1 hF rfl (e_fa hF fa26_2 rfl) fun a hF=>?_
    refine ls<|q1 hF rfl (e_ld hF Tryz.isAgg24 rfl ((St.ld hS).cellB (.head _) rfl)) fun a hF=>?_
    refine ls<|q1 hF rfl (e_lenL (α:=api_Instr) (xs:=p1.L) hF Tryz.runUnderlying24 rfl) fun a hF=>?_
    refine ls<|q1 hF rfl (e_lss hF rfl rfl) fun a hF=>?_
    refine re<|?_
    rcases bdich (decide (vB2 < (p1.L.length:Int))) with hb9 | hb9
    ·
      replace hm:=itp_t hm hb9
      refine tn<|ctv hF rfl hb9<|wk<|?_
      refine tn<|th<|wb<|th<|?_
      replace hm:=bind_some hm
      obtain ⟨x10,h11,hm⟩:=hm
      obtain ⟨c12,g13,hl14⟩:=SR.get hr7 h11
      obtain ⟨oa15,cap16,oa19,cap20,rfl,hc17,hr18,hc21,hr22⟩:=api_Instr_open g13
      refine rg<|?_
      refine ls<|q1 hF rfl (e_fa hF fa26_2 rfl) fun a hF=>?_
      refine ls<|q1 hF rfl (e_ld hF Tryz.isAgg24 rfl ((St.ld hS).cellB (.head _) rfl)) fun a hF=>?_
      refine ls<|q1 hF rfl (e_move hF rfl) fun a hF=>?_
      refine ls<|q1 hF rfl (e_iaI hF Tryz.runUnderlying24 Tryz.sizeOf85 rfl rfl h11 (SR.oaI hr7 (by decide) h11)) fun a hF=>?_
      refine ls<|q1 hF rfl (e_ldA hF Tryz.isAgg85 Tryz.sizeOf85 rfl rfl (fun j v hj=>PH.le.cell (Lds.le (St.ld hS)) (hl14 j v hj))) fun a hF=>?_
      refine ls<|a_alloc (cs:=[.int .i64 0,.int .i64 0,.int .i64 0,.slice none 0 0,.slice none 0 0,.int .i64 0].toArray) hF rfl hS Tryz.zeroValue85 rfl fun b23 w a hS hF=>?_
      refine ls<|s_blkA hF hS Tryz.sizeOf85 rfl rfl rfl rfl (one_cells rfl) .head fun w hS=>?_
      refine re<|?_
      refine tn<|?_
      replace hm:=bind_some hm
      obtain ⟨r24,h25,hm⟩:=hm
      replace hm:=bind_some hm
      obtain ⟨s26,h27,hm⟩:=hm
      replace hm:=bind_some hm
      obtain ⟨r28,h29,hm⟩:=hm
      replace hm:=bind_some hm
      obtain ⟨s30,h31,hm⟩:=hm
      replace hm:=bind_some hm
      obtain ⟨s32,h33,hm⟩:=hm
      replace hm:=bind_some hm
      obtain ⟨r34,h35,hm⟩:=hm
      replace hm:=bind_some hm
      obtain ⟨s36,h37,hm⟩:=hm
      replace hm:=bind_some hm
      obtain ⟨s38,h39,hm⟩:=hm
      replace hm:=bind_some hm
      obtain ⟨r40,h41,hm⟩:=hm
      replace hm:=bind_some hm
      obtain ⟨s42,h43,hm⟩:=hm
      replace hm:=bind_some hm
      obtain ⟨s44,h45,hm⟩:=hm
      replace hm:=bind_some hm
      obtain ⟨r46,h47,hm⟩:=hm
      replace hm:=bind_some hm
      obtain ⟨s48,h49,hm⟩:=hm
      replace hm:=bind_some hm
      obtain ⟨r50,h51,hm⟩:=hm
      replace hm:=bind_some hm
      obtain ⟨s52,h53,hm⟩:=hm
      replace hm:=bind_some hm
      obtain ⟨r54,h55,hm⟩:=hm
      replace hm:=bind_some hm
      obtain ⟨s56,h57,hm⟩:=hm
      replace hm:=bind_some hm
      obtain ⟨s58,h59,hm⟩:=hm
      replace hm:=bind_some hm
      obtain ⟨s60,h61,hm⟩:=hm
      refine rdS 34 hS wide fun w hS=>?_
      refine d1 (i:=0) rfl (by kernel_rfl) (by kernel_rfl) (St.ld hS) hF rfl (fun _ _ _ h=>h) (fun w hl=>(e_move hF rfl)) fun a hF=>?_
      refine d1 (i:=1) rfl (by kernel_rfl) (by kernel_rfl) (St.ld hS) hF rfl (fun _ _ _ h=>h) (fun w hl=>(e_move hF rfl)) fun a hF=>?_
      refine d1 (i:=4) rfl (by kernel_rfl) (by kernel_rfl) (St.ld hS) hF rfl (fun _ _ _ h=>h) (fun w hl=>(e_fa hF fa85_0 rfl)) fun a hF=>?_
      refine d1 (i:=5) rfl (by kernel_rfl) (by kernel_rfl) (St.ld hS) hF rfl (fun _ _ _ h=>h) (fun w hl=>(e_ld hF Tryz.isAgg3 rfl (hl.cellB (.head _) rfl))) fun a hF=>?_
      refine d1 (i:=9) rfl (by kernel_rfl) (by kernel_rfl) (St.ld hS) hF rfl (fun _ _ _ h=>h) (fun w hl=>(e_fa hF fa85_1 rfl)) fun a hF=>?_
      refine d1 (i:=10) rfl (by kernel_rfl) (by kernel_rfl) (St.ld hS) hF rfl (fun _ _ _ h=>h) (fun w hl=>(e_ld hF Tryz.isAgg3 rfl (hl.cellB (.head _) rfl))) fun a hF=>?_
      refine d1 (i:=14) rfl (by kernel_rfl) (by kernel_rfl) (St.ld hS) hF rfl (fun _ _ _ h=>h) (fun w hl=>(e_fa hF fa85_2 rfl)) fun a hF=>?_
      refine d1 (i:=15) rfl (by kernel_rfl) (by kernel_rfl) (St.ld hS) hF rfl (fun _ _ _ h=>h) (fun w hl=>(e_ld hF Tryz.isAgg3 rfl (hl.cellB (.head _) rfl))) fun a hF=>?_
      refine d1 (i:=19) rfl (by kernel_rfl) (by kernel_rfl) (St.ld hS) hF rfl (fun _ _ _ h=>h) (fun w hl=>(e_fa hF fa85_5 rfl)) fun a hF=>?_
      refine d1 (i:=20) rfl (by kernel_rfl) (by kernel_rfl) (St.ld hS) hF rfl (fun _ _ _ h=>h) (fun w hl=>(e_ld hF Tryz.isAgg3 rfl (hl.cellB (.head _) rfl))) fun a hF=>?_
      refine d1 (i:=23) rfl (by kernel_rfl) (by kernel_rfl) (St.ld hS) hF rfl (fun _ _ _ h=>h) (fun w hl=>(e_fa hF fa85_3 rfl)) fun a hF=>?_
      refine d1 (i:=24) rfl (by kernel_rfl) (by kernel_rfl) (St.ld hS) hF rfl (fun _ _ _ h=>h) (fun w hl=>(e_ld hF Tryz.isAgg54 rfl (hl.cellB (.head _) rfl))) fun a hF=>?_
      refine d1 (i:=27) rfl (by kernel_rfl) (by kernel_rfl) (St.ld hS) hF rfl (fun _ _ _ h=>h) (fun w hl=>(e_fa hF fa85_4 rfl)) fun a hF=>?_
      refine d1 (i:=28) rfl (by kernel_rfl) (by kernel_rfl) (St.ld hS) hF rfl (fun _ _ _ h=>h) (fun w hl=>(e_ld hF Tryz.isAgg54 rfl (hl.cellB (.head _) rfl))) fun a hF=>?_
      refine da1 (i:=2) (by kernel_rfl) ?_
      refine di (i:=2) rfl<|c1 hF rfl Tryz.call47 (Z1m_c _ (hp_le _) h25) ⟨rfl,trivial⟩ (fun v w a hR hF=>?_)
      obtain ⟨rfl,hk⟩:=hR
      replace hS:=hS.pass hk
      clear hk
      refine ⟨fun _=>(St.ld hS),?_⟩
      refine d1 (i:=3) rfl (by kernel_rfl) (by kernel_rfl) (St.ld hS) hF rfl (fun _ _ _ h=>h) (fun w hl=>(e_catU hF rfl rfl h27)) fun a hF=>?_
      refine da1 (i:=6) (by kernel_rfl) ?_
      refine di (i:=6) rfl<|c1 hF rfl Tryz.call18 (Z3i_c (hp_le _) h29) ⟨rfl,trivial⟩ (fun v w a hR hF=>?_)
      obtain ⟨rfl,hk⟩:=hR
      replace hS:=hS.pass hk
      clear hk
      refine ⟨fun _=>(St.ld hS),?_⟩
      refine d1 (i:=7) rfl (by kernel_rfl) (by kernel_rfl) (St.ld hS) hF rfl (fun _ _ _ h=>h) (fun w hl=>(e_catU hF rfl rfl h31)) fun a hF=>?_
      refine d1 (i:=8) rfl (by kernel_rfl) (by kernel_rfl) (St.ld hS) hF rfl (fun _ _ _ h=>h) (fun w hl=>(e_catU hF rfl rfl h33)) fun a hF=>?_
      refine da1 (i:=11) (by kernel_rfl) ?_
      refine di (i:=11) rfl<|c1 hF rfl Tryz.call47 (Z1m_c _ (hp_le _) h35) ⟨rfl,trivial⟩ (fun v w a hR hF=>?_)
      obtain ⟨rfl,hk⟩:=hR
      replace hS:=hS.pass hk
      clear hk
      refine ⟨fun _=>(St.ld hS),?_⟩
      refine d1 (i:=12) rfl (by kernel_rfl) (by kernel_rfl) (St.ld hS) hF rfl (fun _ _ _ h=>h) (fun w hl=>(e_catU hF rfl rfl h37)) fun a hF=>?_
      refine d1 (i:=13) rfl (by kernel_rfl) (by kernel_rfl) (St.ld hS) hF rfl (fun _ _ _ h=>h) (fun w hl=>(e_catU hF rfl rfl h39)) fun a hF=>?_
      refine da1 (i:=16) (by kernel_rfl) ?_
      refine di (i:=16) rfl<|c1 hF rfl Tryz.call47 (Z1m_c _ (hp_le _) h41) ⟨rfl,trivial⟩ (fun v w a hR hF=>?_)
      obtain ⟨rfl,hk⟩:=hR
      replace hS:=hS.pass hk
      clear hk
      refine ⟨fun _=>(St.ld hS),?_⟩
      refine d1 (i:=17) rfl (by kernel_rfl) (by kernel_rfl) (St.ld hS) hF rfl (fun _ _ _ h=>h) (fun w hl=>(e_catU hF rfl rfl h43)) fun a hF=>?_
      refine d1 (i:=18) rfl (by kernel_rfl) (by kernel_rfl) (St.ld hS) hF rfl (fun _ _ _ h=>h) (fun w hl=>(e_catU hF rfl rfl h45)) fun a hF=>?_
      refine da1 (i:=21) (by kernel_rfl) ?_
      refine di (i:=21) rfl<|c1 hF rfl Tryz.call47 (Z1m_c _ (hp_le _) h47) ⟨rfl,trivial⟩ (fun v w a hR hF=>?_)
      obtain ⟨rfl,hk⟩:=hR
      replace hS:=hS.pass hk
      clear hk
      refine ⟨fun _=>(St.ld hS),?_⟩
      refine d1 (i:=22) rfl (by kernel_rfl) (by kernel_rfl) (St.ld hS) hF rfl (fun _ _ _ h=>h) (fun w hl=>(e_catU hF rfl rfl h49)) fun a hF=>?_
      refine da1 (i:=25) (by kernel_rfl) ?_
      refine di (i:=25) rfl<|c1 hF rfl Tryz.call48 (Z3p_c (hp_le _) hc17 (St.srH hS hr18) h51) ⟨rfl,trivial⟩ (fun v w a hR hF=>?_)
      obtain ⟨rfl,hk⟩:=hR
      replace hS:=hS.pass hk
      clear hk
      refine ⟨fun _=>(St.ld hS),?_⟩
      refine d1 (i:=26) rfl (by kernel_rfl) (by kernel_rfl) (St.ld hS) hF rfl (fun _ _ _ h=>h) (fun w hl=>(e_catU hF rfl rfl h53)) fun a hF=>?_
      refine da1 (i:=29) (by kernel_rfl) ?_
      refine di (i:=29) rfl<|c1 hF rfl Tryz.call48 (Z3p_c (hp_le _) hc21 (St.srH hS hr22) h55) ⟨rfl,trivial⟩ (fun v w a hR hF=>?_)
      obtain ⟨rfl,hk⟩:=hR
      replace hS:=hS.pass hk
      clear hk
      refine ⟨fun _=>(St.ld hS),?_⟩
      refine d1 (i:=30) rfl (by kernel_rfl) (by kernel_rfl) (St.ld hS) hF rfl (fun _ _ _ h=>h) (fun w hl=>(e_catU hF rfl rfl h57)) fun a hF=>?_
      refine d1 (i:=31) rfl (by kernel_rfl) (by kernel_rfl) (St.ld hS) hF rfl (fun _ _ _ h=>h) (fun w hl=>(e_catU hF rfl rfl h59)) fun a hF=>?_
      refine d1 (i:=32) rfl (by kernel_rfl) (by kernel_rfl) (St.ld hS) hF rfl (fun _ _ _ h=>h) (fun w hl=>(e_catU hF rfl rfl h61)) fun a hF=>?_
      refine d1 (i:=33) rfl (by kernel_rfl) (by kernel_rfl) (St.ld hS) hF rfl (fun _ _ _ h=>h) (fun w hl=>(e_asg hF rfl)) fun a hF=>?_
      refine de (by kernel_rfl)<|?_
      refine bn<|tn<|?_
      refine rg<|?_
      refine ls<|q1 hF rfl (e_move hF rfl) fun a hF=>?_
      refine ls<|q1 hF rfl (e_add hF rfl rfl) fun a hF=>?_
      refine ls<|q1 hF rfl (e_asg hF rfl) fun a hF=>?_
      refine re<|?_
      refine tn<|?_
      replace hS:=hS.pickL (.cons (.tail .head) .nil)
      exact ⟨(nn2,s60,(IntKind.i64.wrap (vB2+1))),⟨hm,hF.has ⟨rfl,rfl,rfl,trivial⟩,hS⟩,Nat.lt_succ_self _⟩
    ·
      replace hm:=itp_f hm hb9
      refine tn<|cfv hF rfl hb9<|?_
      refine we<|tx<|tx<|bx<|?_
      refine tn<|?_
      replace hS:=hS.pickL .nil
      exact ⟨vB1,hm,hF.has ⟨rfl,trivial⟩,hS⟩
  clear hm hF hS
  rintro a w ⟨vA1,hm,hF,hS⟩
  unfold Z3g at hm
  refine th<|?_
  refine rg<|?_
  refine ls<|q1 hF rfl (e_move hF rfl) fun a hF=>?_
  refine ls<|q1 hF rfl (e_asg hF rfl) fun a hF=>?_
  refine re<|?_
  refine tn<|?_
  refine wr<|?_
  obtain rfl:=Option.some.inj hm
  exact r1 hF Tryz.results16 rfl ⟨rfl,hS.keep⟩
set_option maxRecDepth 100000 in
theorem Z1k_c {N:Nat} {w0:World} {H:PH} (hH:H.le w0) (hT:Tab H) {cs2:List Value} {p1:api_Code} (g3:Enc.rep H cs2 p1) {p4:Int} {r:Bool} (hm:Z1k N p1 p4=some r):Tot Tryz.prog 4 #[.agg cs2.toArray,.int .i64 p4] w0 (fun v w'=>v=.bool r∧Keep Nil w0 w'):=by
  unfold Z1k at hm
  refine fn0 (args:=[.agg cs2.toArray,.int .i64 p4]) (F:=[(0,.agg cs2.toArray),(1,.int .i64 p4)]) Tryz.func4 rfl Tryz.ntmps4 rfl rfl fun a hF=>?_
  have hS:St w0 Nil [H] [] w0:=start1 hH
  obtain ⟨oa5,cap6,rfl,hc7,hr8⟩:=api_Code_open g3
  refine th<|?_
  refine rg<|?_
  refine ls<|a_box (cs:=[.int .i64 p1.Regs,.int .i64 p1.Counts,.slice oa5 p1.L.length cap6].toArray) hF rfl hS rfl rfl fun b9 w a hS hF=>?_
  refine ls<|q1 hF rfl (e_asg hF rfl) fun a hF=>?_
  refine re<|?_
  refine tn<|th<|?_
  replace hm:=bind_some hm
  obtain ⟨r10,h11,hm⟩:=hm
  refine rg<|?_
  refine ls<|q1 hF rfl (e_ldA hF Tryz.isAgg26 Tryz.sizeOf26 rfl rfl ((St.ld hS).cellsB (.head _))) fun a hF=>?_
  refine ls<|c1 hF rfl Tryz.call14 (Z1h_c (St.le hS) (show Enc.rep (α:=api_Code) H [.int .i64 p1.Regs,.int .i64 p1.Counts,.slice oa5 p1.L.length cap6] p1 from ⟨_,_,rfl,rfl,⟨_,_,rfl,rfl,⟨_,_,rfl,hc7,hr8⟩⟩⟩) h11) ⟨rfl,trivial⟩ (fun v w a hR hF=>?_)
  obtain ⟨H15,cs16,rfl,g17,hx12,hl13,hk⟩:=hR
  obtain ⟨hS,hx12⟩:=And.intro (St.passH hS hk hx12 hl13) (St.extc hS hx12)
  clear hk
  obtain ⟨oa18,cap19,rfl,hc20,hr21⟩:=api_Code_open g17
  refine ls<|s_blkA hF hS Tryz.sizeOf26 rfl rfl rfl rfl (one_cells rfl) .head fun w hS=>?_
  refine re<|?_
  refine tn<|th<|?_
  replace hm:=bind_some hm
  obtain ⟨r22,h23,hm⟩:=hm
  replace hm:=bind_some hm
  obtain ⟨r24,h25,hm⟩:=hm
  rcases bdich (decide (r22=r24)) with hb26 | hb26
  ·
    replace hm:=itp_t hm hb26
    replace hm:=bind_some hm
    obtain ⟨r27,h28,hm⟩:=hm
    replace hm:=bind_some hm
    obtain ⟨r29,h30,hm⟩:=hm
    rcases bdich (decide (r27=r29)) with hb31 | hb31
    ·
      replace hm:=itp_t hm hb31
      replace hm:=bind_some hm
      obtain ⟨r32,h33,hm⟩:=hm
      refine rdS 16 hS wide fun w hS=>?_
      refine d1 (i:=0) rfl (by kernel_rfl) (by kernel_rfl) (St.ld hS) hF rfl (fun _ _ _ h=>h) (fun w hl=>(e_ldA hF Tryz.isAgg26 Tryz.sizeOf26 rfl rfl (hl.cellsB (.head _)))) fun a hF=>?_
      refine d1 (i:=2) rfl (by kernel_rfl) (by kernel_rfl) (St.ld hS) hF rfl (fun _ _ _ h=>h) (fun w hl=>(e_ldA hF Tryz.isAgg26 Tryz.sizeOf26 rfl rfl (hl.cellsB (.head _)))) fun a hF=>?_
      refine da1 (i:=1) (by kernel_rfl) ?_
      refine di (i:=1) rfl<|c1 hF rfl Tryz.call15 (Zd_c (hp_le _) (Tab.mono (Tab.mono hT hx12.sub) (St.up hS)) (Enc.mono (St.up hS) (show Enc.rep (α:=api_Code) H15 [.int .i64 r10.Regs,.int .i64 r10.Counts,.slice oa18 r10.L.length cap19] r10 from ⟨_,_,rfl,rfl,⟨_,_,rfl,rfl,⟨_,_,rfl,hc20,hr21⟩⟩⟩)) h23) ⟨rfl,trivial⟩ (fun v w a hR hF=>?_)
      obtain ⟨rfl,hk⟩:=hR
      replace hS:=hS.pass hk
      clear hk
      refine ⟨fun _=>(St.ld hS),?_⟩
      refine da1 (i:=3) (by kernel_rfl) ?_
      refine di (i:=3) rfl<|c1 hF rfl Tryz.call16 (Z3f_c (hp_le _) (Enc.mono (St.up hS) (show Enc.rep (α:=api_Code) H15 [.int .i64 r10.Regs,.int .i64 r10.Counts,.slice oa18 r10.L.length cap19] r10 from ⟨_,_,rfl,rfl,⟨_,_,rfl,rfl,⟨_,_,rfl,hc20,hr21⟩⟩⟩)) h25) ⟨rfl,trivial⟩ (fun v w a hR hF=>?_)
      obtain ⟨rfl,hk⟩:=hR
      replace hS:=hS.pass hk
      clear hk
      refine ⟨fun _=>(St.ld hS),?_⟩
      refine d1 (i:=4) rfl (by kernel_rfl) (by kernel_rfl) (St.ld hS) hF rfl (fun _ _ _ h=>h) (fun w hl=>(e_eqlU (m:=r22) (n:=r24) hF rfl rfl)) fun a hF=>?_
      refine d1 (i:=5) rfl (by kernel_rfl) (by kernel_rfl) (St.ld hS) hF rfl (fun _ _ _ h=>h) (fun w hl=>(e_as (e_move hF rfl) (congrArg Value.bool hb26))) fun a hF=>?_
      refine d1g (i:=6) rfl (by kernel_rfl) (by kernel_rfl) (St.ld hS) hF rfl rfl rfl (fun _ _ _ h=>h) (fun w hl=>(e_move hF rfl)) fun a hF=>?_
      refine d1g (i:=8) rfl (by kernel_rfl) (by kernel_rfl) (St.ld hS) hF rfl rfl rfl (fun _ _ _ h=>h) (fun w hl=>(e_move hF rfl)) fun a hF=>?_
      refine da1 (i:=7) (by kernel_rfl) ?_
      refine di (i:=7) rfl<|gy hF rfl rfl<|c1 hF rfl Tryz.call17 (Zg_c (hp_le _) (Tab.mono (Tab.mono hT hx12.sub) (St.up hS)) h28) ⟨rfl,trivial⟩ (fun v w a hR hF=>?_)
      obtain ⟨rfl,hk⟩:=hR
      replace hS:=hS.pass hk
      clear hk
      refine ⟨fun _=>(St.ld hS),?_⟩
      refine da1 (i:=9) (by kernel_rfl) ?_
      refine di (i:=9) rfl<|gy hF rfl rfl<|c1 hF rfl Tryz.call18 (Z3i_c (hp_le _) h30) ⟨rfl,trivial⟩ (fun v w a hR hF=>?_)
      obtain ⟨rfl,hk⟩:=hR
      replace hS:=hS.pass hk
      clear hk
      refine ⟨fun _=>(St.ld hS),?_⟩
      refine d1g (i:=10) rfl (by kernel_rfl) (by kernel_rfl) (St.ld hS) hF rfl rfl rfl (fun _ _ _ h=>h) (fun w hl=>(e_eqlU (m:=r27) (n:=r29) hF rfl rfl)) fun a hF=>?_
      refine d1 (i:=11) rfl (by kernel_rfl) (by kernel_rfl) (St.ld hS) hF rfl (fun _ _ _ h=>h) (fun w hl=>(e_pickT hF rfl rfl)) fun a hF=>?_
      refine d1 (i:=12) rfl (by kernel_rfl) (by kernel_rfl) (St.ld hS) hF rfl (fun _ _ _ h=>h) (fun w hl=>(e_as (e_move hF rfl) (congrArg Value.bool hb31))) fun a hF=>?_
      refine da1 (i:=13) (by kernel_rfl) ?_
      refine di (i:=13) rfl<|gy hF rfl rfl<|c1 hF rfl Tryz.call13 (Z1l_c (hp_le _) (Tab.mono (Tab.mono hT hx12.sub) (St.up hS)) h33) trivial (fun v w a hR hF=>?_)
      obtain ⟨rfl,hk⟩:=hR
      replace hS:=hS.pass hk
      clear hk
      refine ⟨fun _=>(St.ld hS),?_⟩
      refine d1 (i:=14) rfl (by kernel_rfl) (by kernel_rfl) (St.ld hS) hF rfl (fun _ _ _ h=>h) (fun w hl=>(e_pickT hF rfl rfl)) fun a hF=>?_
      refine d1 (i:=15) rfl (by kernel_rfl) (by kernel_rfl) (St.ld hS) hF rfl (fun _ _ _ h=>h) (fun w hl=>(e_asg hF rfl)) fun a hF=>?_
      refine de (by kernel_rfl)<|?_
      refine tn<|?_
      refine wr<|?_
      obtain rfl:=Option.some.inj hm
      exact r1 hF Tryz.results4 rfl ⟨rfl,hS.keep⟩
    ·
      replace hm:=itp_f hm hb31
      refine rdS 16 hS wide fun w hS=>?_
      refine d1 (i:=0) rfl (by kernel_rfl) (by kernel_rfl) (St.ld hS) hF rfl (fun _ _ _ h=>h) (fun w hl=>(e_ldA hF Tryz.isAgg26 Tryz.sizeOf26 rfl rfl (hl.cellsB (.head _)))) fun a hF=>?_
      refine d1 (i:=2) rfl (by kernel_rfl) (by kernel_rfl) (St.ld hS) hF rfl (fun _ _ _ h=>h) (fun w hl=>(e_ldA hF Tryz.isAgg26 Tryz.sizeOf26 rfl rfl (hl.cellsB (.head _)))) fun a hF=>?_
      refine da1 (i:=1) (by kernel_rfl) ?_
      refine di (i:=1) rfl<|c1 hF rfl Tryz.call15 (Zd_c (hp_le _) (Tab.mono (Tab.mono hT hx12.sub) (St.up hS)) (Enc.mono (St.up hS) (show Enc.rep (α:=api_Code) H15 [.int .i64 r10.Regs,.int .i64 r10.Counts,.slice oa18 r10.L.length cap19] r10 from ⟨_,_,rfl,rfl,⟨_,_,rfl,rfl,⟨_,_,rfl,hc20,hr21⟩⟩⟩)) h23) ⟨rfl,trivial⟩ (fun v w a hR hF=>?_)
      obtain ⟨rfl,hk⟩:=hR
      replace hS:=hS.pass hk
      clear hk
      refine ⟨fun _=>(St.ld hS),?_⟩
      refine da1 (i:=3) (by kernel_rfl) ?_
      refine di (i:=3) rfl<|c1 hF rfl Tryz.call16 (Z3f_c (hp_le _) (Enc.mono (St.up hS) (show Enc.rep (α:=api_Code) H15 [.int .i64 r10.Regs,.int .i64 r10.Counts,.slice oa18 r10.L.length cap19] r10 from ⟨_,_,rfl,rfl,⟨_,_,rfl,rfl,⟨_,_,rfl,hc20,hr21⟩⟩⟩)) h25) ⟨rfl,trivial⟩ (fun v w a hR hF=>?_)
      obtain ⟨rfl,hk⟩:=hR
      replace hS:=hS.pass hk
      clear hk
      refine ⟨fun _=>(St.ld hS),?_⟩
      refine d1 (i:=4) rfl (by kernel_rfl) (by kernel_rfl) (St.ld hS) hF rfl (fun _ _ _ h=>h) (fun w hl=>(e_eqlU (m:=r22) (n:=r24) hF rfl rfl)) fun a hF=>?_
      refine d1 (i:=5) rfl (by kernel_rfl) (by kernel_rfl) (St.ld hS) hF rfl (fun _ _ _ h=>h) (fun w hl=>(e_as (e_move hF rfl) (congrArg Value.bool hb26))) fun a hF=>?_
      refine d1g (i:=6) rfl (by kernel_rfl) (by kernel_rfl) (St.ld hS) hF rfl rfl rfl (fun _ _ _ h=>h) (fun w hl=>(e_move hF rfl)) fun a hF=>?_
      refine d1g (i:=8) rfl (by kernel_rfl) (by kernel_rfl) (St.ld hS) hF rfl rfl rfl (fun _ _ _ h=>h) (fun w hl=>(e_move hF rfl)) fun a hF=>?_
      refine da1 (i:=7) (by kernel_rfl) ?_
      refine di (i:=7) rfl<|gy hF rfl rfl<|c1 hF rfl Tryz.call17 (Zg_c (hp_le _) (Tab.mono (Tab.mono hT hx12.sub) (St.up hS)) h28) ⟨rfl,trivial⟩ (fun v w a hR hF=>?_)
      obtain ⟨rfl,hk⟩:=hR
      replace hS:=hS.pass hk
      clear hk
      refine ⟨fun _=>(St.ld hS),?_⟩
      refine da1 (i:=9) (by kernel_rfl) ?_
      refine di (i:=9) rfl<|gy hF rfl rfl<|c1 hF rfl Tryz.call18 (Z3i_c (hp_le _) h30) ⟨rfl,trivial⟩ (fun v w a hR hF=>?_)
      obtain ⟨rfl,hk⟩:=hR
      replace hS:=hS.pass hk
      clear hk
      refine ⟨fun _=>(St.ld hS),?_⟩
      refine d1g (i:=10) rfl (by kernel_rfl) (by kernel_rfl) (St.ld hS) hF rfl rfl rfl (fun _ _ _ h=>h) (fun w hl=>(e_eqlU (m:=r27) (n:=r29) hF rfl rfl)) fun a hF=>?_
      refine d1 (i:=11) rfl (by kernel_rfl) (by kernel_rfl) (St.ld hS) hF rfl (fun _ _ _ h=>h) (fun w hl=>(e_pickT hF rfl rfl)) fun a hF=>?_
      refine d1 (i:=12) rfl (by kernel_rfl) (by kernel_rfl) (St.ld hS) hF rfl (fun _ _ _ h=>h) (fun w hl=>(e_as (e_move hF rfl) (congrArg Value.bool hb31))) fun a hF=>?_
      refine d1n (i:=13) rfl (by kernel_rfl) (by kernel_rfl) (St.ld hS) hF rfl rfl rfl rfl (fun _ _ _ h=>h) fun a hF=>?_
      refine d1 (i:=14) rfl (by kernel_rfl) (by kernel_rfl) (St.ld hS) hF rfl (fun _ _ _ h=>h) (fun w hl=>(e_pickF hF rfl rfl)) fun a hF=>?_
      refine d1 (i:=15) rfl (by kernel_rfl) (by kernel_rfl) (St.ld hS) hF rfl (fun _ _ _ h=>h) (fun w hl=>(e_asg hF rfl)) fun a hF=>?_
      refine de (by kernel_rfl)<|?_
      refine tn<|?_
      refine wr<|?_
      obtain rfl:=Option.some.inj hm
      exact r1 hF Tryz.results4 rfl ⟨rfl,hS.keep⟩
  ·
    replace hm:=itp_f hm hb26
    refine rdS 16 hS wide fun w hS=>?_
    refine d1 (i:=0) rfl (by kernel_rfl) (by kernel_rfl) (St.ld hS) hF rfl (fun _ _ _ h=>h) (fun w hl=>(e_ldA hF Tryz.isAgg26 Tryz.sizeOf26 rfl rfl (hl.cellsB (.head _)))) fun a hF=>?_
    refine d1 (i:=2) rfl (by kernel_rfl) (by kernel_rfl) (St.ld hS) hF rfl (fun _ _ _ h=>h) (fun w hl=>(e_ldA hF Tryz.isAgg26 Tryz.sizeOf26 rfl rfl (hl.cellsB (.head _)))) fun a hF=>?_
    refine da1 (i:=1) (by kernel_rfl) ?_
    refine di (i:=1) rfl<|c1 hF rfl Tryz.call15 (Zd_c (hp_le _) (Tab.mono (Tab.mono hT hx12.sub) (St.up hS)) (Enc.mono (St.up hS) (show Enc.rep (α:=api_Code) H15 [.int .i64 r10.Regs,.int .i64 r10.Counts,.slice oa18 r10.L.length cap19] r10 from ⟨_,_,rfl,rfl,⟨_,_,rfl,rfl,⟨_,_,rfl,hc20,hr21⟩⟩⟩)) h23) ⟨rfl,trivial⟩ (fun v w a hR hF=>?_)
    obtain ⟨rfl,hk⟩:=hR
    replace hS:=hS.pass hk
    clear hk
    refine ⟨fun _=>(St.ld hS),?_⟩
    refine da1 (i:=3) (by kernel_rfl) ?_
    refine di (i:=3) rfl<|c1 hF rfl Tryz.call16 (Z3f_c (hp_le _) (Enc.mono (St.up hS) (show Enc.rep (α:=api_Code) H15 [.int .i64 r10.Regs,.int .i64 r10.Counts,.slice oa18 r10.L.length cap19] r10 from ⟨_,_,rfl,rfl,⟨_,_,rfl,rfl,⟨_,_,rfl,hc20,hr21⟩⟩⟩)) h25) ⟨rfl,trivial⟩ (fun v w a hR hF=>?_)
    obtain ⟨rfl,hk⟩:=hR
    replace hS:=hS.pass hk
    clear hk
    refine ⟨fun _=>(St.ld hS),?_⟩
    refine d1 (i:=4) rfl (by kernel_rfl) (by kernel_rfl) (St.ld hS) hF rfl (fun _ _ _ h=>h) (fun w hl=>(e_eqlU (m:=r22) (n:=r24) hF rfl rfl)) fun a hF=>?_
    refine d1 (i:=5) rfl (by kernel_rfl) (by kernel_rfl) (St.ld hS) hF rfl (fun _ _ _ h=>h) (fun w hl=>(e_as (e_move hF rfl) (congrArg Value.bool hb26))) fun a hF=>?_
    refine d1n (i:=6) rfl (by kernel_rfl) (by kernel_rfl) (St.ld hS) hF rfl rfl rfl rfl (fun _ _ _ h=>h) fun a hF=>?_
    refine d1n (i:=7) rfl (by kernel_rfl) (by kernel_rfl) (St.ld hS) hF rfl rfl rfl rfl (fun _ _ _ h=>h) fun a hF=>?_
    refine d1n (i:=8) rfl (by kernel_rfl) (by kernel_rfl) (St.ld hS) hF rfl rfl rfl rfl (fun _ _ _ h=>h) fun a hF=>?_
    refine d1n (i:=9) rfl (by kernel_rfl) (by kernel_rfl) (St.ld hS) hF rfl rfl rfl rfl (fun _ _ _ h=>h) fun a hF=>?_
    refine d1n (i:=10) rfl (by kernel_rfl) (by kernel_rfl) (St.ld hS) hF rfl rfl rfl rfl (fun _ _ _ h=>h) fun a hF=>?_
    refine d1 (i:=11) rfl (by kernel_rfl) (by kernel_rfl) (St.ld hS) hF rfl (fun _ _ _ h=>h) (fun w hl=>(e_pickF hF rfl rfl)) fun a hF=>?_
    refine d1 (i:=12) rfl (by kernel_rfl) (by kernel_rfl) (St.ld hS) hF rfl (fun _ _ _ h=>h) (fun w hl=>(e_move hF rfl)) fun a hF=>?_
    refine d1n (i:=13) rfl (by kernel_rfl) (by kernel_rfl) (St.ld hS) hF rfl rfl rfl rfl (fun _ _ _ h=>h) fun a hF=>?_
    refine d1 (i:=14) rfl (by kernel_rfl) (by kernel_rfl) (St.ld hS) hF rfl (fun _ _ _ h=>h) (fun w hl=>(e_pickF hF rfl rfl)) fun a hF=>?_
    refine d1 (i:=15) rfl (by kernel_rfl) (by kernel_rfl) (St.ld hS) hF rfl (fun _ _ _ h=>h) (fun w hl=>(e_asg hF rfl)) fun a hF=>?_
    refine de (by kernel_rfl)<|?_
    refine tn<|?_
    refine wr<|?_
    obtain rfl:=Option.some.inj hm
    exact r1 hF Tryz.results4 rfl ⟨rfl,hS.keep⟩
end Go.LM.BINZ
