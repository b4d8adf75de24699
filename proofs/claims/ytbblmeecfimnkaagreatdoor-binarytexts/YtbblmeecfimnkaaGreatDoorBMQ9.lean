/- Walks, lifted by program. No condition beyond the theorems' own premises. -/
import Derived.Test.YtbblmeecfimnkaaGreatDoorBMQ8
namespace Go.LM.BINZ
open Go Go.LL Go.MD Go.LM Go.Proofs Go.MD.BINZ
set_option maxRecDepth 100000
set_option maxHeartbeats 4000000 in
set_option maxRecDepth 100000 in
theorem Z1r_c {N:Nat} {w0:World} {H:PH} (hH:H.le w0) (hT:Tab H)  {r:Bool} (hm:Z1r N  = some r):Tot Tryz.prog 13 #[] w0 (fun v w'=>v=.bool r∧Keep Nil w0 w'):=by
  unfold Z1r at hm
  refine fn0 (args:=[]) (F:=[]) Tryz.func13 rfl Tryz.ntmps13 rfl rfl fun a hF=>?_
  have hS:St w0 Nil [H] [] w0:=start1 hH
  refine th<|?_
  refine rg<|?_
  refine ls<|q1 hF rfl (e_asg hF rfl) fun a hF=>?_
  refine re<|?_
  refine tn<|th<|?_
  refine rg<|?_
  refine ls<|q1 hF rfl (e_bldK [.int .i64 1,.int .i64 1] [.int .i64 1,.int .i64 1] hF ⟨rfl,rfl,trivial⟩ (fun w=>by kernel_rfl)) fun a hF=>?_
  refine ls<|q1 hF rfl (e_bldK [.int .i64 1,.int .i64 2] [.int .i64 1,.int .i64 2] hF ⟨rfl,rfl,trivial⟩ (fun w=>by kernel_rfl)) fun a hF=>?_
  refine ls<|q1 hF rfl (e_bldK [.int .i64 5] [.int .i64 5,.int .i64 0] hF ⟨rfl,trivial⟩ (fun w=>by kernel_rfl)) fun a hF=>?_
  refine ls<|a_bsl (e:=83) (sz:=2) [.int .i64 1,.int .i64 1,.int .i64 1,.int .i64 2,.int .i64 5,.int .i64 0] hF rfl hS rfl rfl rfl (fun w=>by kernel_rfl) fun b2 w a hS hF=>?_
  have hv1:Rows (α:=api_Op) H [.int .i64 1,.int .i64 1,.int .i64 1,.int .i64 2,.int .i64 5,.int .i64 0] ([(api_Op.mk 1 1),(api_Op.mk 1 2),(api_Op.mk 5 0)]:List api_Op):=(.cons (c:=[.int .i64 1,.int .i64 1]) ⟨_,_,rfl,rfl,rfl⟩ (.cons (c:=[.int .i64 1,.int .i64 2]) ⟨_,_,rfl,rfl,rfl⟩ (.cons (c:=[.int .i64 5,.int .i64 0]) ⟨_,_,rfl,rfl,rfl⟩ .nil)))
  refine ls<|q1 hF rfl (e_bldK [.int .i64 1,.slice (some ⟨b2,0,none⟩) ([(api_Op.mk 1 1),(api_Op.mk 1 2),(api_Op.mk 5 0)]:List api_Op).length 3] [.int .i64 1,.int .i64 0,.int .i64 0,.slice (some ⟨b2,0,none⟩) ([(api_Op.mk 1 1),(api_Op.mk 1 2),(api_Op.mk 5 0)]:List api_Op).length 3,.slice none 0 0,.int .i64 0] hF ⟨rfl,rfl,trivial⟩ (fun w=>by kernel_rfl)) fun a hF=>?_
  obtain ⟨H7,hx4,hr5,hc6,hS⟩:=St.frzS hS .head hv1
  refine ls<|a_bsl (e:=85) (sz:=6) [.int .i64 1,.int .i64 0,.int .i64 0,.slice (some ⟨b2,0,none⟩) ([(api_Op.mk 1 1),(api_Op.mk 1 2),(api_Op.mk 5 0)]:List api_Op).length 3,.slice none 0 0,.int .i64 0] hF rfl hS rfl rfl rfl (fun w=>by kernel_rfl) fun b9 w a hS hF=>?_
  have hv8:Rows (α:=api_Instr) H7 [.int .i64 1,.int .i64 0,.int .i64 0,.slice (some ⟨b2,0,none⟩) ([(api_Op.mk 1 1),(api_Op.mk 1 2),(api_Op.mk 5 0)]:List api_Op).length 3,.slice none 0 0,.int .i64 0] ([(api_Instr.mk 1 0 0 ([(api_Op.mk 1 1),(api_Op.mk 1 2),(api_Op.mk 5 0)]:List api_Op) [] 0)]:List api_Instr):=(.cons (c:=[.int .i64 1,.int .i64 0,.int .i64 0,.slice (some ⟨b2,0,none⟩) ([(api_Op.mk 1 1),(api_Op.mk 1 2),(api_Op.mk 5 0)]:List api_Op).length 3,.slice none 0 0,.int .i64 0]) ⟨_,_,rfl,rfl,⟨_,_,rfl,rfl,⟨_,_,rfl,rfl,⟨_,_,rfl,⟨_,_,rfl,hc6,hr5⟩,⟨_,_,rfl,⟨none,0,rfl,Nat.le_refl _,SR.nil _ _⟩,rfl⟩⟩⟩⟩⟩ .nil)
  refine ls<|q1 hF rfl (e_bldK [.int .i64 1,.slice (some ⟨b9,0,none⟩) ([(api_Instr.mk 1 0 0 ([(api_Op.mk 1 1),(api_Op.mk 1 2),(api_Op.mk 5 0)]:List api_Op) [] 0)]:List api_Instr).length 1] [.int .i64 1,.int .i64 0,.slice (some ⟨b9,0,none⟩) ([(api_Instr.mk 1 0 0 ([(api_Op.mk 1 1),(api_Op.mk 1 2),(api_Op.mk 5 0)]:List api_Op) [] 0)]:List api_Instr).length 1] hF ⟨rfl,rfl,trivial⟩ (fun w=>by kernel_rfl)) fun a hF=>?_
  obtain ⟨H14,hx11,hr12,hc13,hS⟩:=St.frzS hS .head hv8
  refine ls<|a_bsl (e:=26) (sz:=3) [.int .i64 1,.int .i64 0,.slice (some ⟨b9,0,none⟩) ([(api_Instr.mk 1 0 0 ([(api_Op.mk 1 1),(api_Op.mk 1 2),(api_Op.mk 5 0)]:List api_Op) [] 0)]:List api_Instr).length 1] hF rfl hS rfl rfl rfl (fun w=>by kernel_rfl) fun b16 w a hS hF=>?_
  have hv15:Rows (α:=api_Code) H14 [.int .i64 1,.int .i64 0,.slice (some ⟨b9,0,none⟩) ([(api_Instr.mk 1 0 0 ([(api_Op.mk 1 1),(api_Op.mk 1 2),(api_Op.mk 5 0)]:List api_Op) [] 0)]:List api_Instr).length 1] ([(api_Code.mk 1 0 ([(api_Instr.mk 1 0 0 ([(api_Op.mk 1 1),(api_Op.mk 1 2),(api_Op.mk 5 0)]:List api_Op) [] 0)]:List api_Instr))]:List api_Code):=(.cons (c:=[.int .i64 1,.int .i64 0,.slice (some ⟨b9,0,none⟩) ([(api_Instr.mk 1 0 0 ([(api_Op.mk 1 1),(api_Op.mk 1 2),(api_Op.mk 5 0)]:List api_Op) [] 0)]:List api_Instr).length 1]) ⟨_,_,rfl,rfl,⟨_,_,rfl,rfl,⟨_,_,rfl,hc13,hr12⟩⟩⟩ .nil)
  refine ls<|q1 hF rfl (e_bldK [.slice (some ⟨b16,0,none⟩) ([(api_Code.mk 1 0 ([(api_Instr.mk 1 0 0 ([(api_Op.mk 1 1),(api_Op.mk 1 2),(api_Op.mk 5 0)]:List api_Op) [] 0)]:List api_Instr))]:List api_Code).length 1] [.slice none 0 0,.int .i64 0,.slice none 0 0,.int .i64 0,.slice (some ⟨b16,0,none⟩) ([(api_Code.mk 1 0 ([(api_Instr.mk 1 0 0 ([(api_Op.mk 1 1),(api_Op.mk 1 2),(api_Op.mk 5 0)]:List api_Op) [] 0)]:List api_Instr))]:List api_Code).length 1,.int .i64 0,.int .i64 0,.slice none 0 0,.slice none 0 0] hF ⟨rfl,trivial⟩ (fun w=>by kernel_rfl)) fun a hF=>?_
  refine ls<|a_alloc (cs:=[.slice none 0 0,.int .i64 0,.slice none 0 0,.int .i64 0,.slice none 0 0,.int .i64 0,.int .i64 0,.slice none 0 0,.slice none 0 0].toArray) hF rfl hS Tryz.zeroValue29 rfl fun b18 w a hS hF=>?_
  refine ls<|s_blkA hF hS Tryz.sizeOf29 rfl rfl rfl rfl (one_cells rfl) .head fun w hS=>?_
  refine re<|?_
  refine tn<|th<|?_
  replace hm:=bind_some hm
  obtain ⟨r23,h24,hm⟩:=hm
  refine rg<|?_
  refine ls<|q1 hF rfl (e_ldA hF Tryz.isAgg29 Tryz.sizeOf29 rfl rfl ((St.ld hS).cellsB (.head _))) fun a hF=>?_
  obtain ⟨H22,hx19,hr20,hc21,hS⟩:=St.frzS hS (.tail .head) hv15
  refine ls<|c1 hF rfl Tryz.call8 (Z2_c (hp_le _) (Enc.mono (St.up hS) (show Enc.rep (α:=api_Unit) H22 [.slice none 0 0,.int .i64 0,.slice none 0 0,.int .i64 0,.slice (some ⟨b16,0,none⟩) ([(api_Code.mk 1 0 ([(api_Instr.mk 1 0 0 ([(api_Op.mk 1 1),(api_Op.mk 1 2),(api_Op.mk 5 0)]:List api_Op) [] 0)]:List api_Instr))]:List api_Code).length 1,.int .i64 0,.int .i64 0,.slice none 0 0,.slice none 0 0] (api_Unit.mk [] 0 [] 0 ([(api_Code.mk 1 0 ([(api_Instr.mk 1 0 0 ([(api_Op.mk 1 1),(api_Op.mk 1 2),(api_Op.mk 5 0)]:List api_Op) [] 0)]:List api_Instr))]:List api_Code) (api_Code.mk 0 0 []) []) from ⟨_,_,rfl,⟨none,0,rfl,Nat.le_refl _,SR.nil _ _⟩,⟨_,_,rfl,rfl,⟨_,_,rfl,⟨none,0,rfl,Nat.le_refl _,SR.nil _ _⟩,⟨_,_,rfl,rfl,⟨_,_,rfl,⟨_,_,rfl,hc21,hr20⟩,⟨_,_,rfl,⟨_,_,rfl,rfl,⟨_,_,rfl,rfl,⟨none,0,rfl,Nat.le_refl _,SR.nil _ _⟩⟩⟩,⟨none,0,rfl,Nat.le_refl _,SR.nil _ _⟩⟩⟩⟩⟩⟩⟩)) h24) ⟨rfl,trivial⟩ (fun v w a hR hF=>?_)
  obtain ⟨rfl,hk⟩:=hR
  replace hS:=hS.pass hk
  clear hk
  refine ls<|q1 hF rfl (e_move hF rfl) fun a hF=>?_
  refine ls<|q1 hF rfl (e_ext hF rfl rfl) fun a hF=>?_
  refine ls<|q1 hF rfl (e_ext hF rfl rfl) fun a hF=>?_
  refine ls<|q1 hF rfl (e_asg hF rfl) fun a hF=>?_
  refine ls<|q1 hF rfl (e_asg hF rfl) fun a hF=>?_
  refine re<|?_
  refine tn<|th<|?_
  replace hm:=bind_some hm
  obtain ⟨r25,h26,hm⟩:=hm
  refine rg<|?_
  refine ls<|q1 hF rfl (e_move hF rfl) fun a hF=>?_
  refine ls<|c1 hF rfl Tryz.call10 (Z0_c (St.le hS) h26) ⟨rfl,trivial⟩ (fun v w a hR hF=>?_)
  obtain ⟨H30,cs31,rfl,g32,hx27,hl28,hk⟩:=hR
  obtain ⟨hS,hx27⟩:=And.intro (St.passH hS hk hx27 hl28) (St.extc hS hx27)
  clear hk
  have g33:Enc.rep (α:=(List Int)×Int×(List Int)×Int×(List api_Code)×api_Code×(List (List api_Op))) H30 cs31 (r25.1.Lines,r25.1.Stays,r25.1.Firsts,r25.1.Locks,r25.1.Threads,r25.1.Recover,r25.1.Claims):=g32
  obtain ⟨q34,q35,rfl,g36,g37⟩:=g33
  obtain ⟨oa38,cap39,rfl,hc40,hr41⟩:=g36
  obtain ⟨q42,q43,rfl,g44,g45⟩:=g37
  obtain rfl:q42=[.int .i64 r25.1.Stays]:=g44
  obtain ⟨q46,q47,rfl,g48,g49⟩:=g45
  obtain ⟨oa50,cap51,rfl,hc52,hr53⟩:=g48
  obtain ⟨q54,q55,rfl,g56,g57⟩:=g49
  obtain rfl:q54=[.int .i64 r25.1.Locks]:=g56
  obtain ⟨q58,q59,rfl,g60,g61⟩:=g57
  obtain ⟨oa62,cap63,rfl,hc64,hr65⟩:=g60
  obtain ⟨q66,q67,rfl,g68,g69⟩:=g61
  obtain ⟨oa70,cap71,rfl,hc72,hr73⟩:=api_Code_open g68
  obtain ⟨oa74,cap75,rfl,hc76,hr77⟩:=g69
  refine ls<|q1 hF rfl (e_move hF rfl) fun a hF=>?_
  refine ls<|q1 hF rfl (e_ext hF rfl rfl) fun a hF=>?_
  refine ls<|q1 hF rfl (e_ext hF rfl rfl) fun a hF=>?_
  refine ls<|a_alloc (cs:=[.slice none 0 0,.int .i64 0,.slice none 0 0,.int .i64 0,.slice none 0 0,.int .i64 0,.int .i64 0,.slice none 0 0,.slice none 0 0].toArray) hF rfl hS Tryz.zeroValue29 rfl fun b78 w a hS hF=>?_
  refine ls<|s_blkA hF hS Tryz.sizeOf29 rfl rfl rfl rfl (one_cells rfl) .head fun w hS=>?_
  refine ls<|q1 hF rfl (e_asg hF rfl) fun a hF=>?_
  refine re<|?_
  refine tn<|th<|?_
  replace hm:=bind_some hm
  obtain ⟨s79,h80,hm⟩:=hm
  replace hm:=bind_some hm
  obtain ⟨r81,h82,hm⟩:=hm
  refine rg<|?_
  refine ls<|q1 hF rfl (e_move hF rfl) fun a hF=>?_
  refine ls<|q1 hF rfl (e_catU hF rfl rfl h80) fun a hF=>?_
  refine ls<|c1 hF rfl Tryz.call10 (Z0_c (St.le hS) h82) ⟨rfl,trivial⟩ (fun v w a hR hF=>?_)
  obtain ⟨H86,cs87,rfl,g88,hx83,hl84,hk⟩:=hR
  obtain ⟨hS,hx83⟩:=And.intro (St.passH hS hk hx83 hl84) (St.extc hS hx83)
  clear hk
  have g89:Enc.rep (α:=(List Int)×Int×(List Int)×Int×(List api_Code)×api_Code×(List (List api_Op))) H86 cs87 (r81.1.Lines,r81.1.Stays,r81.1.Firsts,r81.1.Locks,r81.1.Threads,r81.1.Recover,r81.1.Claims):=g88
  obtain ⟨q90,q91,rfl,g92,g93⟩:=g89
  obtain ⟨oa94,cap95,rfl,hc96,hr97⟩:=g92
  obtain ⟨q98,q99,rfl,g100,g101⟩:=g93
  obtain rfl:q98=[.int .i64 r81.1.Stays]:=g100
  obtain ⟨q102,q103,rfl,g104,g105⟩:=g101
  obtain ⟨oa106,cap107,rfl,hc108,hr109⟩:=g104
  obtain ⟨q110,q111,rfl,g112,g113⟩:=g105
  obtain rfl:q110=[.int .i64 r81.1.Locks]:=g112
  obtain ⟨q114,q115,rfl,g116,g117⟩:=g113
  obtain ⟨oa118,cap119,rfl,hc120,hr121⟩:=g116
  obtain ⟨q122,q123,rfl,g124,g125⟩:=g117
  obtain ⟨oa126,cap127,rfl,hc128,hr129⟩:=api_Code_open g124
  obtain ⟨oa130,cap131,rfl,hc132,hr133⟩:=g125
  refine ls<|q1 hF rfl (e_move hF rfl) fun a hF=>?_
  refine ls<|q1 hF rfl (e_ext hF rfl rfl) fun a hF=>?_
  refine ls<|q1 hF rfl (e_ext hF rfl rfl) fun a hF=>?_
  refine ls<|a_alloc (cs:=[.slice none 0 0,.int .i64 0,.slice none 0 0,.int .i64 0,.slice none 0 0,.int .i64 0,.int .i64 0,.slice none 0 0,.slice none 0 0].toArray) hF rfl hS Tryz.zeroValue29 rfl fun b134 w a hS hF=>?_
  refine ls<|s_blkA hF hS Tryz.sizeOf29 rfl rfl rfl rfl (one_cells rfl) .head fun w hS=>?_
  refine ls<|q1 hF rfl (e_asg hF rfl) fun a hF=>?_
  refine re<|?_
  refine tn<|th<|?_
  replace hm:=bind_some hm
  obtain ⟨r135,h136,hm⟩:=hm
  refine rg<|?_
  refine ls<|q1 hF rfl (e_bldK [] [.slice none 0 0,.int .i64 0,.slice none 0 0,.int .i64 0,.slice none 0 0,.int .i64 0,.int .i64 0,.slice none 0 0,.slice none 0 0] hF trivial (fun w=>by kernel_rfl)) fun a hF=>?_
  refine ls<|c1 hF rfl Tryz.call8 (Z2_c (hp_le _) (Enc.mono (St.up hS) (show Enc.rep (α:=api_Unit) H86 [.slice none 0 0,.int .i64 0,.slice none 0 0,.int .i64 0,.slice none 0 0,.int .i64 0,.int .i64 0,.slice none 0 0,.slice none 0 0] (api_Unit.mk [] 0 [] 0 [] (api_Code.mk 0 0 []) []) from ⟨_,_,rfl,⟨none,0,rfl,Nat.le_refl _,SR.nil _ _⟩,⟨_,_,rfl,rfl,⟨_,_,rfl,⟨none,0,rfl,Nat.le_refl _,SR.nil _ _⟩,⟨_,_,rfl,rfl,⟨_,_,rfl,⟨none,0,rfl,Nat.le_refl _,SR.nil _ _⟩,⟨_,_,rfl,⟨_,_,rfl,rfl,⟨_,_,rfl,rfl,⟨none,0,rfl,Nat.le_refl _,SR.nil _ _⟩⟩⟩,⟨none,0,rfl,Nat.le_refl _,SR.nil _ _⟩⟩⟩⟩⟩⟩⟩)) h136) ⟨rfl,trivial⟩ (fun v w a hR hF=>?_)
  obtain ⟨rfl,hk⟩:=hR
  replace hS:=hS.pass hk
  clear hk
  refine ls<|q1 hF rfl (e_move hF rfl) fun a hF=>?_
  refine ls<|q1 hF rfl (e_ext hF rfl rfl) fun a hF=>?_
  refine ls<|q1 hF rfl (e_ext hF rfl rfl) fun a hF=>?_
  refine ls<|q1 hF rfl (e_asg hF rfl) fun a hF=>?_
  refine ls<|q1 hF rfl (e_asg hF rfl) fun a hF=>?_
  refine re<|?_
  refine tn<|th<|?_
  replace hm:=bind_some hm
  obtain ⟨r137,h138,hm⟩:=hm
  refine rg<|?_
  refine ls<|c1 hF rfl Tryz.call42 (Z7_c (hp_le _) h138) ⟨rfl,rfl,trivial⟩ (fun v w a hR hF=>?_)
  obtain ⟨rfl,hk⟩:=hR
  replace hS:=hS.pass hk
  clear hk
  refine ls<|q1 hF rfl (e_move hF rfl) fun a hF=>?_
  refine ls<|q1 hF rfl (e_ext hF rfl rfl) fun a hF=>?_
  refine ls<|q1 hF rfl (e_ext hF rfl rfl) fun a hF=>?_
  refine ls<|q1 hF rfl (e_ext hF rfl rfl) fun a hF=>?_
  refine ls<|q1 hF rfl (e_asg hF rfl) fun a hF=>?_
  refine ls<|q1 hF rfl (e_asg hF rfl) fun a hF=>?_
  refine ls<|q1 hF rfl (e_asg hF rfl) fun a hF=>?_
  refine re<|?_
  refine tn<|th<|?_
  replace hm:=bind_some hm
  obtain ⟨r139,h140,hm⟩:=hm
  refine rg<|?_
  refine ls<|c1 hF rfl Tryz.call42 (Z7_c (hp_le _) h140) ⟨rfl,rfl,trivial⟩ (fun v w a hR hF=>?_)
  obtain ⟨rfl,hk⟩:=hR
  replace hS:=hS.pass hk
  clear hk
  refine ls<|q1 hF rfl (e_move hF rfl) fun a hF=>?_
  refine ls<|q1 hF rfl (e_ext hF rfl rfl) fun a hF=>?_
  refine ls<|q1 hF rfl (e_ext hF rfl rfl) fun a hF=>?_
  refine ls<|q1 hF rfl (e_ext hF rfl rfl) fun a hF=>?_
  refine ls<|q1 hF rfl (e_asg hF rfl) fun a hF=>?_
  refine ls<|q1 hF rfl (e_asg hF rfl) fun a hF=>?_
  refine ls<|q1 hF rfl (e_asg hF rfl) fun a hF=>?_
  refine re<|?_
  refine tn<|th<|?_
  replace hm:=bind_some hm
  obtain ⟨r141,h142,hm⟩:=hm
  refine rg<|?_
  refine ls<|c1 hF rfl Tryz.call42 (Z7_c (hp_le _) h142) ⟨rfl,rfl,trivial⟩ (fun v w a hR hF=>?_)
  obtain ⟨rfl,hk⟩:=hR
  replace hS:=hS.pass hk
  clear hk
  refine ls<|q1 hF rfl (e_move hF rfl) fun a hF=>?_
  refine ls<|q1 hF rfl (e_ext hF rfl rfl) fun a hF=>?_
  refine ls<|q1 hF rfl (e_ext hF rfl rfl) fun a hF=>?_
  refine ls<|q1 hF rfl (e_ext hF rfl rfl) fun a hF=>?_
  refine ls<|q1 hF rfl (e_asg hF rfl) fun a hF=>?_
  refine ls<|q1 hF rfl (e_asg hF rfl) fun a hF=>?_
  refine ls<|q1 hF rfl (e_asg hF rfl) fun a hF=>?_
  refine re<|?_
  refine tn<|th<|?_
  replace hm:=bind_some hm
  obtain ⟨r143,h144,hm⟩:=hm
  refine rg<|?_
  refine ls<|c1 hF rfl Tryz.call42 (Z7_c (hp_le _) h144) ⟨rfl,rfl,trivial⟩ (fun v w a hR hF=>?_)
  obtain ⟨rfl,hk⟩:=hR
  replace hS:=hS.pass hk
  clear hk
  refine ls<|q1 hF rfl (e_move hF rfl) fun a hF=>?_
  refine ls<|q1 hF rfl (e_ext hF rfl rfl) fun a hF=>?_
  refine ls<|q1 hF rfl (e_ext hF rfl rfl) fun a hF=>?_
  refine ls<|q1 hF rfl (e_ext hF rfl rfl) fun a hF=>?_
  refine ls<|q1 hF rfl (e_asg hF rfl) fun a hF=>?_
  refine ls<|q1 hF rfl (e_asg hF rfl) fun a hF=>?_
  refine ls<|q1 hF rfl (e_asg hF rfl) fun a hF=>?_
  refine re<|?_
  refine tn<|th<|?_
  replace hm:=bind_some hm
  obtain ⟨r145,h146,hm⟩:=hm
  refine rg<|?_
  refine ls<|c1 hF rfl Tryz.call42 (Z7_c (hp_le _) h146) ⟨rfl,rfl,trivial⟩ (fun v w a hR hF=>?_)
  obtain ⟨rfl,hk⟩:=hR
  replace hS:=hS.pass hk
  clear hk
  refine ls<|q1 hF rfl (e_move hF rfl) fun a hF=>?_
  refine ls<|q1 hF rfl (e_ext hF rfl rfl) fun a hF=>?_
  refine ls<|q1 hF rfl (e_ext hF rfl rfl) fun a hF=>?_
  refine ls<|q1 hF rfl (e_ext hF rfl rfl) fun a hF=>?_
  refine ls<|q1 hF rfl (e_asg hF rfl) fun a hF=>?_
  refine ls<|q1 hF rfl (e_asg hF rfl) fun a hF=>?_
  refine ls<|q1 hF rfl (e_asg hF rfl) fun a hF=>?_
  refine re<|?_
  refine tn<|th<|?_
  replace hm:=bind_some hm
  obtain ⟨r147,h148,hm⟩:=hm
  refine rg<|?_
  refine ls<|q1 hF rfl (e_ldA hF Tryz.isAgg29 Tryz.sizeOf29 rfl rfl ((St.ld hS).cellsB (.tail _ (.tail _ (.head _))))) fun a hF=>?_
  refine ls<|c1 hF rfl Tryz.call9 (Z3j_c (hp_le _) (Enc.mono (St.up hS) (show Enc.rep (α:=api_Unit) H86 [.slice none 0 0,.int .i64 0,.slice none 0 0,.int .i64 0,.slice (some ⟨b16,0,none⟩) ([(api_Code.mk 1 0 ([(api_Instr.mk 1 0 0 ([(api_Op.mk 1 1),(api_Op.mk 1 2),(api_Op.mk 5 0)]:List api_Op) [] 0)]:List api_Instr))]:List api_Code).length 1,.int .i64 0,.int .i64 0,.slice none 0 0,.slice none 0 0] (api_Unit.mk [] 0 [] 0 ([(api_Code.mk 1 0 ([(api_Instr.mk 1 0 0 ([(api_Op.mk 1 1),(api_Op.mk 1 2),(api_Op.mk 5 0)]:List api_Op) [] 0)]:List api_Instr))]:List api_Code) (api_Code.mk 0 0 []) []) from ⟨_,_,rfl,⟨none,0,rfl,Nat.le_refl _,SR.nil _ _⟩,⟨_,_,rfl,rfl,⟨_,_,rfl,⟨none,0,rfl,Nat.le_refl _,SR.nil _ _⟩,⟨_,_,rfl,rfl,⟨_,_,rfl,⟨_,_,rfl,hc21,(hr20.mono (fun b o h=>hx83.sub b o (hx27.sub b o h)))⟩,⟨_,_,rfl,⟨_,_,rfl,rfl,⟨_,_,rfl,rfl,⟨none,0,rfl,Nat.le_refl _,SR.nil _ _⟩⟩⟩,⟨none,0,rfl,Nat.le_refl _,SR.nil _ _⟩⟩⟩⟩⟩⟩⟩)) h148) ⟨rfl,trivial⟩ (fun v w a hR hF=>?_)
  obtain ⟨rfl,hk⟩:=hR
  replace hS:=hS.pass hk
  clear hk
  refine ls<|q1 hF rfl (e_move hF rfl) fun a hF=>?_
  refine ls<|q1 hF rfl (e_ext hF rfl rfl) fun a hF=>?_
  refine ls<|q1 hF rfl (e_ext hF rfl rfl) fun a hF=>?_
  refine ls<|q1 hF rfl (e_asg hF rfl) fun a hF=>?_
  refine ls<|q1 hF rfl (e_asg hF rfl) fun a hF=>?_
  refine re<|?_
  refine tn<|th<|?_
  replace hm:=bind_some hm
  obtain ⟨_,hb149,hm⟩:=hm
  replace hb149:=sure_some hb149
  replace hm:=bind_some hm
  obtain ⟨r150,h151,hm⟩:=hm
  replace hm:=bind_some hm
  obtain ⟨_,hb152,hm⟩:=hm
  replace hb152:=sure_some hb152
  replace hm:=bind_some hm
  obtain ⟨r153,h154,hm⟩:=hm
  replace hm:=bind_some hm
  obtain ⟨_,hb155,hm⟩:=hm
  replace hb155:=sure_some hb155
  replace hm:=bind_some hm
  obtain ⟨r156,h157,hm⟩:=hm
  replace hm:=bind_some hm
  obtain ⟨_,hb158,hm⟩:=hm
  replace hb158:=sure_some hb158
  replace hm:=bind_some hm
  obtain ⟨r159,h160,hm⟩:=hm
  replace hm:=bind_some hm
  obtain ⟨_,hb161,hm⟩:=hm
  replace hb161:=sure_some hb161
  replace hm:=bind_some hm
  obtain ⟨x162,h163,hm⟩:=hm
  obtain ⟨c164,g165,hl166⟩:=SR.get hr20 h163
  obtain ⟨oa167,cap168,rfl,hc169,hr170⟩:=api_Code_open g165
  replace hm:=bind_some hm
  obtain ⟨r171,h172,hm⟩:=hm
  refine rg<|?_
  refine ls<|q1 hF rfl (e_move hF rfl) fun a hF=>?_
  refine ls<|q1 hF rfl (e_eql hF rfl rfl) fun a hF=>?_
  refine ls<|q1 hF rfl (e_move hF rfl) fun a hF=>?_
  refine grp (N:=163) (Fk:=[(1,.pointer (some ⟨b18,0,none⟩)),(4,.pointer (some ⟨b78,0,none⟩)),(5,.int .i64 r25.2),(7,.int .i64 r81.2),(9,.int .i64 r135.2),(10,.int .i64 r137.1),(11,.int .i64 r137.2.1),(12,.int .i64 r137.2.2),(15,.int .i64 r139.2.2),(18,.int .i64 r141.2.2),(21,.int .i64 r143.2.2),(24,.int .i64 r145.2.2),(26,.int .i64 r147.2),(93,.bool ((decide (r23.2=0)) && (decide (r23.1=r147.1))))]) (b:=(decide (r23.2=0))) 4 hS ?_ ?_ ?_
  ·
    intro hb key
    replace hF:=Fr.as hF (t:=89) rfl (congrArg Value.bool hb)
    refine ls<|gy hF rfl rfl<|q1 hF rfl (e_move hF rfl) fun a hF=>?_
    refine ls<|gy hF rfl rfl<|q1 hF rfl (e_move hF rfl) fun a hF=>?_
    refine ls<|gy hF rfl rfl<|q1 hF rfl (e_eqlU (m:=r23.1) (n:=r147.1) hF rfl rfl) fun a hF=>?_
    refine ls<|q1 hF rfl (e_as (v':=.bool ((decide (r23.2=0)) && (decide (r23.1=r147.1)))) (e_pickT hF rfl rfl) (by rw [hb];rfl)) fun a hF=>?_
    exact key _ _ (hF.has ⟨rfl,rfl,rfl,rfl,rfl,rfl,rfl,rfl,rfl,rfl,rfl,rfl,rfl,rfl,trivial⟩) hS
  ·
    intro hb key
    replace hF:=Fr.as hF (t:=89) rfl (congrArg Value.bool hb)
    refine ls<|gn hF rfl rfl rfl rfl fun a hF=>?_
    refine ls<|gn hF rfl rfl rfl rfl fun a hF=>?_
    refine ls<|gn hF rfl rfl rfl rfl fun a hF=>?_
    refine ls<|q1 hF rfl (e_as (v':=.bool ((decide (r23.2=0)) && (decide (r23.1=r147.1)))) (e_pickF hF rfl rfl) (by rw [hb];rfl)) fun a hF=>?_
    exact key _ _ (hF.has ⟨rfl,rfl,rfl,rfl,rfl,rfl,rfl,rfl,rfl,rfl,rfl,rfl,rfl,rfl,trivial⟩) hS
  intro a w hF hS
  refine ls<|q1 hF rfl (e_move hF rfl) fun a hF=>?_
  refine grp (N:=163) (Fk:=[(1,.pointer (some ⟨b18,0,none⟩)),(4,.pointer (some ⟨b78,0,none⟩)),(5,.int .i64 r25.2),(7,.int .i64 r81.2),(9,.int .i64 r135.2),(10,.int .i64 r137.1),(11,.int .i64 r137.2.1),(12,.int .i64 r137.2.2),(15,.int .i64 r139.2.2),(18,.int .i64 r141.2.2),(21,.int .i64 r143.2.2),(24,.int .i64 r145.2.2),(97,.bool (((decide (r23.2=0)) && (decide (r23.1=r147.1))) && (decide (r147.2=0))))]) (b:=((decide (r23.2=0)) && (decide (r23.1=r147.1)))) 3 hS ?_ ?_ ?_
  ·
    intro hb key
    replace hF:=Fr.as hF (t:=94) rfl (congrArg Value.bool hb)
    refine ls<|gy hF rfl rfl<|q1 hF rfl (e_move hF rfl) fun a hF=>?_
    refine ls<|gy hF rfl rfl<|q1 hF rfl (e_eql hF rfl rfl) fun a hF=>?_
    refine ls<|q1 hF rfl (e_as (v':=.bool (((decide (r23.2=0)) && (decide (r23.1=r147.1))) && (decide (r147.2=0)))) (e_pickT hF rfl rfl) (by rw [hb];rfl)) fun a hF=>?_
    exact key _ _ (hF.has ⟨rfl,rfl,rfl,rfl,rfl,rfl,rfl,rfl,rfl,rfl,rfl,rfl,rfl,trivial⟩) hS
  ·
    intro hb key
    replace hF:=Fr.as hF (t:=94) rfl (congrArg Value.bool hb)
    refine ls<|gn hF rfl rfl rfl rfl fun a hF=>?_
    refine ls<|gn hF rfl rfl rfl rfl fun a hF=>?_
    refine ls<|q1 hF rfl (e_as (v':=.bool (((decide (r23.2=0)) && (decide (r23.1=r147.1))) && (decide (r147.2=0)))) (e_pickF hF rfl rfl) (by rw [hb];rfl)) fun a hF=>?_
    exact key _ _ (hF.has ⟨rfl,rfl,rfl,rfl,rfl,rfl,rfl,rfl,rfl,rfl,rfl,rfl,rfl,trivial⟩) hS
  intro a w hF hS
  refine ls<|q1 hF rfl (e_move hF rfl) fun a hF=>?_
  refine grp (N:=163) (Fk:=[(1,.pointer (some ⟨b18,0,none⟩)),(4,.pointer (some ⟨b78,0,none⟩)),(7,.int .i64 r81.2),(9,.int .i64 r135.2),(10,.int .i64 r137.1),(11,.int .i64 r137.2.1),(12,.int .i64 r137.2.2),(15,.int .i64 r139.2.2),(18,.int .i64 r141.2.2),(21,.int .i64 r143.2.2),(24,.int .i64 r145.2.2),(101,.bool ((((decide (r23.2=0)) && (decide (r23.1=r147.1))) && (decide (r147.2=0))) && (decide (r25.2=0))))]) (b:=(((decide (r23.2=0)) && (decide (r23.1=r147.1))) && (decide (r147.2=0)))) 3 hS ?_ ?_ ?_
  ·
    intro hb key
    replace hF:=Fr.as hF (t:=98) rfl (congrArg Value.bool hb)
    refine ls<|gy hF rfl rfl<|q1 hF rfl (e_move hF rfl) fun a hF=>?_
    refine ls<|gy hF rfl rfl<|q1 hF rfl (e_eql hF rfl rfl) fun a hF=>?_
    refine ls<|q1 hF rfl (e_as (v':=.bool ((((decide (r23.2=0)) && (decide (r23.1=r147.1))) && (decide (r147.2=0))) && (decide (r25.2=0)))) (e_pickT hF rfl rfl) (by rw [hb];rfl)) fun a hF=>?_
    exact key _ _ (hF.has ⟨rfl,rfl,rfl,rfl,rfl,rfl,rfl,rfl,rfl,rfl,rfl,rfl,trivial⟩) hS
  ·
    intro hb key
    replace hF:=Fr.as hF (t:=98) rfl (congrArg Value.bool hb)
    refine ls<|gn hF rfl rfl rfl rfl fun a hF=>?_
    refine ls<|gn hF rfl rfl rfl rfl fun a hF=>?_
    refine ls<|q1 hF rfl (e_as (v':=.bool ((((decide (r23.2=0)) && (decide (r23.1=r147.1))) && (decide (r147.2=0))) && (decide (r25.2=0)))) (e_pickF hF rfl rfl) (by rw [hb];rfl)) fun a hF=>?_
    exact key _ _ (hF.has ⟨rfl,rfl,rfl,rfl,rfl,rfl,rfl,rfl,rfl,rfl,rfl,rfl,trivial⟩) hS
  intro a w hF hS
  refine ls<|q1 hF rfl (e_as (e_move hF rfl) (congrArg Value.bool hb149)) fun a hF=>?_
  refine ls<|gy hF rfl rfl<|q1 hF rfl (e_ldA hF Tryz.isAgg29 Tryz.sizeOf29 rfl rfl ((St.ld hS).cellsB (.tail _ (.tail _ (.head _))))) fun a hF=>?_
  refine ls<|gy hF rfl rfl<|q1 hF rfl (e_ldA hF Tryz.isAgg29 Tryz.sizeOf29 rfl rfl ((St.ld hS).cellsB (.tail _ (.head _)))) fun a hF=>?_
  refine ls<|gy hF rfl rfl<|c1 hF rfl Tryz.call12 (Z2p_c (hp_le _) (Enc.mono (St.up hS) (show Enc.rep (α:=api_Unit) H86 [.slice none 0 0,.int .i64 0,.slice none 0 0,.int .i64 0,.slice (some ⟨b16,0,none⟩) ([(api_Code.mk 1 0 ([(api_Instr.mk 1 0 0 ([(api_Op.mk 1 1),(api_Op.mk 1 2),(api_Op.mk 5 0)]:List api_Op) [] 0)]:List api_Instr))]:List api_Code).length 1,.int .i64 0,.int .i64 0,.slice none 0 0,.slice none 0 0] (api_Unit.mk [] 0 [] 0 ([(api_Code.mk 1 0 ([(api_Instr.mk 1 0 0 ([(api_Op.mk 1 1),(api_Op.mk 1 2),(api_Op.mk 5 0)]:List api_Op) [] 0)]:List api_Instr))]:List api_Code) (api_Code.mk 0 0 []) []) from ⟨_,_,rfl,⟨none,0,rfl,Nat.le_refl _,SR.nil _ _⟩,⟨_,_,rfl,rfl,⟨_,_,rfl,⟨none,0,rfl,Nat.le_refl _,SR.nil _ _⟩,⟨_,_,rfl,rfl,⟨_,_,rfl,⟨_,_,rfl,hc21,(hr20.mono (fun b o h=>hx83.sub b o (hx27.sub b o h)))⟩,⟨_,_,rfl,⟨_,_,rfl,rfl,⟨_,_,rfl,rfl,⟨none,0,rfl,Nat.le_refl _,SR.nil _ _⟩⟩⟩,⟨none,0,rfl,Nat.le_refl _,SR.nil _ _⟩⟩⟩⟩⟩⟩⟩)) (Enc.mono (St.up hS) (show Enc.rep (α:=api_Unit) H86 [.slice oa38 r25.1.Lines.length cap39,.int .i64 r25.1.Stays,.slice oa50 r25.1.Firsts.length cap51,.int .i64 r25.1.Locks,.slice oa62 r25.1.Threads.length cap63,.int .i64 r25.1.Recover.Regs,.int .i64 r25.1.Recover.Counts,.slice oa70 r25.1.Recover.L.length cap71,.slice oa74 r25.1.Claims.length cap75] r25.1 from ⟨_,_,rfl,⟨_,_,rfl,hc40,(hr41.mono hx83.sub)⟩,⟨_,_,rfl,rfl,⟨_,_,rfl,⟨_,_,rfl,hc52,(hr53.mono hx83.sub)⟩,⟨_,_,rfl,rfl,⟨_,_,rfl,⟨_,_,rfl,hc64,(hr65.mono hx83.sub)⟩,⟨_,_,rfl,⟨_,_,rfl,rfl,⟨_,_,rfl,rfl,⟨_,_,rfl,hc72,(hr73.mono hx83.sub)⟩⟩⟩,⟨_,_,rfl,hc76,(hr77.mono hx83.sub)⟩⟩⟩⟩⟩⟩⟩)) h151) ⟨rfl,rfl,trivial⟩ (fun v w a hR hF=>?_)
  obtain ⟨rfl,hk⟩:=hR
  replace hS:=hS.pass hk
  clear hk
  refine ls<|q1 hF rfl (e_pickT hF rfl rfl) fun a hF=>?_
  refine ls<|q1 hF rfl (e_move hF rfl) fun a hF=>?_
  refine grp (N:=163) (Fk:=[(1,.pointer (some ⟨b18,0,none⟩)),(9,.int .i64 r135.2),(10,.int .i64 r137.1),(11,.int .i64 r137.2.1),(12,.int .i64 r137.2.2),(15,.int .i64 r139.2.2),(18,.int .i64 r141.2.2),(21,.int .i64 r143.2.2),(24,.int .i64 r145.2.2),(110,.bool (r150 && (decide (r81.2=8))))]) (b:=r150) 3 hS ?_ ?_ ?_
  ·
    intro hb key
    replace hF:=Fr.as hF (t:=107) rfl (congrArg Value.bool hb)
    refine ls<|gy hF rfl rfl<|q1 hF rfl (e_move hF rfl) fun a hF=>?_
    refine ls<|gy hF rfl rfl<|q1 hF rfl (e_eql hF rfl rfl) fun a hF=>?_
    refine ls<|q1 hF rfl (e_as (v':=.bool (r150 && (decide (r81.2=8)))) (e_pickT hF rfl rfl) (by rw [hb];rfl)) fun a hF=>?_
    exact key _ _ (hF.has ⟨rfl,rfl,rfl,rfl,rfl,rfl,rfl,rfl,rfl,rfl,trivial⟩) hS
  ·
    intro hb key
    replace hF:=Fr.as hF (t:=107) rfl (congrArg Value.bool hb)
    refine ls<|gn hF rfl rfl rfl rfl fun a hF=>?_
    refine ls<|gn hF rfl rfl rfl rfl fun a hF=>?_
    refine ls<|q1 hF rfl (e_as (v':=.bool (r150 && (decide (r81.2=8)))) (e_pickF hF rfl rfl) (by rw [hb];rfl)) fun a hF=>?_
    exact key _ _ (hF.has ⟨rfl,rfl,rfl,rfl,rfl,rfl,rfl,rfl,rfl,rfl,trivial⟩) hS
  intro a w hF hS
  refine ls<|q1 hF rfl (e_move hF rfl) fun a hF=>?_
  refine grp (N:=163) (Fk:=[(1,.pointer (some ⟨b18,0,none⟩)),(10,.int .i64 r137.1),(11,.int .i64 r137.2.1),(12,.int .i64 r137.2.2),(15,.int .i64 r139.2.2),(18,.int .i64 r141.2.2),(21,.int .i64 r143.2.2),(24,.int .i64 r145.2.2),(114,.bool ((r150 && (decide (r81.2=8))) && (decide (r135.2=8))))]) (b:=(r150 && (decide (r81.2=8)))) 3 hS ?_ ?_ ?_
  ·
    intro hb key
    replace hF:=Fr.as hF (t:=111) rfl (congrArg Value.bool hb)
    refine ls<|gy hF rfl rfl<|q1 hF rfl (e_move hF rfl) fun a hF=>?_
    refine ls<|gy hF rfl rfl<|q1 hF rfl (e_eql hF rfl rfl) fun a hF=>?_
    refine ls<|q1 hF rfl (e_as (v':=.bool ((r150 && (decide (r81.2=8))) && (decide (r135.2=8)))) (e_pickT hF rfl rfl) (by rw [hb];rfl)) fun a hF=>?_
    exact key _ _ (hF.has ⟨rfl,rfl,rfl,rfl,rfl,rfl,rfl,rfl,rfl,trivial⟩) hS
  ·
    intro hb key
    replace hF:=Fr.as hF (t:=111) rfl (congrArg Value.bool hb)
    refine ls<|gn hF rfl rfl rfl rfl fun a hF=>?_
    refine ls<|gn hF rfl rfl rfl rfl fun a hF=>?_
    refine ls<|q1 hF rfl (e_as (v':=.bool ((r150 && (decide (r81.2=8))) && (decide (r135.2=8)))) (e_pickF hF rfl rfl) (by rw [hb];rfl)) fun a hF=>?_
    exact key _ _ (hF.has ⟨rfl,rfl,rfl,rfl,rfl,rfl,rfl,rfl,rfl,trivial⟩) hS
  intro a w hF hS
  refine ls<|q1 hF rfl (e_move hF rfl) fun a hF=>?_
  refine grp (N:=163) (Fk:=[(1,.pointer (some ⟨b18,0,none⟩)),(11,.int .i64 r137.2.1),(12,.int .i64 r137.2.2),(15,.int .i64 r139.2.2),(18,.int .i64 r141.2.2),(21,.int .i64 r143.2.2),(24,.int .i64 r145.2.2),(118,.bool (((r150 && (decide (r81.2=8))) && (decide (r135.2=8))) && (decide (r137.1=300))))]) (b:=((r150 && (decide (r81.2=8))) && (decide (r135.2=8)))) 3 hS ?_ ?_ ?_
  ·
    intro hb key
    replace hF:=Fr.as hF (t:=115) rfl (congrArg Value.bool hb)
    refine ls<|gy hF rfl rfl<|q1 hF rfl (e_move hF rfl) fun a hF=>?_
    refine ls<|gy hF rfl rfl<|q1 hF rfl (e_eql hF rfl rfl) fun a hF=>?_
    refine ls<|q1 hF rfl (e_as (v':=.bool (((r150 && (decide (r81.2=8))) && (decide (r135.2=8))) && (decide (r137.1=300)))) (e_pickT hF rfl rfl) (by rw [hb];rfl)) fun a hF=>?_
    exact key _ _ (hF.has ⟨rfl,rfl,rfl,rfl,rfl,rfl,rfl,rfl,trivial⟩) hS
  ·
    intro hb key
    replace hF:=Fr.as hF (t:=115) rfl (congrArg Value.bool hb)
    refine ls<|gn hF rfl rfl rfl rfl fun a hF=>?_
    refine ls<|gn hF rfl rfl rfl rfl fun a hF=>?_
    refine ls<|q1 hF rfl (e_as (v':=.bool (((r150 && (decide (r81.2=8))) && (decide (r135.2=8))) && (decide (r137.1=300)))) (e_pickF hF rfl rfl) (by rw [hb];rfl)) fun a hF=>?_
    exact key _ _ (hF.has ⟨rfl,rfl,rfl,rfl,rfl,rfl,rfl,rfl,trivial⟩) hS
  intro a w hF hS
  refine ls<|q1 hF rfl (e_move hF rfl) fun a hF=>?_
  refine grp (N:=163) (Fk:=[(1,.pointer (some ⟨b18,0,none⟩)),(12,.int .i64 r137.2.2),(15,.int .i64 r139.2.2),(18,.int .i64 r141.2.2),(21,.int .i64 r143.2.2),(24,.int .i64 r145.2.2),(122,.bool ((((r150 && (decide (r81.2=8))) && (decide (r135.2=8))) && (decide (r137.1=300))) && (decide (r137.2.1=2))))]) (b:=(((r150 && (decide (r81.2=8))) && (decide (r135.2=8))) && (decide (r137.1=300)))) 3 hS ?_ ?_ ?_
  ·
    intro hb key
    replace hF:=Fr.as hF (t:=119) rfl (congrArg Value.bool hb)
    refine ls<|gy hF rfl rfl<|q1 hF rfl (e_move hF rfl) fun a hF=>?_
    refine ls<|gy hF rfl rfl<|q1 hF rfl (e_eql hF rfl rfl) fun a hF=>?_
    refine ls<|q1 hF rfl (e_as (v':=.bool ((((r150 && (decide (r81.2=8))) && (decide (r135.2=8))) && (decide (r137.1=300))) && (decide (r137.2.1=2)))) (e_pickT hF rfl rfl) (by rw [hb];rfl)) fun a hF=>?_
    exact key _ _ (hF.has ⟨rfl,rfl,rfl,rfl,rfl,rfl,rfl,trivial⟩) hS
  ·
    intro hb key
    replace hF:=Fr.as hF (t:=119) rfl (congrArg Value.bool hb)
    refine ls<|gn hF rfl rfl rfl rfl fun a hF=>?_
    refine ls<|gn hF rfl rfl rfl rfl fun a hF=>?_
    refine ls<|q1 hF rfl (e_as (v':=.bool ((((r150 && (decide (r81.2=8))) && (decide (r135.2=8))) && (decide (r137.1=300))) && (decide (r137.2.1=2)))) (e_pickF hF rfl rfl) (by rw [hb];rfl)) fun a hF=>?_
    exact key _ _ (hF.has ⟨rfl,rfl,rfl,rfl,rfl,rfl,rfl,trivial⟩) hS
  intro a w hF hS
  refine ls<|q1 hF rfl (e_move hF rfl) fun a hF=>?_
  refine grp (N:=163) (Fk:=[(1,.pointer (some ⟨b18,0,none⟩)),(15,.int .i64 r139.2.2),(18,.int .i64 r141.2.2),(21,.int .i64 r143.2.2),(24,.int .i64 r145.2.2),(126,.bool (((((r150 && (decide (r81.2=8))) && (decide (r135.2=8))) && (decide (r137.1=300))) && (decide (r137.2.1=2))) && (decide (r137.2.2=0))))]) (b:=((((r150 && (decide (r81.2=8))) && (decide (r135.2=8))) && (decide (r137.1=300))) && (decide (r137.2.1=2)))) 3 hS ?_ ?_ ?_
  ·
    intro hb key
    replace hF:=Fr.as hF (t:=123) rfl (congrArg Value.bool hb)
    refine ls<|gy hF rfl rfl<|q1 hF rfl (e_move hF rfl) fun a hF=>?_
    refine ls<|gy hF rfl rfl<|q1 hF rfl (e_eql hF rfl rfl) fun a hF=>?_
    refine ls<|q1 hF rfl (e_as (v':=.bool (((((r150 && (decide (r81.2=8))) && (decide (r135.2=8))) && (decide (r137.1=300))) && (decide (r137.2.1=2))) && (decide (r137.2.2=0)))) (e_pickT hF rfl rfl) (by rw [hb];rfl)) fun a hF=>?_
    exact key _ _ (hF.has ⟨rfl,rfl,rfl,rfl,rfl,rfl,trivial⟩) hS
  ·
    intro hb key
    replace hF:=Fr.as hF (t:=123) rfl (congrArg Value.bool hb)
    refine ls<|gn hF rfl rfl rfl rfl fun a hF=>?_
    refine ls<|gn hF rfl rfl rfl rfl fun a hF=>?_
    refine ls<|q1 hF rfl (e_as (v':=.bool (((((r150 && (decide (r81.2=8))) && (decide (r135.2=8))) && (decide (r137.1=300))) && (decide (r137.2.1=2))) && (decide (r137.2.2=0)))) (e_pickF hF rfl rfl) (by rw [hb];rfl)) fun a hF=>?_
    exact key _ _ (hF.has ⟨rfl,rfl,rfl,rfl,rfl,rfl,trivial⟩) hS
  intro a w hF hS
  refine ls<|q1 hF rfl (e_move hF rfl) fun a hF=>?_
  refine grp (N:=163) (Fk:=[(1,.pointer (some ⟨b18,0,none⟩)),(18,.int .i64 r141.2.2),(21,.int .i64 r143.2.2),(24,.int .i64 r145.2.2),(130,.bool ((((((r150 && (decide (r81.2=8))) && (decide (r135.2=8))) && (decide (r137.1=300))) && (decide (r137.2.1=2))) && (decide (r137.2.2=0))) && (decide (r139.2.2=8))))]) (b:=(((((r150 && (decide (r81.2=8))) && (decide (r135.2=8))) && (decide (r137.1=300))) && (decide (r137.2.1=2))) && (decide (r137.2.2=0)))) 3 hS ?_ ?_ ?_
  ·
    intro hb key
    replace hF:=Fr.as hF (t:=127) rfl (congrArg Value.bool hb)
    refine ls<|gy hF rfl rfl<|q1 hF rfl (e_move hF rfl) fun a hF=>?_
    refine ls<|gy hF rfl rfl<|q1 hF rfl (e_eql hF rfl rfl) fun a hF=>?_
    refine ls<|q1 hF rfl (e_as (v':=.bool ((((((r150 && (decide (r81.2=8))) && (decide (r135.2=8))) && (decide (r137.1=300))) && (decide (r137.2.1=2))) && (decide (r137.2.2=0))) && (decide (r139.2.2=8)))) (e_pickT hF rfl rfl) (by rw [hb];rfl)) fun a hF=>?_
    exact key _ _ (hF.has ⟨rfl,rfl,rfl,rfl,rfl,trivial⟩) hS
  ·
    intro hb key
    replace hF:=Fr.as hF (t:=127) rfl (congrArg Value.bool hb)
    refine ls<|gn hF rfl rfl rfl rfl fun a hF=>?_
    refine ls<|gn hF rfl rfl rfl rfl fun a hF=>?_
    refine ls<|q1 hF rfl (e_as (v':=.bool ((((((r150 && (decide (r81.2=8))) && (decide (r135.2=8))) && (decide (r137.1=300))) && (decide (r137.2.1=2))) && (decide (r137.2.2=0))) && (decide (r139.2.2=8)))) (e_pickF hF rfl rfl) (by rw [hb];rfl)) fun a hF=>?_
    exact key _ _ (hF.has ⟨rfl,rfl,rfl,rfl,rfl,trivial⟩) hS
  intro a w hF hS
  refine ls<|q1 hF rfl (e_move hF rfl) fun a hF=>?_
  refine grp (N:=163) (Fk:=[(1,.pointer (some ⟨b18,0,none⟩)),(21,.int .i64 r143.2.2),(24,.int .i64 r145.2.2),(134,.bool (((((((r150 && (decide (r81.2=8))) && (decide (r135.2=8))) && (decide (r137.1=300))) && (decide (r137.2.1=2))) && (decide (r137.2.2=0))) && (decide (r139.2.2=8))) && (decide (r141.2.2=6))))]) (b:=((((((r150 && (decide (r81.2=8))) && (decide (r135.2=8))) && (decide (r137.1=300))) && (decide (r137.2.1=2))) && (decide (r137.2.2=0))) && (decide (r139.2.2=8)))) 3 hS ?_ ?_ ?_
  ·
    intro hb key
    replace hF:=Fr.as hF (t:=131) rfl (congrArg Value.bool hb)
    refine ls<|gy hF rfl rfl<|q1 hF rfl (e_move hF rfl) fun a hF=>?_
    refine ls<|gy hF rfl rfl<|q1 hF rfl (e_eql hF rfl rfl) fun a hF=>?_
    refine ls<|q1 hF rfl (e_as (v':=.bool (((((((r150 && (decide (r81.2=8))) && (decide (r135.2=8))) && (decide (r137.1=300))) && (decide (r137.2.1=2))) && (decide (r137.2.2=0))) && (decide (r139.2.2=8))) && (decide (r141.2.2=6)))) (e_pickT hF rfl rfl) (by rw [hb];rfl)) fun a hF=>?_
    exact key _ _ (hF.has ⟨rfl,rfl,rfl,rfl,trivial⟩) hS
  ·
    intro hb key
    replace hF:=Fr.as hF (t:=131) rfl (congrArg Value.bool hb)
    refine ls<|gn hF rfl rfl rfl rfl fun a hF=>?_
    refine ls<|gn hF rfl rfl rfl rfl fun a hF=>?_
    refine ls<|q1 hF rfl (e_as (v':=.bool (((((((r150 && (decide (r81.2=8))) && (decide (r135.2=8))) && (decide (r137.1=300))) && (decide (r137.2.1=2))) && (decide (r137.2.2=0))) && (decide (r139.2.2=8))) && (decide (r141.2.2=6)))) (e_pickF hF rfl rfl) (by rw [hb];rfl)) fun a hF=>?_
    exact key _ _ (hF.has ⟨rfl,rfl,rfl,rfl,trivial⟩) hS
  intro a w hF hS
  refine ls<|q1 hF rfl (e_move hF rfl) fun a hF=>?_
  refine grp (N:=163) (Fk:=[(1,.pointer (some ⟨b18,0,none⟩)),(24,.int .i64 r145.2.2),(138,.bool ((((((((r150 && (decide (r81.2=8))) && (decide (r135.2=8))) && (decide (r137.1=300))) && (decide (r137.2.1=2))) && (decide (r137.2.2=0))) && (decide (r139.2.2=8))) && (decide (r141.2.2=6))) && (decide (r143.2.2=1))))]) (b:=(((((((r150 && (decide (r81.2=8))) && (decide (r135.2=8))) && (decide (r137.1=300))) && (decide (r137.2.1=2))) && (decide (r137.2.2=0))) && (decide (r139.2.2=8))) && (decide (r141.2.2=6)))) 3 hS ?_ ?_ ?_
  ·
    intro hb key
    replace hF:=Fr.as hF (t:=135) rfl (congrArg Value.bool hb)
    refine ls<|gy hF rfl rfl<|q1 hF rfl (e_move hF rfl) fun a hF=>?_
    refine ls<|gy hF rfl rfl<|q1 hF rfl (e_eql hF rfl rfl) fun a hF=>?_
    refine ls<|q1 hF rfl (e_as (v':=.bool ((((((((r150 && (decide (r81.2=8))) && (decide (r135.2=8))) && (decide (r137.1=300))) && (decide (r137.2.1=2))) && (decide (r137.2.2=0))) && (decide (r139.2.2=8))) && (decide (r141.2.2=6))) && (decide (r143.2.2=1)))) (e_pickT hF rfl rfl) (by rw [hb];rfl)) fun a hF=>?_
    exact key _ _ (hF.has ⟨rfl,rfl,rfl,trivial⟩) hS
  ·
    intro hb key
    replace hF:=Fr.as hF (t:=135) rfl (congrArg Value.bool hb)
    refine ls<|gn hF rfl rfl rfl rfl fun a hF=>?_
    refine ls<|gn hF rfl rfl rfl rfl fun a hF=>?_
    refine ls<|q1 hF rfl (e_as (v':=.bool ((((((((r150 && (decide (r81.2=8))) && (decide (r135.2=8))) && (decide (r137.1=300))) && (decide (r137.2.1=2))) && (decide (r137.2.2=0))) && (decide (r139.2.2=8))) && (decide (r141.2.2=6))) && (decide (r143.2.2=1)))) (e_pickF hF rfl rfl) (by rw [hb];rfl)) fun a hF=>?_
    exact key _ _ (hF.has ⟨rfl,rfl,rfl,trivial⟩) hS
  intro a w hF hS
  refine ls<|q1 hF rfl (e_move hF rfl) fun a hF=>?_
  refine grp (N:=163) (Fk:=[(1,.pointer (some ⟨b18,0,none⟩)),(142,.bool (((((((((r150 && (decide (r81.2=8))) && (decide (r135.2=8))) && (decide (r137.1=300))) && (decide (r137.2.1=2))) && (decide (r137.2.2=0))) && (decide (r139.2.2=8))) && (decide (r141.2.2=6))) && (decide (r143.2.2=1))) && (decide (r145.2.2=2))))]) (b:=((((((((r150 && (decide (r81.2=8))) && (decide (r135.2=8))) && (decide (r137.1=300))) && (decide (r137.2.1=2))) && (decide (r137.2.2=0))) && (decide (r139.2.2=8))) && (decide (r141.2.2=6))) && (decide (r143.2.2=1)))) 3 hS ?_ ?_ ?_
  ·
    intro hb key
    replace hF:=Fr.as hF (t:=139) rfl (congrArg Value.bool hb)
    refine ls<|gy hF rfl rfl<|q1 hF rfl (e_move hF rfl) fun a hF=>?_
    refine ls<|gy hF rfl rfl<|q1 hF rfl (e_eql hF rfl rfl) fun a hF=>?_
    refine ls<|q1 hF rfl (e_as (v':=.bool (((((((((r150 && (decide (r81.2=8))) && (decide (r135.2=8))) && (decide (r137.1=300))) && (decide (r137.2.1=2))) && (decide (r137.2.2=0))) && (decide (r139.2.2=8))) && (decide (r141.2.2=6))) && (decide (r143.2.2=1))) && (decide (r145.2.2=2)))) (e_pickT hF rfl rfl) (by rw [hb];rfl)) fun a hF=>?_
    exact key _ _ (hF.has ⟨rfl,rfl,trivial⟩) hS
  ·
    intro hb key
    replace hF:=Fr.as hF (t:=139) rfl (congrArg Value.bool hb)
    refine ls<|gn hF rfl rfl rfl rfl fun a hF=>?_
    refine ls<|gn hF rfl rfl rfl rfl fun a hF=>?_
    refine ls<|q1 hF rfl (e_as (v':=.bool (((((((((r150 && (decide (r81.2=8))) && (decide (r135.2=8))) && (decide (r137.1=300))) && (decide (r137.2.1=2))) && (decide (r137.2.2=0))) && (decide (r139.2.2=8))) && (decide (r141.2.2=6))) && (decide (r143.2.2=1))) && (decide (r145.2.2=2)))) (e_pickF hF rfl rfl) (by rw [hb];rfl)) fun a hF=>?_
    exact key _ _ (hF.has ⟨rfl,rfl,trivial⟩) hS
  intro a w hF hS
  refine ls<|q1 hF rfl (e_as (e_move hF rfl) (congrArg Value.bool hb152)) fun a hF=>?_
  refine ls<|gy hF rfl rfl<|c1 hF rfl Tryz.call43 (Za_c (hp_le _) h154) ⟨rfl,trivial⟩ (fun v w a hR hF=>?_)
  obtain ⟨rfl,hk⟩:=hR
  replace hS:=hS.pass hk
  clear hk
  refine ls<|gy hF rfl rfl<|q1 hF rfl (e_eqlU (m:=r153) (n:=[172,2]) hF rfl rfl) fun a hF=>?_
  refine ls<|q1 hF rfl (e_pickT hF rfl rfl) fun a hF=>?_
  refine ls<|q1 hF rfl (e_as (e_move hF rfl) (congrArg Value.bool hb155)) fun a hF=>?_
  refine ls<|gy hF rfl rfl<|c1 hF rfl Tryz.call43 (Za_c (hp_le _) h157) ⟨rfl,trivial⟩ (fun v w a hR hF=>?_)
  obtain ⟨rfl,hk⟩:=hR
  replace hS:=hS.pass hk
  clear hk
  refine ls<|gy hF rfl rfl<|q1 hF rfl (e_eqlU (m:=r156) (n:=[]) hF rfl rfl) fun a hF=>?_
  refine ls<|q1 hF rfl (e_pickT hF rfl rfl) fun a hF=>?_
  refine ls<|q1 hF rfl (e_as (e_move hF rfl) (congrArg Value.bool hb158)) fun a hF=>?_
  refine ls<|gy hF rfl rfl<|c1 hF rfl Tryz.call17 (Zg_c (hp_le _) (Tab.mono (Tab.mono hT (fun b o h=>(fun b o h=>(fun b o h=>(fun b o h=>hx83.sub b o (hx27.sub b o h)) b o (hx19.sub b o h)) b o (hx11.sub b o h)) b o (hx4.sub b o h))) (St.up hS)) h160) ⟨rfl,trivial⟩ (fun v w a hR hF=>?_)
  obtain ⟨rfl,hk⟩:=hR
  replace hS:=hS.pass hk
  clear hk
  refine ls<|gy hF rfl rfl<|q1 hF rfl (e_eqlU (m:=r159) (n:=[99,104,101,99,107]) hF rfl rfl) fun a hF=>?_
  refine ls<|q1 hF rfl (e_pickT hF rfl rfl) fun a hF=>?_
  refine ls<|q1 hF rfl (e_as (e_move hF rfl) (congrArg Value.bool hb161)) fun a hF=>?_
  refine ls<|gy hF rfl rfl<|q1 hF rfl (e_fa hF fa29_4 rfl) fun a hF=>?_
  refine ls<|gy hF rfl rfl<|q1 hF rfl (e_ld hF Tryz.isAgg23 rfl ((St.ld hS).cellB (.tail _ (.tail _ (.head _))) rfl)) fun a hF=>?_
  refine ls<|gy hF rfl rfl<|q1 hF rfl (e_iaI hF Tryz.runUnderlying23 Tryz.sizeOf26 rfl rfl h163 (SR.oaI hr20 (by decide) h163)) fun a hF=>?_
  refine ls<|gy hF rfl rfl<|q1 hF rfl (e_ldA hF Tryz.isAgg26 Tryz.sizeOf26 rfl rfl (fun j v hj=>PH.le.cell (fun b o hx=>(Lds.le (St.ld hS)) b o ((fun b o h=>hx83.sub b o (hx27.sub b o h)) b o hx)) (hl166 j v hj))) fun a hF=>?_
  refine ls<|gy hF rfl rfl<|c1 hF rfl Tryz.call15 (Zd_c (hp_le _) (Tab.mono (Tab.mono hT (fun b o h=>(fun b o h=>(fun b o h=>(fun b o h=>hx83.sub b o (hx27.sub b o h)) b o (hx19.sub b o h)) b o (hx11.sub b o h)) b o (hx4.sub b o h))) (St.up hS)) (Enc.mono (St.up hS) (show Enc.rep (α:=api_Code) H86 [.int .i64 x162.Regs,.int .i64 x162.Counts,.slice oa167 x162.L.length cap168] x162 from ⟨_,_,rfl,rfl,⟨_,_,rfl,rfl,⟨_,_,rfl,hc169,(hr170.mono (fun b o h=>hx83.sub b o (hx27.sub b o h)))⟩⟩⟩)) h172) ⟨rfl,trivial⟩ (fun v w a hR hF=>?_)
  obtain ⟨rfl,hk⟩:=hR
  replace hS:=hS.pass hk
  clear hk
  refine ls<|gy hF rfl rfl<|q1 hF rfl (e_eqlU (m:=r171) (n:=[48,32,115,101,116,32,48,32,48,32,48,32,91,35,49,32,35,50,32,58,53,93,10]) hF rfl rfl) fun a hF=>?_
  refine ls<|q1 hF rfl (e_pickT hF rfl rfl) fun a hF=>?_
  refine ls<|q1 hF rfl (e_asg hF rfl) fun a hF=>?_
  refine re<|?_
  refine tn<|?_
  refine wr<|?_
  obtain rfl:=Option.some.inj hm
  exact r1 hF Tryz.results13 rfl ⟨rfl,hS.keep⟩
set_option maxHeartbeats 4000000 in
set_option maxRecDepth 100000 in
theorem Z1q_c {N:Nat} {w0:World} {H:PH} (hH:H.le w0) (hT:Tab H) {cs2:List Value} {p1:api_Unit} (g3:Enc.rep H cs2 p1) {p4:Str} {r:Bool} (hm:Z1q N p1 p4=some r):Tot Tryz.prog 3 #[.agg cs2.toArray,strv p4] w0 (fun v w'=>v=.bool r∧Keep Nil w0 w'):=by
  unfold Z1q at hm
  refine fn0 (args:=[.agg cs2.toArray,strv p4]) (F:=[(0,.agg cs2.toArray),(1,strv p4)]) Tryz.func3 rfl Tryz.ntmps3 rfl rfl fun a hF=>?_
  have hS:St w0 Nil [H] [] w0:=start1 hH
  have g5:Enc.rep (α:=(List Int)×Int×(List Int)×Int×(List api_Code)×api_Code×(List (List api_Op))) H cs2 (p1.Lines,p1.Stays,p1.Firsts,p1.Locks,p1.Threads,p1.Recover,p1.Claims):=g3
  obtain ⟨qz6,qz7,rfl,g8,g9⟩:=g5
  obtain ⟨oa10,cap11,rfl,hc12,hr13⟩:=g8
  obtain ⟨q14,q15,rfl,g16,g17⟩:=g9
  obtain rfl:q14=[.int .i64 p1.Stays]:=g16
  obtain ⟨q18,q19,rfl,g20,g21⟩:=g17
  obtain ⟨oa22,cap23,rfl,hc24,hr25⟩:=g20
  obtain ⟨q26,q27,rfl,g28,g29⟩:=g21
  obtain rfl:q26=[.int .i64 p1.Locks]:=g28
  obtain ⟨q30,q31,rfl,g32,g33⟩:=g29
  obtain ⟨oa34,cap35,rfl,hc36,hr37⟩:=g32
  obtain ⟨q38,q39,rfl,g40,g41⟩:=g33
  obtain ⟨oa42,cap43,rfl,hc44,hr45⟩:=api_Code_open g40
  obtain ⟨oa46,cap47,rfl,hc48,hr49⟩:=g41
  refine th<|?_
  refine rg<|?_
  refine ls<|a_box (cs:=[.slice oa10 p1.Lines.length cap11,.int .i64 p1.Stays,.slice oa22 p1.Firsts.length cap23,.int .i64 p1.Locks,.slice oa34 p1.Threads.length cap35,.int .i64 p1.Recover.Regs,.int .i64 p1.Recover.Counts,.slice oa42 p1.Recover.L.length cap43,.slice oa46 p1.Claims.length cap47].toArray) hF rfl hS rfl rfl fun b50 w a hS hF=>?_
  refine ls<|q1 hF rfl (e_asg hF rfl) fun a hF=>?_
  refine re<|?_
  refine tn<|th<|?_
  replace hm:=bind_some hm
  obtain ⟨r51,h52,hm⟩:=hm
  refine rg<|?_
  refine ls<|q1 hF rfl (e_ldA hF Tryz.isAgg29 Tryz.sizeOf29 rfl rfl ((St.ld hS).cellsB (.head _))) fun a hF=>?_
  refine ls<|c1 hF rfl Tryz.call7 (Z1h_c (St.le hS) (show Enc.rep (α:=api_Unit) H [.slice oa10 p1.Lines.length cap11,.int .i64 p1.Stays,.slice oa22 p1.Firsts.length cap23,.int .i64 p1.Locks,.slice oa34 p1.Threads.length cap35,.int .i64 p1.Recover.Regs,.int .i64 p1.Recover.Counts,.slice oa42 p1.Recover.L.length cap43,.slice oa46 p1.Claims.length cap47] p1 from ⟨_,_,rfl,⟨_,_,rfl,hc12,hr13⟩,⟨_,_,rfl,rfl,⟨_,_,rfl,⟨_,_,rfl,hc24,hr25⟩,⟨_,_,rfl,rfl,⟨_,_,rfl,⟨_,_,rfl,hc36,hr37⟩,⟨_,_,rfl,⟨_,_,rfl,rfl,⟨_,_,rfl,rfl,⟨_,_,rfl,hc44,hr45⟩⟩⟩,⟨_,_,rfl,hc48,hr49⟩⟩⟩⟩⟩⟩⟩) h52) ⟨rfl,trivial⟩ (fun v w a hR hF=>?_)
  obtain ⟨H56,cs57,rfl,g58,hx53,hl54,hk⟩:=hR
  obtain ⟨hS,hx53⟩:=And.intro (St.passH hS hk hx53 hl54) (St.extc hS hx53)
  clear hk
  have g59:Enc.rep (α:=(List Int)×Int×(List Int)×Int×(List api_Code)×api_Code×(List (List api_Op))) H56 cs57 (r51.Lines,r51.Stays,r51.Firsts,r51.Locks,r51.Threads,r51.Recover,r51.Claims):=g58
  obtain ⟨q60,q61,rfl,g62,g63⟩:=g59
  obtain ⟨oa64,cap65,rfl,hc66,hr67⟩:=g62
  obtain ⟨q68,q69,rfl,g70,g71⟩:=g63
  obtain rfl:q68=[.int .i64 r51.Stays]:=g70
  obtain ⟨q72,q73,rfl,g74,g75⟩:=g71
  obtain ⟨oa76,cap77,rfl,hc78,hr79⟩:=g74
  obtain ⟨q80,q81,rfl,g82,g83⟩:=g75
  obtain rfl:q80=[.int .i64 r51.Locks]:=g82
  obtain ⟨q84,q85,rfl,g86,g87⟩:=g83
  obtain ⟨oa88,cap89,rfl,hc90,hr91⟩:=g86
  obtain ⟨q92,q93,rfl,g94,g95⟩:=g87
  obtain ⟨oa96,cap97,rfl,hc98,hr99⟩:=api_Code_open g94
  obtain ⟨oa100,cap101,rfl,hc102,hr103⟩:=g95
  refine ls<|s_blkA hF hS Tryz.sizeOf29 rfl rfl rfl rfl (one_cells rfl) .head fun w hS=>?_
  refine re<|?_
  refine tn<|th<|?_
  replace hm:=bind_some hm
  obtain ⟨s104,h105,hm⟩:=hm
  refine rg<|?_
  refine ls<|q1 hF rfl (e_move hF rfl) fun a hF=>?_
  refine ls<|q1 hF rfl (e_move hF rfl) fun a hF=>?_
  refine ls<|q1 hF rfl (e_lenU (s:=p4) hF Tryz.runUnderlying9 rfl) fun a hF=>?_
  refine ls<|q1 hF rfl (e_min hF rfl rfl) fun a hF=>?_
  refine ls<|q1 hF rfl (e_subU (s:=p4) (vl:=0) (vh:=(min (p4.length:Int) 2000)) hF Tryz.runUnderlying9 rfl rfl rfl h105) fun a hF=>?_
  refine ls<|q1 hF rfl (e_asg hF rfl) fun a hF=>?_
  refine re<|?_
  refine tn<|th<|?_
  replace hm:=bind_some hm
  obtain ⟨r106,h107,hm⟩:=hm
  refine rg<|?_
  refine ls<|q1 hF rfl (e_ldA hF Tryz.isAgg29 Tryz.sizeOf29 rfl rfl ((St.ld hS).cellsB (.head _))) fun a hF=>?_
  refine ls<|c1 hF rfl Tryz.call8 (Z2_c (hp_le _) (Enc.mono (St.up hS) (show Enc.rep (α:=api_Unit) H56 [.slice oa64 r51.Lines.length cap65,.int .i64 r51.Stays,.slice oa76 r51.Firsts.length cap77,.int .i64 r51.Locks,.slice oa88 r51.Threads.length cap89,.int .i64 r51.Recover.Regs,.int .i64 r51.Recover.Counts,.slice oa96 r51.Recover.L.length cap97,.slice oa100 r51.Claims.length cap101] r51 from ⟨_,_,rfl,⟨_,_,rfl,hc66,hr67⟩,⟨_,_,rfl,rfl,⟨_,_,rfl,⟨_,_,rfl,hc78,hr79⟩,⟨_,_,rfl,rfl,⟨_,_,rfl,⟨_,_,rfl,hc90,hr91⟩,⟨_,_,rfl,⟨_,_,rfl,rfl,⟨_,_,rfl,rfl,⟨_,_,rfl,hc98,hr99⟩⟩⟩,⟨_,_,rfl,hc102,hr103⟩⟩⟩⟩⟩⟩⟩)) h107) ⟨rfl,trivial⟩ (fun v w a hR hF=>?_)
  obtain ⟨rfl,hk⟩:=hR
  replace hS:=hS.pass hk
  clear hk
  refine ls<|q1 hF rfl (e_move hF rfl) fun a hF=>?_
  refine ls<|q1 hF rfl (e_ext hF rfl rfl) fun a hF=>?_
  refine ls<|q1 hF rfl (e_ext hF rfl rfl) fun a hF=>?_
  refine ls<|q1 hF rfl (e_asg hF rfl) fun a hF=>?_
  refine ls<|q1 hF rfl (e_asg hF rfl) fun a hF=>?_
  refine re<|?_
  refine tn<|th<|?_
  replace hm:=bind_some hm
  obtain ⟨r108,h109,hm⟩:=hm
  refine rg<|?_
  refine ls<|q1 hF rfl (e_ldA hF Tryz.isAgg29 Tryz.sizeOf29 rfl rfl ((St.ld hS).cellsB (.head _))) fun a hF=>?_
  refine ls<|c1 hF rfl Tryz.call9 (Z3j_c (hp_le _) (Enc.mono (St.up hS) (show Enc.rep (α:=api_Unit) H56 [.slice oa64 r51.Lines.length cap65,.int .i64 r51.Stays,.slice oa76 r51.Firsts.length cap77,.int .i64 r51.Locks,.slice oa88 r51.Threads.length cap89,.int .i64 r51.Recover.Regs,.int .i64 r51.Recover.Counts,.slice oa96 r51.Recover.L.length cap97,.slice oa100 r51.Claims.length cap101] r51 from ⟨_,_,rfl,⟨_,_,rfl,hc66,hr67⟩,⟨_,_,rfl,rfl,⟨_,_,rfl,⟨_,_,rfl,hc78,hr79⟩,⟨_,_,rfl,rfl,⟨_,_,rfl,⟨_,_,rfl,hc90,hr91⟩,⟨_,_,rfl,⟨_,_,rfl,rfl,⟨_,_,rfl,rfl,⟨_,_,rfl,hc98,hr99⟩⟩⟩,⟨_,_,rfl,hc102,hr103⟩⟩⟩⟩⟩⟩⟩)) h109) ⟨rfl,trivial⟩ (fun v w a hR hF=>?_)
  obtain ⟨rfl,hk⟩:=hR
  replace hS:=hS.pass hk
  clear hk
  refine ls<|q1 hF rfl (e_move hF rfl) fun a hF=>?_
  refine ls<|q1 hF rfl (e_ext hF rfl rfl) fun a hF=>?_
  refine ls<|q1 hF rfl (e_ext hF rfl rfl) fun a hF=>?_
  refine ls<|q1 hF rfl (e_asg hF rfl) fun a hF=>?_
  refine ls<|q1 hF rfl (e_asg hF rfl) fun a hF=>?_
  refine re<|?_
  refine tn<|th<|?_
  replace hm:=bind_some hm
  obtain ⟨r110,h111,hm⟩:=hm
  refine rg<|?_
  refine ls<|q1 hF rfl (e_move hF rfl) fun a hF=>?_
  refine ls<|c1 hF rfl Tryz.call10 (Z0_c (St.le hS) h111) ⟨rfl,trivial⟩ (fun v w a hR hF=>?_)
  obtain ⟨H115,cs116,rfl,g117,hx112,hl113,hk⟩:=hR
  obtain ⟨hS,hx112⟩:=And.intro (St.passH hS hk hx112 hl113) (St.extc hS hx112)
  clear hk
  have g118:Enc.rep (α:=(List Int)×Int×(List Int)×Int×(List api_Code)×api_Code×(List (List api_Op))) H115 cs116 (r110.1.Lines,r110.1.Stays,r110.1.Firsts,r110.1.Locks,r110.1.Threads,r110.1.Recover,r110.1.Claims):=g117
  obtain ⟨q119,q120,rfl,g121,g122⟩:=g118
  obtain ⟨oa123,cap124,rfl,hc125,hr126⟩:=g121
  obtain ⟨q127,q128,rfl,g129,g130⟩:=g122
  obtain rfl:q127=[.int .i64 r110.1.Stays]:=g129
  obtain ⟨q131,q132,rfl,g133,g134⟩:=g130
  obtain ⟨oa135,cap136,rfl,hc137,hr138⟩:=g133
  obtain ⟨q139,q140,rfl,g141,g142⟩:=g134
  obtain rfl:q139=[.int .i64 r110.1.Locks]:=g141
  obtain ⟨q143,q144,rfl,g145,g146⟩:=g142
  obtain ⟨oa147,cap148,rfl,hc149,hr150⟩:=g145
  obtain ⟨q151,q152,rfl,g153,g154⟩:=g146
  obtain ⟨oa155,cap156,rfl,hc157,hr158⟩:=api_Code_open g153
  obtain ⟨oa159,cap160,rfl,hc161,hr162⟩:=g154
  refine ls<|q1 hF rfl (e_move hF rfl) fun a hF=>?_
  refine ls<|q1 hF rfl (e_ext hF rfl rfl) fun a hF=>?_
  refine ls<|q1 hF rfl (e_ext hF rfl rfl) fun a hF=>?_
  refine ls<|a_alloc (cs:=[.slice none 0 0,.int .i64 0,.slice none 0 0,.int .i64 0,.slice none 0 0,.int .i64 0,.int .i64 0,.slice none 0 0,.slice none 0 0].toArray) hF rfl hS Tryz.zeroValue29 rfl fun b163 w a hS hF=>?_
  refine ls<|s_blkA hF hS Tryz.sizeOf29 rfl rfl rfl rfl (one_cells rfl) .head fun w hS=>?_
  refine ls<|q1 hF rfl (e_asg hF rfl) fun a hF=>?_
  refine re<|?_
  refine tn<|th<|?_
  replace hm:=bind_some hm
  obtain ⟨r164,h165,hm⟩:=hm
  refine rg<|?_
  refine ls<|q1 hF rfl (e_move hF rfl) fun a hF=>?_
  refine ls<|c1 hF rfl Tryz.call11 (Z3e_c (St.le hS) h165) ⟨rfl,trivial⟩ (fun v w a hR hF=>?_)
  obtain ⟨H169,cs170,rfl,g171,hx166,hl167,hk⟩:=hR
  obtain ⟨hS,hx166⟩:=And.intro (St.passH hS hk hx166 hl167) (St.extc hS hx166)
  clear hk
  have g172:Enc.rep (α:=(List Int)×Int×(List Int)×Int×(List api_Code)×api_Code×(List (List api_Op))) H169 cs170 (r164.1.Lines,r164.1.Stays,r164.1.Firsts,r164.1.Locks,r164.1.Threads,r164.1.Recover,r164.1.Claims):=g171
  obtain ⟨q173,q174,rfl,g175,g176⟩:=g172
  obtain ⟨oa177,cap178,rfl,hc179,hr180⟩:=g175
  obtain ⟨q181,q182,rfl,g183,g184⟩:=g176
  obtain rfl:q181=[.int .i64 r164.1.Stays]:=g183
  obtain ⟨q185,q186,rfl,g187,g188⟩:=g184
  obtain ⟨oa189,cap190,rfl,hc191,hr192⟩:=g187
  obtain ⟨q193,q194,rfl,g195,g196⟩:=g188
  obtain rfl:q193=[.int .i64 r164.1.Locks]:=g195
  obtain ⟨q197,q198,rfl,g199,g200⟩:=g196
  obtain ⟨oa201,cap202,rfl,hc203,hr204⟩:=g199
  obtain ⟨q205,q206,rfl,g207,g208⟩:=g200
  obtain ⟨oa209,cap210,rfl,hc211,hr212⟩:=api_Code_open g207
  obtain ⟨oa213,cap214,rfl,hc215,hr216⟩:=g208
  refine ls<|q1 hF rfl (e_move hF rfl) fun a hF=>?_
  refine ls<|q1 hF rfl (e_ext hF rfl rfl) fun a hF=>?_
  refine ls<|q1 hF rfl (e_ext hF rfl rfl) fun a hF=>?_
  refine ls<|a_alloc (cs:=[.slice none 0 0,.int .i64 0,.slice none 0 0,.int .i64 0,.slice none 0 0,.int .i64 0,.int .i64 0,.slice none 0 0,.slice none 0 0].toArray) hF rfl hS Tryz.zeroValue29 rfl fun b217 w a hS hF=>?_
  refine ls<|s_blkA hF hS Tryz.sizeOf29 rfl rfl rfl rfl (one_cells rfl) .head fun w hS=>?_
  refine ls<|q1 hF rfl (e_asg hF rfl) fun a hF=>?_
  refine re<|?_
  refine tn<|th<|?_
  rcases bdich ((decide (r106.1=r108.1)) && (decide (r106.2=r108.2))) with hb218 | hb218
  ·
    replace hm:=ite_t hm hb218
    replace hm:=bind_some hm
    obtain ⟨r219,h220,hm⟩:=hm
    rcases bdich (r219 && (decide (r110.2=r164.2))) with hb221 | hb221
    ·
      replace hm:=ite_t hm hb221
      replace hm:=bind_some hm
      obtain ⟨r222,h223,hm⟩:=hm
      refine rg<|?_
      refine ls<|q1 hF rfl (e_move hF rfl) fun a hF=>?_
      refine ls<|q1 hF rfl (e_move hF rfl) fun a hF=>?_
      refine ls<|q1 hF rfl (e_eqlU (m:=r106.1) (n:=r108.1) hF rfl rfl) fun a hF=>?_
      refine ls<|q1 hF rfl (e_move hF rfl) fun a hF=>?_
      refine grp (N:=61) (Fk:=[(9,.pointer (some ⟨b163,0,none⟩)),(10,.int .i64 r110.2),(11,.pointer (some ⟨b217,0,none⟩)),(12,.int .i64 r164.2),(47,.bool ((decide (r106.1=r108.1)) && (decide (r106.2=r108.2))))]) (b:=(decide (r106.1=r108.1))) 4 hS ?_ ?_ ?_
      ·
        intro hb key
        replace hF:=Fr.as hF (t:=43) rfl (congrArg Value.bool hb)
        refine ls<|gy hF rfl rfl<|q1 hF rfl (e_move hF rfl) fun a hF=>?_
        refine ls<|gy hF rfl rfl<|q1 hF rfl (e_move hF rfl) fun a hF=>?_
        refine ls<|gy hF rfl rfl<|q1 hF rfl (e_eql hF rfl rfl) fun a hF=>?_
        refine ls<|q1 hF rfl (e_as (v':=.bool ((decide (r106.1=r108.1)) && (decide (r106.2=r108.2)))) (e_pickT hF rfl rfl) (by rw [hb];rfl)) fun a hF=>?_
        exact key _ _ (hF.has ⟨rfl,rfl,rfl,rfl,rfl,trivial⟩) hS
      ·
        intro hb key
        replace hF:=Fr.as hF (t:=43) rfl (congrArg Value.bool hb)
        refine ls<|gn hF rfl rfl rfl rfl fun a hF=>?_
        refine ls<|gn hF rfl rfl rfl rfl fun a hF=>?_
        refine ls<|gn hF rfl rfl rfl rfl fun a hF=>?_
        refine ls<|q1 hF rfl (e_as (v':=.bool ((decide (r106.1=r108.1)) && (decide (r106.2=r108.2)))) (e_pickF hF rfl rfl) (by rw [hb];rfl)) fun a hF=>?_
        exact key _ _ (hF.has ⟨rfl,rfl,rfl,rfl,rfl,trivial⟩) hS
      intro a w hF hS
      refine ls<|q1 hF rfl (e_as (e_move hF rfl) (congrArg Value.bool hb218)) fun a hF=>?_
      refine ls<|gy hF rfl rfl<|q1 hF rfl (e_ldA hF Tryz.isAgg29 Tryz.sizeOf29 rfl rfl ((St.ld hS).cellsB (.tail _ (.head _)))) fun a hF=>?_
      refine ls<|gy hF rfl rfl<|q1 hF rfl (e_ldA hF Tryz.isAgg29 Tryz.sizeOf29 rfl rfl ((St.ld hS).cellsB (.head _))) fun a hF=>?_
      refine ls<|gy hF rfl rfl<|c1 hF rfl Tryz.call12 (Z2p_c (hp_le _) (Enc.mono (St.up hS) (show Enc.rep (α:=api_Unit) H169 [.slice oa123 r110.1.Lines.length cap124,.int .i64 r110.1.Stays,.slice oa135 r110.1.Firsts.length cap136,.int .i64 r110.1.Locks,.slice oa147 r110.1.Threads.length cap148,.int .i64 r110.1.Recover.Regs,.int .i64 r110.1.Recover.Counts,.slice oa155 r110.1.Recover.L.length cap156,.slice oa159 r110.1.Claims.length cap160] r110.1 from ⟨_,_,rfl,⟨_,_,rfl,hc125,(hr126.mono hx166.sub)⟩,⟨_,_,rfl,rfl,⟨_,_,rfl,⟨_,_,rfl,hc137,(hr138.mono hx166.sub)⟩,⟨_,_,rfl,rfl,⟨_,_,rfl,⟨_,_,rfl,hc149,(hr150.mono hx166.sub)⟩,⟨_,_,rfl,⟨_,_,rfl,rfl,⟨_,_,rfl,rfl,⟨_,_,rfl,hc157,(hr158.mono hx166.sub)⟩⟩⟩,⟨_,_,rfl,hc161,(hr162.mono hx166.sub)⟩⟩⟩⟩⟩⟩⟩)) (Enc.mono (St.up hS) (show Enc.rep (α:=api_Unit) H169 [.slice oa177 r164.1.Lines.length cap178,.int .i64 r164.1.Stays,.slice oa189 r164.1.Firsts.length cap190,.int .i64 r164.1.Locks,.slice oa201 r164.1.Threads.length cap202,.int .i64 r164.1.Recover.Regs,.int .i64 r164.1.Recover.Counts,.slice oa209 r164.1.Recover.L.length cap210,.slice oa213 r164.1.Claims.length cap214] r164.1 from ⟨_,_,rfl,⟨_,_,rfl,hc179,hr180⟩,⟨_,_,rfl,rfl,⟨_,_,rfl,⟨_,_,rfl,hc191,hr192⟩,⟨_,_,rfl,rfl,⟨_,_,rfl,⟨_,_,rfl,hc203,hr204⟩,⟨_,_,rfl,⟨_,_,rfl,rfl,⟨_,_,rfl,rfl,⟨_,_,rfl,hc211,hr212⟩⟩⟩,⟨_,_,rfl,hc215,hr216⟩⟩⟩⟩⟩⟩⟩)) h220) ⟨rfl,rfl,trivial⟩ (fun v w a hR hF=>?_)
      obtain ⟨rfl,hk⟩:=hR
      replace hS:=hS.pass hk
      clear hk
      refine ls<|q1 hF rfl (e_pickT hF rfl rfl) fun a hF=>?_
      refine ls<|q1 hF rfl (e_move hF rfl) fun a hF=>?_
      refine grp (N:=61) (Fk:=[(57,.bool (r219 && (decide (r110.2=r164.2))))]) (b:=r219) 4 hS ?_ ?_ ?_
      ·
        intro hb key
        replace hF:=Fr.as hF (t:=53) rfl (congrArg Value.bool hb)
        refine ls<|gy hF rfl rfl<|q1 hF rfl (e_move hF rfl) fun a hF=>?_
        refine ls<|gy hF rfl rfl<|q1 hF rfl (e_move hF rfl) fun a hF=>?_
        refine ls<|gy hF rfl rfl<|q1 hF rfl (e_eql hF rfl rfl) fun a hF=>?_
        refine ls<|q1 hF rfl (e_as (v':=.bool (r219 && (decide (r110.2=r164.2)))) (e_pickT hF rfl rfl) (by rw [hb];rfl)) fun a hF=>?_
        exact key _ _ (hF.has ⟨rfl,trivial⟩) hS
      ·
        intro hb key
        replace hF:=Fr.as hF (t:=53) rfl (congrArg Value.bool hb)
        refine ls<|gn hF rfl rfl rfl rfl fun a hF=>?_
        refine ls<|gn hF rfl rfl rfl rfl fun a hF=>?_
        refine ls<|gn hF rfl rfl rfl rfl fun a hF=>?_
        refine ls<|q1 hF rfl (e_as (v':=.bool (r219 && (decide (r110.2=r164.2)))) (e_pickF hF rfl rfl) (by rw [hb];rfl)) fun a hF=>?_
        exact key _ _ (hF.has ⟨rfl,trivial⟩) hS
      intro a w hF hS
      refine ls<|q1 hF rfl (e_as (e_move hF rfl) (congrArg Value.bool hb221)) fun a hF=>?_
      refine ls<|gy hF rfl rfl<|c1 hF rfl Tryz.call13 (Z1r_c (hp_le _) (Tab.mono (Tab.mono hT (fun b o h=>(fun b o h=>hx166.sub b o (hx112.sub b o h)) b o (hx53.sub b o h))) (St.up hS)) h223) trivial (fun v w a hR hF=>?_)
      obtain ⟨rfl,hk⟩:=hR
      replace hS:=hS.pass hk
      clear hk
      refine ls<|q1 hF rfl (e_pickT hF rfl rfl) fun a hF=>?_
      refine ls<|q1 hF rfl (e_asg hF rfl) fun a hF=>?_
      refine re<|?_
      refine tn<|?_
      refine wr<|?_
      obtain rfl:=Option.some.inj hm
      exact r1 hF Tryz.results3 rfl ⟨rfl,hS.keep⟩
    ·
      replace hm:=ite_f hm hb221
      refine rg<|?_
      refine ls<|q1 hF rfl (e_move hF rfl) fun a hF=>?_
      refine ls<|q1 hF rfl (e_move hF rfl) fun a hF=>?_
      refine ls<|q1 hF rfl (e_eqlU (m:=r106.1) (n:=r108.1) hF rfl rfl) fun a hF=>?_
      refine ls<|q1 hF rfl (e_move hF rfl) fun a hF=>?_
      refine grp (N:=61) (Fk:=[(9,.pointer (some ⟨b163,0,none⟩)),(10,.int .i64 r110.2),(11,.pointer (some ⟨b217,0,none⟩)),(12,.int .i64 r164.2),(47,.bool ((decide (r106.1=r108.1)) && (decide (r106.2=r108.2))))]) (b:=(decide (r106.1=r108.1))) 4 hS ?_ ?_ ?_
      ·
        intro hb key
        replace hF:=Fr.as hF (t:=43) rfl (congrArg Value.bool hb)
        refine ls<|gy hF rfl rfl<|q1 hF rfl (e_move hF rfl) fun a hF=>?_
        refine ls<|gy hF rfl rfl<|q1 hF rfl (e_move hF rfl) fun a hF=>?_
        refine ls<|gy hF rfl rfl<|q1 hF rfl (e_eql hF rfl rfl) fun a hF=>?_
        refine ls<|q1 hF rfl (e_as (v':=.bool ((decide (r106.1=r108.1)) && (decide (r106.2=r108.2)))) (e_pickT hF rfl rfl) (by rw [hb];rfl)) fun a hF=>?_
        exact key _ _ (hF.has ⟨rfl,rfl,rfl,rfl,rfl,trivial⟩) hS
      ·
        intro hb key
        replace hF:=Fr.as hF (t:=43) rfl (congrArg Value.bool hb)
        refine ls<|gn hF rfl rfl rfl rfl fun a hF=>?_
        refine ls<|gn hF rfl rfl rfl rfl fun a hF=>?_
        refine ls<|gn hF rfl rfl rfl rfl fun a hF=>?_
        refine ls<|q1 hF rfl (e_as (v':=.bool ((decide (r106.1=r108.1)) && (decide (r106.2=r108.2)))) (e_pickF hF rfl rfl) (by rw [hb];rfl)) fun a hF=>?_
        exact key _ _ (hF.has ⟨rfl,rfl,rfl,rfl,rfl,trivial⟩) hS
      intro a w hF hS
      refine ls<|q1 hF rfl (e_as (e_move hF rfl) (congrArg Value.bool hb218)) fun a hF=>?_
      refine ls<|gy hF rfl rfl<|q1 hF rfl (e_ldA hF Tryz.isAgg29 Tryz.sizeOf29 rfl rfl ((St.ld hS).cellsB (.tail _ (.head _)))) fun a hF=>?_
      refine ls<|gy hF rfl rfl<|q1 hF rfl (e_ldA hF Tryz.isAgg29 Tryz.sizeOf29 rfl rfl ((St.ld hS).cellsB (.head _))) fun a hF=>?_
      refine ls<|gy hF rfl rfl<|c1 hF rfl Tryz.call12 (Z2p_c (hp_le _) (Enc.mono (St.up hS) (show Enc.rep (α:=api_Unit) H169 [.slice oa123 r110.1.Lines.length cap124,.int .i64 r110.1.Stays,.slice oa135 r110.1.Firsts.length cap136,.int .i64 r110.1.Locks,.slice oa147 r110.1.Threads.length cap148,.int .i64 r110.1.Recover.Regs,.int .i64 r110.1.Recover.Counts,.slice oa155 r110.1.Recover.L.length cap156,.slice oa159 r110.1.Claims.length cap160] r110.1 from ⟨_,_,rfl,⟨_,_,rfl,hc125,(hr126.mono hx166.sub)⟩,⟨_,_,rfl,rfl,⟨_,_,rfl,⟨_,_,rfl,hc137,(hr138.mono hx166.sub)⟩,⟨_,_,rfl,rfl,⟨_,_,rfl,⟨_,_,rfl,hc149,(hr150.mono hx166.sub)⟩,⟨_,_,rfl,⟨_,_,rfl,rfl,⟨_,_,rfl,rfl,⟨_,_,rfl,hc157,(hr158.mono hx166.sub)⟩⟩⟩,⟨_,_,rfl,hc161,(hr162.mono hx166.sub)⟩⟩⟩⟩⟩⟩⟩)) (Enc.mono (St.up hS) (show Enc.rep (α:=api_Unit) H169 [.slice oa177 r164.1.Lines.length cap178,.int .i64 r164.1.Stays,.slice oa189 r164.1.Firsts.length cap190,.int .i64 r164.1.Locks,.slice oa201 r164.1.Threads.length cap202,.int .i64 r164.1.Recover.Regs,.int .i64 r164.1.Recover.Counts,.slice oa209 r164.1.Recover.L.length cap210,.slice oa213 r164.1.Claims.length cap214] r164.1 from ⟨_,_,rfl,⟨_,_,rfl,hc179,hr180⟩,⟨_,_,rfl,rfl,⟨_,_,rfl,⟨_,_,rfl,hc191,hr192⟩,⟨_,_,rfl,rfl,⟨_,_,rfl,⟨_,_,rfl,hc203,hr204⟩,⟨_,_,rfl,⟨_,_,rfl,rfl,⟨_,_,rfl,rfl,⟨_,_,rfl,hc211,hr212⟩⟩⟩,⟨_,_,rfl,hc215,hr216⟩⟩⟩⟩⟩⟩⟩)) h220) ⟨rfl,rfl,trivial⟩ (fun v w a hR hF=>?_)
      obtain ⟨rfl,hk⟩:=hR
      replace hS:=hS.pass hk
      clear hk
      refine ls<|q1 hF rfl (e_pickT hF rfl rfl) fun a hF=>?_
      refine ls<|q1 hF rfl (e_move hF rfl) fun a hF=>?_
      refine grp (N:=61) (Fk:=[(57,.bool (r219 && (decide (r110.2=r164.2))))]) (b:=r219) 4 hS ?_ ?_ ?_
      ·
        intro hb key
        replace hF:=Fr.as hF (t:=53) rfl (congrArg Value.bool hb)
        refine ls<|gy hF rfl rfl<|q1 hF rfl (e_move hF rfl) fun a hF=>?_
        refine ls<|gy hF rfl rfl<|q1 hF rfl (e_move hF rfl) fun a hF=>?_
        refine ls<|gy hF rfl rfl<|q1 hF rfl (e_eql hF rfl rfl) fun a hF=>?_
        refine ls<|q1 hF rfl (e_as (v':=.bool (r219 && (decide (r110.2=r164.2)))) (e_pickT hF rfl rfl) (by rw [hb];rfl)) fun a hF=>?_
        exact key _ _ (hF.has ⟨rfl,trivial⟩) hS
      ·
        intro hb key
        replace hF:=Fr.as hF (t:=53) rfl (congrArg Value.bool hb)
        refine ls<|gn hF rfl rfl rfl rfl fun a hF=>?_
        refine ls<|gn hF rfl rfl rfl rfl fun a hF=>?_
        refine ls<|gn hF rfl rfl rfl rfl fun a hF=>?_
        refine ls<|q1 hF rfl (e_as (v':=.bool (r219 && (decide (r110.2=r164.2)))) (e_pickF hF rfl rfl) (by rw [hb];rfl)) fun a hF=>?_
        exact key _ _ (hF.has ⟨rfl,trivial⟩) hS
      intro a w hF hS
      refine ls<|q1 hF rfl (e_as (e_move hF rfl) (congrArg Value.bool hb221)) fun a hF=>?_
      refine ls<|gn hF rfl rfl rfl rfl fun a hF=>?_
      refine ls<|q1 hF rfl (e_pickF hF rfl rfl) fun a hF=>?_
      refine ls<|q1 hF rfl (e_asg hF rfl) fun a hF=>?_
      refine re<|?_
      refine tn<|?_
      refine wr<|?_
      obtain rfl:=Option.some.inj hm
      exact r1 hF Tryz.results3 rfl ⟨rfl,hS.keep⟩
  ·
    replace hm:=ite_f hm hb218
    refine rg<|?_
    refine ls<|q1 hF rfl (e_move hF rfl) fun a hF=>?_
    refine ls<|q1 hF rfl (e_move hF rfl) fun a hF=>?_
    refine ls<|q1 hF rfl (e_eqlU (m:=r106.1) (n:=r108.1) hF rfl rfl) fun a hF=>?_
    refine ls<|q1 hF rfl (e_move hF rfl) fun a hF=>?_
    refine grp (N:=61) (Fk:=[(9,.pointer (some ⟨b163,0,none⟩)),(10,.int .i64 r110.2),(11,.pointer (some ⟨b217,0,none⟩)),(12,.int .i64 r164.2),(47,.bool ((decide (r106.1=r108.1)) && (decide (r106.2=r108.2))))]) (b:=(decide (r106.1=r108.1))) 4 hS ?_ ?_ ?_
    ·
      intro hb key
      replace hF:=Fr.as hF (t:=43) rfl (congrArg Value.bool hb)
      refine ls<|gy hF rfl rfl<|q1 hF rfl (e_move hF rfl) fun a hF=>?_
      refine ls<|gy hF rfl rfl<|q1 hF rfl (e_move hF rfl) fun a hF=>?_
      refine ls<|gy hF rfl rfl<|q1 hF rfl (e_eql hF rfl rfl) fun a hF=>?_
      refine ls<|q1 hF rfl (e_as (v':=.bool ((decide (r106.1=r108.1)) && (decide (r106.2=r108.2)))) (e_pickT hF rfl rfl) (by rw [hb];rfl)) fun a hF=>?_
      exact key _ _ (hF.has ⟨rfl,rfl,rfl,rfl,rfl,trivial⟩) hS
    ·
      intro hb key
      replace hF:=Fr.as hF (t:=43) rfl (congrArg Value.bool hb)
      refine ls<|gn hF rfl rfl rfl rfl fun a hF=>?_
      refine ls<|gn hF rfl rfl rfl rfl fun a hF=>?_
      refine ls<|gn hF rfl rfl rfl rfl fun a hF=>?_
      refine ls<|q1 hF rfl (e_as (v':=.bool ((decide (r106.1=r108.1)) && (decide (r106.2=r108.2)))) (e_pickF hF rfl rfl) (by rw [hb];rfl)) fun a hF=>?_
      exact key _ _ (hF.has ⟨rfl,rfl,rfl,rfl,rfl,trivial⟩) hS
    intro a w hF hS
    refine ls<|q1 hF rfl (e_as (e_move hF rfl) (congrArg Value.bool hb218)) fun a hF=>?_
    refine ls<|gn hF rfl rfl rfl rfl fun a hF=>?_
    refine ls<|gn hF rfl rfl rfl rfl fun a hF=>?_
    refine ls<|gn hF rfl rfl rfl rfl fun a hF=>?_
    refine ls<|q1 hF rfl (e_pickF hF rfl rfl) fun a hF=>?_
    refine ls<|q1 hF rfl (e_move hF rfl) fun a hF=>?_
    refine ls<|gn hF rfl rfl rfl rfl fun a hF=>?_
    refine ls<|gn hF rfl rfl rfl rfl fun a hF=>?_
    refine ls<|gn hF rfl rfl rfl rfl fun a hF=>?_
    refine ls<|q1 hF rfl (e_pickF hF rfl rfl) fun a hF=>?_
    refine ls<|q1 hF rfl (e_move hF rfl) fun a hF=>?_
    refine ls<|gn hF rfl rfl rfl rfl fun a hF=>?_
    refine ls<|q1 hF rfl (e_pickF hF rfl rfl) fun a hF=>?_
    refine ls<|q1 hF rfl (e_asg hF rfl) fun a hF=>?_
    refine re<|?_
    refine tn<|?_
    refine wr<|?_
    obtain rfl:=Option.some.inj hm
    exact r1 hF Tryz.results3 rfl ⟨rfl,hS.keep⟩
end Go.LM.BINZ
