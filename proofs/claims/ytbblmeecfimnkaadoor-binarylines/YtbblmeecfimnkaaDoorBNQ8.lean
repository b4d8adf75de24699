/- Walks, lifted by program. No condition beyond the theorems' own premises. -/
import Derived.Test.YtbblmeecfimnkaaDoorBNQ7
namespace Go.LM.BIN
open Go Go.LL Go.MD Go.LM Go.Proofs Go.MD.BIN
set_option maxRecDepth 100000
set_option maxHeartbeats 4000000 in
set_option maxRecDepth 100000 in
theorem Z1p_c {N:Nat} {w0:World} {H:PH} (hH:H.le w0) (hT:Tab H)  {r:Bool} (hm:Z1p N  = some r):Tot Tryd.prog 10 #[] w0 (fun v w'=>v=.bool r∧Keep Nil w0 w'):=by
  unfold Z1p at hm
  refine fn0 (args:=[]) (F:=[]) Tryd.func10 rfl Tryd.ntmps10 rfl rfl fun a hF=>?_
  have hS:St w0 Nil [H] [] w0:=start1 hH
  refine th<|?_
  refine rg<|?_
  refine ls<|q1 hF rfl (e_asg hF rfl) fun a hF=>?_
  refine re<|?_
  refine tn<|th<|?_
  refine rg<|?_
  refine ls<|q1 hF rfl (e_bldK [.int .i64 1,.int .i64 1] [.int .i64 1,.int .i64 1] hF ⟨rfl,rfl,trivial⟩ (fun w=>by kernel_rfl)) fun a hF=>?_
  refine ls<|q1 hF rfl (e_bldK [.int .i64 1,.int .i64 2] [.int .i64 1,.int .i64 2] hF ⟨rfl,rfl,trivial⟩ (fun w=>by kernel_rfl)) fun a hF=>?_
  refine ls<|q1 hF rfl (e_bldK [.int .i64 5] [.int .i64 5,.int .i64 0] hF ⟨rfl,trivial⟩ (fun w=>by kernel_rfl)) fun a hF=>?_
  refine ls<|a_bsl (e:=46) (sz:=2) [.int .i64 1,.int .i64 1,.int .i64 1,.int .i64 2,.int .i64 5,.int .i64 0] hF rfl hS rfl rfl rfl (fun w=>by kernel_rfl) fun b2 w a hS hF=>?_
  have hv1:Rows (α:=api_Op) H [.int .i64 1,.int .i64 1,.int .i64 1,.int .i64 2,.int .i64 5,.int .i64 0] ([(api_Op.mk 1 1),(api_Op.mk 1 2),(api_Op.mk 5 0)]:List api_Op):=(.cons (c:=[.int .i64 1,.int .i64 1]) ⟨_,_,rfl,rfl,rfl⟩ (.cons (c:=[.int .i64 1,.int .i64 2]) ⟨_,_,rfl,rfl,rfl⟩ (.cons (c:=[.int .i64 5,.int .i64 0]) ⟨_,_,rfl,rfl,rfl⟩ .nil)))
  refine ls<|q1 hF rfl (e_bldK [.int .i64 1,.slice (some ⟨b2,0,none⟩) ([(api_Op.mk 1 1),(api_Op.mk 1 2),(api_Op.mk 5 0)]:List api_Op).length 3] [.int .i64 1,.int .i64 0,.int .i64 0,.slice (some ⟨b2,0,none⟩) ([(api_Op.mk 1 1),(api_Op.mk 1 2),(api_Op.mk 5 0)]:List api_Op).length 3,.slice none 0 0,.int .i64 0] hF ⟨rfl,rfl,trivial⟩ (fun w=>by kernel_rfl)) fun a hF=>?_
  obtain ⟨H7,hx4,hr5,hc6,hS⟩:=St.frzS hS .head hv1
  refine ls<|a_bsl (e:=49) (sz:=6) [.int .i64 1,.int .i64 0,.int .i64 0,.slice (some ⟨b2,0,none⟩) ([(api_Op.mk 1 1),(api_Op.mk 1 2),(api_Op.mk 5 0)]:List api_Op).length 3,.slice none 0 0,.int .i64 0] hF rfl hS rfl rfl rfl (fun w=>by kernel_rfl) fun b9 w a hS hF=>?_
  have hv8:Rows (α:=api_Instr) H7 [.int .i64 1,.int .i64 0,.int .i64 0,.slice (some ⟨b2,0,none⟩) ([(api_Op.mk 1 1),(api_Op.mk 1 2),(api_Op.mk 5 0)]:List api_Op).length 3,.slice none 0 0,.int .i64 0] ([(api_Instr.mk 1 0 0 ([(api_Op.mk 1 1),(api_Op.mk 1 2),(api_Op.mk 5 0)]:List api_Op) [] 0)]:List api_Instr):=(.cons (c:=[.int .i64 1,.int .i64 0,.int .i64 0,.slice (some ⟨b2,0,none⟩) ([(api_Op.mk 1 1),(api_Op.mk 1 2),(api_Op.mk 5 0)]:List api_Op).length 3,.slice none 0 0,.int .i64 0]) ⟨_,_,rfl,rfl,⟨_,_,rfl,rfl,⟨_,_,rfl,rfl,⟨_,_,rfl,⟨_,_,rfl,hc6,hr5⟩,⟨_,_,rfl,⟨none,0,rfl,Nat.le_refl _,SR.nil _ _⟩,rfl⟩⟩⟩⟩⟩ .nil)
  refine ls<|q1 hF rfl (e_bldK [.int .i64 1,.slice (some ⟨b9,0,none⟩) ([(api_Instr.mk 1 0 0 ([(api_Op.mk 1 1),(api_Op.mk 1 2),(api_Op.mk 5 0)]:List api_Op) [] 0)]:List api_Instr).length 1] [.int .i64 1,.int .i64 0,.slice (some ⟨b9,0,none⟩) ([(api_Instr.mk 1 0 0 ([(api_Op.mk 1 1),(api_Op.mk 1 2),(api_Op.mk 5 0)]:List api_Op) [] 0)]:List api_Instr).length 1] hF ⟨rfl,rfl,trivial⟩ (fun w=>by kernel_rfl)) fun a hF=>?_
  obtain ⟨H14,hx11,hr12,hc13,hS⟩:=St.frzS hS .head hv8
  refine ls<|a_bsl (e:=32) (sz:=3) [.int .i64 1,.int .i64 0,.slice (some ⟨b9,0,none⟩) ([(api_Instr.mk 1 0 0 ([(api_Op.mk 1 1),(api_Op.mk 1 2),(api_Op.mk 5 0)]:List api_Op) [] 0)]:List api_Instr).length 1] hF rfl hS rfl rfl rfl (fun w=>by kernel_rfl) fun b16 w a hS hF=>?_
  have hv15:Rows (α:=api_Code) H14 [.int .i64 1,.int .i64 0,.slice (some ⟨b9,0,none⟩) ([(api_Instr.mk 1 0 0 ([(api_Op.mk 1 1),(api_Op.mk 1 2),(api_Op.mk 5 0)]:List api_Op) [] 0)]:List api_Instr).length 1] ([(api_Code.mk 1 0 ([(api_Instr.mk 1 0 0 ([(api_Op.mk 1 1),(api_Op.mk 1 2),(api_Op.mk 5 0)]:List api_Op) [] 0)]:List api_Instr))]:List api_Code):=(.cons (c:=[.int .i64 1,.int .i64 0,.slice (some ⟨b9,0,none⟩) ([(api_Instr.mk 1 0 0 ([(api_Op.mk 1 1),(api_Op.mk 1 2),(api_Op.mk 5 0)]:List api_Op) [] 0)]:List api_Instr).length 1]) ⟨_,_,rfl,rfl,⟨_,_,rfl,rfl,⟨_,_,rfl,hc13,hr12⟩⟩⟩ .nil)
  refine ls<|q1 hF rfl (e_bldK [.slice (some ⟨b16,0,none⟩) ([(api_Code.mk 1 0 ([(api_Instr.mk 1 0 0 ([(api_Op.mk 1 1),(api_Op.mk 1 2),(api_Op.mk 5 0)]:List api_Op) [] 0)]:List api_Instr))]:List api_Code).length 1] [.slice none 0 0,.int .i64 0,.slice none 0 0,.int .i64 0,.slice (some ⟨b16,0,none⟩) ([(api_Code.mk 1 0 ([(api_Instr.mk 1 0 0 ([(api_Op.mk 1 1),(api_Op.mk 1 2),(api_Op.mk 5 0)]:List api_Op) [] 0)]:List api_Instr))]:List api_Code).length 1,.int .i64 0,.int .i64 0,.slice none 0 0,.slice none 0 0] hF ⟨rfl,trivial⟩ (fun w=>by kernel_rfl)) fun a hF=>?_
  refine ls<|a_alloc (cs:=[.slice none 0 0,.int .i64 0,.slice none 0 0,.int .i64 0,.slice none 0 0,.int .i64 0,.int .i64 0,.slice none 0 0,.slice none 0 0].toArray) hF rfl hS Tryd.zeroValue53 rfl fun b18 w a hS hF=>?_
  refine ls<|s_blkA hF hS Tryd.sizeOf53 rfl rfl rfl rfl (one_cells rfl) .head fun w hS=>?_
  refine re<|?_
  refine tn<|th<|?_
  replace hm:=bind_some hm
  obtain ⟨r23,h24,hm⟩:=hm
  refine rg<|?_
  refine ls<|q1 hF rfl (e_ldA hF Tryd.isAgg53 Tryd.sizeOf53 rfl rfl ((St.ld hS).cellsB (.head _))) fun a hF=>?_
  obtain ⟨H22,hx19,hr20,hc21,hS⟩:=St.frzS hS (.tail .head) hv15
  refine ls<|c1 hF rfl Tryd.call15 (Z2_c (hp_le _) (Enc.mono (St.up hS) (show Enc.rep (α:=api_Unit) H22 [.slice none 0 0,.int .i64 0,.slice none 0 0,.int .i64 0,.slice (some ⟨b16,0,none⟩) ([(api_Code.mk 1 0 ([(api_Instr.mk 1 0 0 ([(api_Op.mk 1 1),(api_Op.mk 1 2),(api_Op.mk 5 0)]:List api_Op) [] 0)]:List api_Instr))]:List api_Code).length 1,.int .i64 0,.int .i64 0,.slice none 0 0,.slice none 0 0] (api_Unit.mk [] 0 [] 0 ([(api_Code.mk 1 0 ([(api_Instr.mk 1 0 0 ([(api_Op.mk 1 1),(api_Op.mk 1 2),(api_Op.mk 5 0)]:List api_Op) [] 0)]:List api_Instr))]:List api_Code) (api_Code.mk 0 0 []) []) from ⟨_,_,rfl,⟨none,0,rfl,Nat.le_refl _,SR.nil _ _⟩,⟨_,_,rfl,rfl,⟨_,_,rfl,⟨none,0,rfl,Nat.le_refl _,SR.nil _ _⟩,⟨_,_,rfl,rfl,⟨_,_,rfl,⟨_,_,rfl,hc21,hr20⟩,⟨_,_,rfl,⟨_,_,rfl,rfl,⟨_,_,rfl,rfl,⟨none,0,rfl,Nat.le_refl _,SR.nil _ _⟩⟩⟩,⟨none,0,rfl,Nat.le_refl _,SR.nil _ _⟩⟩⟩⟩⟩⟩⟩)) h24) ⟨rfl,trivial⟩ (fun v w a hR hF=>?_)
  obtain ⟨rfl,hk⟩:=hR
  replace hS:=hS.pass hk
  clear hk
  refine ls<|q1 hF rfl (e_move hF rfl) fun a hF=>?_
  refine ls<|q1 hF rfl (e_ext hF rfl rfl) fun a hF=>?_
  refine ls<|q1 hF rfl (e_ext hF rfl rfl) fun a hF=>?_
  refine ls<|q1 hF rfl (e_asg hF rfl) fun a hF=>?_
  refine ls<|q1 hF rfl (e_asg hF rfl) fun a hF=>?_
  refine re<|?_
  refine tn<|th<|?_
  replace hm:=bind_some hm
  obtain ⟨r25,h26,hm⟩:=hm
  refine rg<|?_
  refine ls<|q1 hF rfl (e_move hF rfl) fun a hF=>?_
  refine ls<|c1 hF rfl Tryd.call16 (Z0_c (St.le hS) h26) ⟨rfl,trivial⟩ (fun v w a hR hF=>?_)
  obtain ⟨H30,cs31,rfl,g32,hx27,hl28,hk⟩:=hR
  obtain ⟨hS,hx27⟩:=And.intro (St.passH hS hk hx27 hl28) (St.extc hS hx27)
  clear hk
  have g33:Enc.rep (α:=(List Int)×Int×(List Int)×Int×(List api_Code)×api_Code×(List (List api_Op))) H30 cs31 (r25.1.Lines,r25.1.Stays,r25.1.Firsts,r25.1.Locks,r25.1.Threads,r25.1.Recover,r25.1.Claims):=g32
  obtain ⟨q34,q35,rfl,g36,g37⟩:=g33
  obtain ⟨oa38,cap39,rfl,hc40,hr41⟩:=g36
  obtain ⟨q42,q43,rfl,g44,g45⟩:=g37
  obtain rfl:q42=[.int .i64 r25.1.Stays]:=g44
  obtain ⟨q46,q47,rfl,g48,g49⟩:=g45
  obtain ⟨oa50,cap51,rfl,hc52,hr53⟩:=g48
  obtain ⟨q54,q55,rfl,g56,g57⟩:=g49
  obtain rfl:q54=[.int .i64 r25.1.Locks]:=g56
  obtain ⟨q58,q59,rfl,g60,g61⟩:=g57
  obtain ⟨oa62,cap63,rfl,hc64,hr65⟩:=g60
  obtain ⟨q66,q67,rfl,g68,g69⟩:=g61
  obtain ⟨oa70,cap71,rfl,hc72,hr73⟩:=api_Code_open g68
  obtain ⟨oa74,cap75,rfl,hc76,hr77⟩:=g69
  refine ls<|q1 hF rfl (e_move hF rfl) fun a hF=>?_
  refine ls<|q1 hF rfl (e_ext hF rfl rfl) fun a hF=>?_
  refine ls<|q1 hF rfl (e_ext hF rfl rfl) fun a hF=>?_
  refine ls<|a_alloc (cs:=[.slice none 0 0,.int .i64 0,.slice none 0 0,.int .i64 0,.slice none 0 0,.int .i64 0,.int .i64 0,.slice none 0 0,.slice none 0 0].toArray) hF rfl hS Tryd.zeroValue53 rfl fun b78 w a hS hF=>?_
  refine ls<|s_blkA hF hS Tryd.sizeOf53 rfl rfl rfl rfl (one_cells rfl) .head fun w hS=>?_
  refine ls<|q1 hF rfl (e_asg hF rfl) fun a hF=>?_
  refine re<|?_
  refine tn<|th<|?_
  replace hm:=bind_some hm
  obtain ⟨s79,h80,hm⟩:=hm
  replace hm:=bind_some hm
  obtain ⟨r81,h82,hm⟩:=hm
  refine rg<|?_
  refine ls<|q1 hF rfl (e_move hF rfl) fun a hF=>?_
  refine ls<|q1 hF rfl (e_catU hF rfl rfl h80) fun a hF=>?_
  refine ls<|c1 hF rfl Tryd.call16 (Z0_c (St.le hS) h82) ⟨rfl,trivial⟩ (fun v w a hR hF=>?_)
  obtain ⟨H86,cs87,rfl,g88,hx83,hl84,hk⟩:=hR
  obtain ⟨hS,hx83⟩:=And.intro (St.passH hS hk hx83 hl84) (St.extc hS hx83)
  clear hk
  have g89:Enc.rep (α:=(List Int)×Int×(List Int)×Int×(List api_Code)×api_Code×(List (List api_Op))) H86 cs87 (r81.1.Lines,r81.1.Stays,r81.1.Firsts,r81.1.Locks,r81.1.Threads,r81.1.Recover,r81.1.Claims):=g88
  obtain ⟨q90,q91,rfl,g92,g93⟩:=g89
  obtain ⟨oa94,cap95,rfl,hc96,hr97⟩:=g92
  obtain ⟨q98,q99,rfl,g100,g101⟩:=g93
  obtain rfl:q98=[.int .i64 r81.1.Stays]:=g100
  obtain ⟨q102,q103,rfl,g104,g105⟩:=g101
  obtain ⟨oa106,cap107,rfl,hc108,hr109⟩:=g104
  obtain ⟨q110,q111,rfl,g112,g113⟩:=g105
  obtain rfl:q110=[.int .i64 r81.1.Locks]:=g112
  obtain ⟨q114,q115,rfl,g116,g117⟩:=g113
  obtain ⟨oa118,cap119,rfl,hc120,hr121⟩:=g116
  obtain ⟨q122,q123,rfl,g124,g125⟩:=g117
  obtain ⟨oa126,cap127,rfl,hc128,hr129⟩:=api_Code_open g124
  obtain ⟨oa130,cap131,rfl,hc132,hr133⟩:=g125
  refine ls<|q1 hF rfl (e_move hF rfl) fun a hF=>?_
  refine ls<|q1 hF rfl (e_ext hF rfl rfl) fun a hF=>?_
  refine ls<|q1 hF rfl (e_ext hF rfl rfl) fun a hF=>?_
  refine ls<|a_alloc (cs:=[.slice none 0 0,.int .i64 0,.slice none 0 0,.int .i64 0,.slice none 0 0,.int .i64 0,.int .i64 0,.slice none 0 0,.slice none 0 0].toArray) hF rfl hS Tryd.zeroValue53 rfl fun b134 w a hS hF=>?_
  refine ls<|s_blkA hF hS Tryd.sizeOf53 rfl rfl rfl rfl (one_cells rfl) .head fun w hS=>?_
  refine ls<|q1 hF rfl (e_asg hF rfl) fun a hF=>?_
  refine re<|?_
  refine tn<|th<|?_
  replace hm:=bind_some hm
  obtain ⟨r135,h136,hm⟩:=hm
  refine rg<|?_
  refine ls<|q1 hF rfl (e_bldK [] [.slice none 0 0,.int .i64 0,.slice none 0 0,.int .i64 0,.slice none 0 0,.int .i64 0,.int .i64 0,.slice none 0 0,.slice none 0 0] hF trivial (fun w=>by kernel_rfl)) fun a hF=>?_
  refine ls<|c1 hF rfl Tryd.call15 (Z2_c (hp_le _) (Enc.mono (St.up hS) (show Enc.rep (α:=api_Unit) H86 [.slice none 0 0,.int .i64 0,.slice none 0 0,.int .i64 0,.slice none 0 0,.int .i64 0,.int .i64 0,.slice none 0 0,.slice none 0 0] (api_Unit.mk [] 0 [] 0 [] (api_Code.mk 0 0 []) []) from ⟨_,_,rfl,⟨none,0,rfl,Nat.le_refl _,SR.nil _ _⟩,⟨_,_,rfl,rfl,⟨_,_,rfl,⟨none,0,rfl,Nat.le_refl _,SR.nil _ _⟩,⟨_,_,rfl,rfl,⟨_,_,rfl,⟨none,0,rfl,Nat.le_refl _,SR.nil _ _⟩,⟨_,_,rfl,⟨_,_,rfl,rfl,⟨_,_,rfl,rfl,⟨none,0,rfl,Nat.le_refl _,SR.nil _ _⟩⟩⟩,⟨none,0,rfl,Nat.le_refl _,SR.nil _ _⟩⟩⟩⟩⟩⟩⟩)) h136) ⟨rfl,trivial⟩ (fun v w a hR hF=>?_)
  obtain ⟨rfl,hk⟩:=hR
  replace hS:=hS.pass hk
  clear hk
  refine ls<|q1 hF rfl (e_move hF rfl) fun a hF=>?_
  refine ls<|q1 hF rfl (e_ext hF rfl rfl) fun a hF=>?_
  refine ls<|q1 hF rfl (e_ext hF rfl rfl) fun a hF=>?_
  refine ls<|q1 hF rfl (e_asg hF rfl) fun a hF=>?_
  refine ls<|q1 hF rfl (e_asg hF rfl) fun a hF=>?_
  refine re<|?_
  refine tn<|th<|?_
  replace hm:=bind_some hm
  obtain ⟨r137,h138,hm⟩:=hm
  refine rg<|?_
  refine ls<|c1 hF rfl Tryd.call6 (Z7_c (hp_le _) h138) ⟨rfl,rfl,trivial⟩ (fun v w a hR hF=>?_)
  obtain ⟨rfl,hk⟩:=hR
  replace hS:=hS.pass hk
  clear hk
  refine ls<|q1 hF rfl (e_move hF rfl) fun a hF=>?_
  refine ls<|q1 hF rfl (e_ext hF rfl rfl) fun a hF=>?_
  refine ls<|q1 hF rfl (e_ext hF rfl rfl) fun a hF=>?_
  refine ls<|q1 hF rfl (e_ext hF rfl rfl) fun a hF=>?_
  refine ls<|q1 hF rfl (e_asg hF rfl) fun a hF=>?_
  refine ls<|q1 hF rfl (e_asg hF rfl) fun a hF=>?_
  refine ls<|q1 hF rfl (e_asg hF rfl) fun a hF=>?_
  refine re<|?_
  refine tn<|th<|?_
  replace hm:=bind_some hm
  obtain ⟨r139,h140,hm⟩:=hm
  refine rg<|?_
  refine ls<|c1 hF rfl Tryd.call6 (Z7_c (hp_le _) h140) ⟨rfl,rfl,trivial⟩ (fun v w a hR hF=>?_)
  obtain ⟨rfl,hk⟩:=hR
  replace hS:=hS.pass hk
  clear hk
  refine ls<|q1 hF rfl (e_move hF rfl) fun a hF=>?_
  refine ls<|q1 hF rfl (e_ext hF rfl rfl) fun a hF=>?_
  refine ls<|q1 hF rfl (e_ext hF rfl rfl) fun a hF=>?_
  refine ls<|q1 hF rfl (e_ext hF rfl rfl) fun a hF=>?_
  refine ls<|q1 hF rfl (e_asg hF rfl) fun a hF=>?_
  refine ls<|q1 hF rfl (e_asg hF rfl) fun a hF=>?_
  refine ls<|q1 hF rfl (e_asg hF rfl) fun a hF=>?_
  refine re<|?_
  refine tn<|th<|?_
  replace hm:=bind_some hm
  obtain ⟨r141,h142,hm⟩:=hm
  refine rg<|?_
  refine ls<|c1 hF rfl Tryd.call6 (Z7_c (hp_le _) h142) ⟨rfl,rfl,trivial⟩ (fun v w a hR hF=>?_)
  obtain ⟨rfl,hk⟩:=hR
  replace hS:=hS.pass hk
  clear hk
  refine ls<|q1 hF rfl (e_move hF rfl) fun a hF=>?_
  refine ls<|q1 hF rfl (e_ext hF rfl rfl) fun a hF=>?_
  refine ls<|q1 hF rfl (e_ext hF rfl rfl) fun a hF=>?_
  refine ls<|q1 hF rfl (e_ext hF rfl rfl) fun a hF=>?_
  refine ls<|q1 hF rfl (e_asg hF rfl) fun a hF=>?_
  refine ls<|q1 hF rfl (e_asg hF rfl) fun a hF=>?_
  refine ls<|q1 hF rfl (e_asg hF rfl) fun a hF=>?_
  refine re<|?_
  refine tn<|th<|?_
  replace hm:=bind_some hm
  obtain ⟨r143,h144,hm⟩:=hm
  refine rg<|?_
  refine ls<|c1 hF rfl Tryd.call6 (Z7_c (hp_le _) h144) ⟨rfl,rfl,trivial⟩ (fun v w a hR hF=>?_)
  obtain ⟨rfl,hk⟩:=hR
  replace hS:=hS.pass hk
  clear hk
  refine ls<|q1 hF rfl (e_move hF rfl) fun a hF=>?_
  refine ls<|q1 hF rfl (e_ext hF rfl rfl) fun a hF=>?_
  refine ls<|q1 hF rfl (e_ext hF rfl rfl) fun a hF=>?_
  refine ls<|q1 hF rfl (e_ext hF rfl rfl) fun a hF=>?_
  refine ls<|q1 hF rfl (e_asg hF rfl) fun a hF=>?_
  refine ls<|q1 hF rfl (e_asg hF rfl) fun a hF=>?_
  refine ls<|q1 hF rfl (e_asg hF rfl) fun a hF=>?_
  refine re<|?_
  refine tn<|th<|?_
  replace hm:=bind_some hm
  obtain ⟨r145,h146,hm⟩:=hm
  refine rg<|?_
  refine ls<|c1 hF rfl Tryd.call6 (Z7_c (hp_le _) h146) ⟨rfl,rfl,trivial⟩ (fun v w a hR hF=>?_)
  obtain ⟨rfl,hk⟩:=hR
  replace hS:=hS.pass hk
  clear hk
  refine ls<|q1 hF rfl (e_move hF rfl) fun a hF=>?_
  refine ls<|q1 hF rfl (e_ext hF rfl rfl) fun a hF=>?_
  refine ls<|q1 hF rfl (e_ext hF rfl rfl) fun a hF=>?_
  refine ls<|q1 hF rfl (e_ext hF rfl rfl) fun a hF=>?_
  refine ls<|q1 hF rfl (e_asg hF rfl) fun a hF=>?_
  refine ls<|q1 hF rfl (e_asg hF rfl) fun a hF=>?_
  refine ls<|q1 hF rfl (e_asg hF rfl) fun a hF=>?_
  refine re<|?_
  refine tn<|th<|?_
  replace hm:=bind_some hm
  obtain ⟨r147,h148,hm⟩:=hm
  refine rg<|?_
  refine ls<|q1 hF rfl (e_ldA hF Tryd.isAgg53 Tryd.sizeOf53 rfl rfl ((St.ld hS).cellsB (.tail _ (.tail _ (.head _))))) fun a hF=>?_
  refine ls<|c1 hF rfl Tryd.call17 (Z3c_c (hp_le _) (Enc.mono (St.up hS) (show Enc.rep (α:=api_Unit) H86 [.slice none 0 0,.int .i64 0,.slice none 0 0,.int .i64 0,.slice (some ⟨b16,0,none⟩) ([(api_Code.mk 1 0 ([(api_Instr.mk 1 0 0 ([(api_Op.mk 1 1),(api_Op.mk 1 2),(api_Op.mk 5 0)]:List api_Op) [] 0)]:List api_Instr))]:List api_Code).length 1,.int .i64 0,.int .i64 0,.slice none 0 0,.slice none 0 0] (api_Unit.mk [] 0 [] 0 ([(api_Code.mk 1 0 ([(api_Instr.mk 1 0 0 ([(api_Op.mk 1 1),(api_Op.mk 1 2),(api_Op.mk 5 0)]:List api_Op) [] 0)]:List api_Instr))]:List api_Code) (api_Code.mk 0 0 []) []) from ⟨_,_,rfl,⟨none,0,rfl,Nat.le_refl _,SR.nil _ _⟩,⟨_,_,rfl,rfl,⟨_,_,rfl,⟨none,0,rfl,Nat.le_refl _,SR.nil _ _⟩,⟨_,_,rfl,rfl,⟨_,_,rfl,⟨_,_,rfl,hc21,(hr20.mono (fun b o h=>hx83.sub b o (hx27.sub b o h)))⟩,⟨_,_,rfl,⟨_,_,rfl,rfl,⟨_,_,rfl,rfl,⟨none,0,rfl,Nat.le_refl _,SR.nil _ _⟩⟩⟩,⟨none,0,rfl,Nat.le_refl _,SR.nil _ _⟩⟩⟩⟩⟩⟩⟩)) h148) ⟨rfl,trivial⟩ (fun v w a hR hF=>?_)
  obtain ⟨rfl,hk⟩:=hR
  replace hS:=hS.pass hk
  clear hk
  refine ls<|q1 hF rfl (e_move hF rfl) fun a hF=>?_
  refine ls<|q1 hF rfl (e_ext hF rfl rfl) fun a hF=>?_
  refine ls<|q1 hF rfl (e_ext hF rfl rfl) fun a hF=>?_
  refine ls<|q1 hF rfl (e_asg hF rfl) fun a hF=>?_
  refine ls<|q1 hF rfl (e_asg hF rfl) fun a hF=>?_
  refine re<|?_
  refine tn<|th<|?_
  replace hm:=bind_some hm
  obtain ⟨_,hb149,hm⟩:=hm
  replace hb149:=sure_some hb149
  replace hm:=bind_some hm
  obtain ⟨r150,h151,hm⟩:=hm
  replace hm:=bind_some hm
  obtain ⟨_,hb152,hm⟩:=hm
  replace hb152:=sure_some hb152
  replace hm:=bind_some hm
  obtain ⟨r153,h154,hm⟩:=hm
  replace hm:=bind_some hm
  obtain ⟨_,hb155,hm⟩:=hm
  replace hb155:=sure_some hb155
  replace hm:=bind_some hm
  obtain ⟨r156,h157,hm⟩:=hm
  replace hm:=bind_some hm
  obtain ⟨_,hb158,hm⟩:=hm
  replace hb158:=sure_some hb158
  replace hm:=bind_some hm
  obtain ⟨r159,h160,hm⟩:=hm
  replace hm:=bind_some hm
  obtain ⟨_,hb161,hm⟩:=hm
  replace hb161:=sure_some hb161
  replace hm:=bind_some hm
  obtain ⟨x162,h163,hm⟩:=hm
  obtain ⟨c164,g165,hl166⟩:=SR.get hr20 h163
  obtain ⟨oa167,cap168,rfl,hc169,hr170⟩:=api_Code_open g165
  replace hm:=bind_some hm
  obtain ⟨r171,h172,hm⟩:=hm
  refine rg<|?_
  refine ls<|q1 hF rfl (e_move hF rfl) fun a hF=>?_
  refine ls<|q1 hF rfl (e_eql hF rfl rfl) fun a hF=>?_
  refine ls<|q1 hF rfl (e_move hF rfl) fun a hF=>?_
  refine grp (N:=163) (Fk:=[(1,.pointer (some ⟨b18,0,none⟩)),(4,.pointer (some ⟨b78,0,none⟩)),(5,.int .i64 r25.2),(7,.int .i64 r81.2),(9,.int .i64 r135.2),(10,.int .i64 r137.1),(11,.int .i64 r137.2.1),(12,.int .i64 r137.2.2),(15,.int .i64 r139.2.2),(18,.int .i64 r141.2.2),(21,.int .i64 r143.2.2),(24,.int .i64 r145.2.2),(26,.int .i64 r147.2),(93,.bool ((decide (r23.2=0)) && (decide (r23.1=r147.1))))]) (b:=(decide (r23.2=0))) 4 hS ?_ ?_ ?_
  ·
    intro hb key
    replace hF:=Fr.as hF (t:=89) rfl (congrArg Value.bool hb)
    refine ls<|gy hF rfl rfl<|q1 hF rfl (e_move hF rfl) fun a hF=>?_
    refine ls<|gy hF rfl rfl<|q1 hF rfl (e_move hF rfl) fun a hF=>?_
    refine ls<|gy hF rfl rfl<|q1 hF rfl (e_eqlU (m:=r23.1) (n:=r147.1) hF rfl rfl) fun a hF=>?_
    refine ls<|q1 hF rfl (e_as (v':=.bool ((decide (r23.2=0)) && (decide (r23.1=r147.1)))) (e_pickT hF rfl rfl) (by rw [hb];rfl)) fun a hF=>?_
    exact key _ _ (hF.has ⟨rfl,rfl,rfl,rfl,rfl,rfl,rfl,rfl,rfl,rfl,rfl,rfl,rfl,rfl,trivial⟩) hS
  ·
    intro hb key
    replace hF:=Fr.as hF (t:=89) rfl (congrArg Value.bool hb)
    refine ls<|gn hF rfl rfl rfl rfl fun a hF=>?_
    refine ls<|gn hF rfl rfl rfl rfl fun a hF=>?_
    refine ls<|gn hF rfl rfl rfl rfl fun a hF=>?_
    refine ls<|q1 hF rfl (e_as (v':=.bool ((decide (r23.2=0)) && (decide (r23.1=r147.1)))) (e_pickF hF rfl rfl) (by rw [hb];rfl)) fun a hF=>?_
    exact key _ _ (hF.has ⟨rfl,rfl,rfl,rfl,rfl,rfl,rfl,rfl,rfl,rfl,rfl,rfl,rfl,rfl,trivial⟩) hS
  intro a w hF hS
  refine ls<|q1 hF rfl (e_move hF rfl) fun a hF=>?_
  refine grp (N:=163) (Fk:=[(1,.pointer (some ⟨b18,0,none⟩)),(4,.pointer (some ⟨b78,0,none⟩)),(5,.int .i64 r25.2),(7,.int .i64 r81.2),(9,.int .i64 r135.2),(10,.int .i64 r137.1),(11,.int .i64 r137.2.1),(12,.int .i64 r137.2.2),(15,.int .i64 r139.2.2),(18,.int .i64 r141.2.2),(21,.int .i64 r143.2.2),(24,.int .i64 r145.2.2),(97,.bool (((decide (r23.2=0)) && (decide (r23.1=r147.1))) && (decide (r147.2=0))))]) (b:=((decide (r23.2=0)) && (decide (r23.1=r147.1)))) 3 hS ?_ ?_ ?_
  ·
    intro hb key
    replace hF:=Fr.as hF (t:=94) rfl (congrArg Value.bool hb)
    refine ls<|gy hF rfl rfl<|q1 hF rfl (e_move hF rfl) fun a hF=>?_
    refine ls<|gy hF rfl rfl<|q1 hF rfl (e_eql hF rfl rfl) fun a hF=>?_
    refine ls<|q1 hF rfl (e_as (v':=.bool (((decide (r23.2=0)) && (decide (r23.1=r147.1))) && (decide (r147.2=0)))) (e_pickT hF rfl rfl) (by rw [hb];rfl)) fun a hF=>?_
    exact key _ _ (hF.has ⟨rfl,rfl,rfl,rfl,rfl,rfl,rfl,rfl,rfl,rfl,rfl,rfl,rfl,trivial⟩) hS
  ·
    intro hb key
    replace hF:=Fr.as hF (t:=94) rfl (congrArg Value.bool hb)
    refine ls<|gn hF rfl rfl rfl rfl fun a hF=>?_
    refine ls<|gn hF rfl rfl rfl rfl fun a hF=>?_
    refine ls<|q1 hF rfl (e_as (v':=.bool (((decide (r23.2=0)) && (decide (r23.1=r147.1))) && (decide (r147.2=0)))) (e_pickF hF rfl rfl) (by rw [hb];rfl)) fun a hF=>?_
    exact key _ _ (hF.has ⟨rfl,rfl,rfl,rfl,rfl,rfl,rfl,rfl,rfl,rfl,rfl,rfl,rfl,trivial⟩) hS
  intro a w hF hS
  refine ls<|q1 hF rfl (e_move hF rfl) fun a hF=>?_
  refine grp (N:=163) (Fk:=[(1,.pointer (some ⟨b18,0,none⟩)),(4,.pointer (some ⟨b78,0,none⟩)),(7,.int .i64 r81.2),(9,.int .i64 r135.2),(10,.int .i64 r137.1),(11,.int .i64 r137.2.1),(12,.int .i64 r137.2.2),(15,.int .i64 r139.2.2),(18,.int .i64 r141.2.2),(21,.int .i64 r143.2.2),(24,.int .i64 r145.2.2),(101,.bool ((((decide (r23.2=0)) && (decide (r23.1=r147.1))) && (decide (r147.2=0))) && (decide (r25.2=0))))]) (b:=(((decide (r23.2=0)) && (decide (r23.1=r147.1))) && (decide (r147.2=0)))) 3 hS ?_ ?_ ?_
  ·
    intro hb key
    replace hF:=Fr.as hF (t:=98) rfl (congrArg Value.bool hb)
    refine ls<|gy hF rfl rfl<|q1 hF rfl (e_move hF rfl) fun a hF=>?_
    refine ls<|gy hF rfl rfl<|q1 hF rfl (e_eql hF rfl rfl) fun a hF=>?_
    refine ls<|q1 hF rfl (e_as (v':=.bool ((((decide (r23.2=0)) && (decide (r23.1=r147.1))) && (decide (r147.2=0))) && (decide (r25.2=0)))) (e_pickT hF rfl rfl) (by rw [hb];rfl)) fun a hF=>?_
    exact key _ _ (hF.has ⟨rfl,rfl,rfl,rfl,rfl,rfl,rfl,rfl,rfl,rfl,rfl,rfl,trivial⟩) hS
  ·
    intro hb key
    replace hF:=Fr.as hF (t:=98) rfl (congrArg Value.bool hb)
    refine ls<|gn hF rfl rfl rfl rfl fun a hF=>?_
    refine ls<|gn hF rfl rfl rfl rfl fun a hF=>?_
    refine ls<|q1 hF rfl (e_as (v':=.bool ((((decide (r23.2=0)) && (decide (r23.1=r147.1))) && (decide (r147.2=0))) && (decide (r25.2=0)))) (e_pickF hF rfl rfl) (by rw [hb];rfl)) fun a hF=>?_
    exact key _ _ (hF.has ⟨rfl,rfl,rfl,rfl,rfl,rfl,rfl,rfl,rfl,rfl,rfl,rfl,trivial⟩) hS
  intro a w hF hS
  refine ls<|q1 hF rfl (e_as (e_move hF rfl) (congrArg Value.bool hb149)) fun a hF=>?_
  refine ls<|gy hF rfl rfl<|q1 hF rfl (e_ldA hF Tryd.isAgg53 Tryd.sizeOf53 rfl rfl ((St.ld hS).cellsB (.tail _ (.tail _ (.head _))))) fun a hF=>?_
  refine ls<|gy hF rfl rfl<|q1 hF rfl (e_ldA hF Tryd.isAgg53 Tryd.sizeOf53 rfl rfl ((St.ld hS).cellsB (.tail _ (.head _)))) fun a hF=>?_
  refine ls<|gy hF rfl rfl<|c1 hF rfl Tryd.call18 (Z2n_c (hp_le _) (Enc.mono (St.up hS) (show Enc.rep (α:=api_Unit) H86 [.slice none 0 0,.int .i64 0,.slice none 0 0,.int .i64 0,.slice (some ⟨b16,0,none⟩) ([(api_Code.mk 1 0 ([(api_Instr.mk 1 0 0 ([(api_Op.mk 1 1),(api_Op.mk 1 2),(api_Op.mk 5 0)]:List api_Op) [] 0)]:List api_Instr))]:List api_Code).length 1,.int .i64 0,.int .i64 0,.slice none 0 0,.slice none 0 0] (api_Unit.mk [] 0 [] 0 ([(api_Code.mk 1 0 ([(api_Instr.mk 1 0 0 ([(api_Op.mk 1 1),(api_Op.mk 1 2),(api_Op.mk 5 0)]:List api_Op) [] 0)]:List api_Instr))]:List api_Code) (api_Code.mk 0 0 []) []) from ⟨_,_,rfl,⟨none,0,rfl,Nat.le_refl _,SR.nil _ _⟩,⟨_,_,rfl,rfl,⟨_,_,rfl,⟨none,0,rfl,Nat.le_refl _,SR.nil _ _⟩,⟨_,_,rfl,rfl,⟨_,_,rfl,⟨_,_,rfl,hc21,(hr20.mono (fun b o h=>hx83.sub b o (hx27.sub b o h)))⟩,⟨_,_,rfl,⟨_,_,rfl,rfl,⟨_,_,rfl,rfl,⟨none,0,rfl,Nat.le_refl _,SR.nil _ _⟩⟩⟩,⟨none,0,rfl,Nat.le_refl _,SR.nil _ _⟩⟩⟩⟩⟩⟩⟩)) (Enc.mono (St.up hS) (show Enc.rep (α:=api_Unit) H86 [.slice oa38 r25.1.Lines.length cap39,.int .i64 r25.1.Stays,.slice oa50 r25.1.Firsts.length cap51,.int .i64 r25.1.Locks,.slice oa62 r25.1.Threads.length cap63,.int .i64 r25.1.Recover.Regs,.int .i64 r25.1.Recover.Counts,.slice oa70 r25.1.Recover.L.length cap71,.slice oa74 r25.1.Claims.length cap75] r25.1 from ⟨_,_,rfl,⟨_,_,rfl,hc40,(hr41.mono hx83.sub)⟩,⟨_,_,rfl,rfl,⟨_,_,rfl,⟨_,_,rfl,hc52,(hr53.mono hx83.sub)⟩,⟨_,_,rfl,rfl,⟨_,_,rfl,⟨_,_,rfl,hc64,(hr65.mono hx83.sub)⟩,⟨_,_,rfl,⟨_,_,rfl,rfl,⟨_,_,rfl,rfl,⟨_,_,rfl,hc72,(hr73.mono hx83.sub)⟩⟩⟩,⟨_,_,rfl,hc76,(hr77.mono hx83.sub)⟩⟩⟩⟩⟩⟩⟩)) h151) ⟨rfl,rfl,trivial⟩ (fun v w a hR hF=>?_)
  obtain ⟨rfl,hk⟩:=hR
  replace hS:=hS.pass hk
  clear hk
  refine ls<|q1 hF rfl (e_pickT hF rfl rfl) fun a hF=>?_
  refine ls<|q1 hF rfl (e_move hF rfl) fun a hF=>?_
  refine grp (N:=163) (Fk:=[(1,.pointer (some ⟨b18,0,none⟩)),(9,.int .i64 r135.2),(10,.int .i64 r137.1),(11,.int .i64 r137.2.1),(12,.int .i64 r137.2.2),(15,.int .i64 r139.2.2),(18,.int .i64 r141.2.2),(21,.int .i64 r143.2.2),(24,.int .i64 r145.2.2),(110,.bool (r150 && (decide (r81.2=8))))]) (b:=r150) 3 hS ?_ ?_ ?_
  ·
    intro hb key
    replace hF:=Fr.as hF (t:=107) rfl (congrArg Value.bool hb)
    refine ls<|gy hF rfl rfl<|q1 hF rfl (e_move hF rfl) fun a hF=>?_
    refine ls<|gy hF rfl rfl<|q1 hF rfl (e_eql hF rfl rfl) fun a hF=>?_
    refine ls<|q1 hF rfl (e_as (v':=.bool (r150 && (decide (r81.2=8)))) (e_pickT hF rfl rfl) (by rw [hb];rfl)) fun a hF=>?_
    exact key _ _ (hF.has ⟨rfl,rfl,rfl,rfl,rfl,rfl,rfl,rfl,rfl,rfl,trivial⟩) hS
  ·
    intro hb key
    replace hF:=Fr.as hF (t:=107) rfl (congrArg Value.bool hb)
    refine ls<|gn hF rfl rfl rfl rfl fun a hF=>?_
    refine ls<|gn hF rfl rfl rfl rfl fun a hF=>?_
    refine ls<|q1 hF rfl (e_as (v':=.bool (r150 && (decide (r81.2=8)))) (e_pickF hF rfl rfl) (by rw [hb];rfl)) fun a hF=>?_
    exact key _ _ (hF.has ⟨rfl,rfl,rfl,rfl,rfl,rfl,rfl,rfl,rfl,rfl,trivial⟩) hS
  intro a w hF hS
  refine ls<|q1 hF rfl (e_move hF rfl) fun a hF=>?_
  refine grp (N:=163) (Fk:=[(1,.pointer (some ⟨b18,0,none⟩)),(10,.int .i64 r137.1),(11,.int .i64 r137.2.1),(12,.int .i64 r137.2.2),(15,.int .i64 r139.2.2),(18,.int .i64 r141.2.2),(21,.int .i64 r143.2.2),(24,.int .i64 r145.2.2),(114,.bool ((r150 && (decide (r81.2=8))) && (decide (r135.2=8))))]) (b:=(r150 && (decide (r81.2=8)))) 3 hS ?_ ?_ ?_
  ·
    intro hb key
    replace hF:=Fr.as hF (t:=111) rfl (congrArg Value.bool hb)
    refine ls<|gy hF rfl rfl<|q1 hF rfl (e_move hF rfl) fun a hF=>?_
    refine ls<|gy hF rfl rfl<|q1 hF rfl (e_eql hF rfl rfl) fun a hF=>?_
    refine ls<|q1 hF rfl (e_as (v':=.bool ((r150 && (decide (r81.2=8))) && (decide (r135.2=8)))) (e_pickT hF rfl rfl) (by rw [hb];rfl)) fun a hF=>?_
    exact key _ _ (hF.has ⟨rfl,rfl,rfl,rfl,rfl,rfl,rfl,rfl,rfl,trivial⟩) hS
  ·
    intro hb key
    replace hF:=Fr.as hF (t:=111) rfl (congrArg Value.bool hb)
    refine ls<|gn hF rfl rfl rfl rfl fun a hF=>?_
    refine ls<|gn hF rfl rfl rfl rfl fun a hF=>?_
    refine ls<|q1 hF rfl (e_as (v':=.bool ((r150 && (decide (r81.2=8))) && (decide (r135.2=8)))) (e_pickF hF rfl rfl) (by rw [hb];rfl)) fun a hF=>?_
    exact key _ _ (hF.has ⟨rfl,rfl,rfl,rfl,rfl,rfl,rfl,rfl,rfl,trivial⟩) hS
  intro a w hF hS
  refine ls<|q1 hF rfl (e_move hF rfl) fun a hF=>?_
  refine grp (N:=163) (Fk:=[(1,.pointer (some ⟨b18,0,none⟩)),(11,.int .i64 r137.2.1),(12,.int .i64 r137.2.2),(15,.int .i64 r139.2.2),(18,.int .i64 r141.2.2),(21,.int .i64 r143.2.2),(24,.int .i64 r145.2.2),(118,.bool (((r150 && (decide (r81.2=8))) && (decide (r135.2=8))) && (decide (r137.1=300))))]) (b:=((r150 && (decide (r81.2=8))) && (decide (r135.2=8)))) 3 hS ?_ ?_ ?_
  ·
    intro hb key
    replace hF:=Fr.as hF (t:=115) rfl (congrArg Value.bool hb)
    refine ls<|gy hF rfl rfl<|q1 hF rfl (e_move hF rfl) fun a hF=>?_
    refine ls<|gy hF rfl rfl<|q1 hF rfl (e_eql hF rfl rfl) fun a hF=>?_
    refine ls<|q1 hF rfl (e_as (v':=.bool (((r150 && (decide (r81.2=8))) && (decide (r135.2=8))) && (decide (r137.1=300)))) (e_pickT hF rfl rfl) (by rw [hb];rfl)) fun a hF=>?_
    exact key _ _ (hF.has ⟨rfl,rfl,rfl,rfl,rfl,rfl,rfl,rfl,trivial⟩) hS
  ·
    intro hb key
    replace hF:=Fr.as hF (t:=115) rfl (congrArg Value.bool hb)
    refine ls<|gn hF rfl rfl rfl rfl fun a hF=>?_
    refine ls<|gn hF rfl rfl rfl rfl fun a hF=>?_
    refine ls<|q1 hF rfl (e_as (v':=.bool (((r150 && (decide (r81.2=8))) && (decide (r135.2=8))) && (decide (r137.1=300)))) (e_pickF hF rfl rfl) (by rw [hb];rfl)) fun a hF=>?_
    exact key _ _ (hF.has ⟨rfl,rfl,rfl,rfl,rfl,rfl,rfl,rfl,trivial⟩) hS
  intro a w hF hS
  refine ls<|q1 hF rfl (e_move hF rfl) fun a hF=>?_
  refine grp (N:=163) (Fk:=[(1,.pointer (some ⟨b18,0,none⟩)),(12,.int .i64 r137.2.2),(15,.int .i64 r139.2.2),(18,.int .i64 r141.2.2),(21,.int .i64 r143.2.2),(24,.int .i64 r145.2.2),(122,.bool ((((r150 && (decide (r81.2=8))) && (decide (r135.2=8))) && (decide (r137.1=300))) && (decide (r137.2.1=2))))]) (b:=(((r150 && (decide (r81.2=8))) && (decide (r135.2=8))) && (decide (r137.1=300)))) 3 hS ?_ ?_ ?_
  ·
    intro hb key
    replace hF:=Fr.as hF (t:=119) rfl (congrArg Value.bool hb)
    refine ls<|gy hF rfl rfl<|q1 hF rfl (e_move hF rfl) fun a hF=>?_
    refine ls<|gy hF rfl rfl<|q1 hF rfl (e_eql hF rfl rfl) fun a hF=>?_
    refine ls<|q1 hF rfl (e_as (v':=.bool ((((r150 && (decide (r81.2=8))) && (decide (r135.2=8))) && (decide (r137.1=300))) && (decide (r137.2.1=2)))) (e_pickT hF rfl rfl) (by rw [hb];rfl)) fun a hF=>?_
    exact key _ _ (hF.has ⟨rfl,rfl,rfl,rfl,rfl,rfl,rfl,trivial⟩) hS
  ·
    intro hb key
    replace hF:=Fr.as hF (t:=119) rfl (congrArg Value.bool hb)
    refine ls<|gn hF rfl rfl rfl rfl fun a hF=>?_
    refine ls<|gn hF rfl rfl rfl rfl fun a hF=>?_
    refine ls<|q1 hF rfl (e_as (v':=.bool ((((r150 && (decide (r81.2=8))) && (decide (r135.2=8))) && (decide (r137.1=300))) && (decide (r137.2.1=2)))) (e_pickF hF rfl rfl) (by rw [hb];rfl)) fun a hF=>?_
    exact key _ _ (hF.has ⟨rfl,rfl,rfl,rfl,rfl,rfl,rfl,trivial⟩) hS
  intro a w hF hS
  refine ls<|q1 hF rfl (e_move hF rfl) fun a hF=>?_
  refine grp (N:=163) (Fk:=[(1,.pointer (some ⟨b18,0,none⟩)),(15,.int .i64 r139.2.2),(18,.int .i64 r141.2.2),(21,.int .i64 r143.2.2),(24,.int .i64 r145.2.2),(126,.bool (((((r150 && (decide (r81.2=8))) && (decide (r135.2=8))) && (decide (r137.1=300))) && (decide (r137.2.1=2))) && (decide (r137.2.2=0))))]) (b:=((((r150 && (decide (r81.2=8))) && (decide (r135.2=8))) && (decide (r137.1=300))) && (decide (r137.2.1=2)))) 3 hS ?_ ?_ ?_
  ·
    intro hb key
    replace hF:=Fr.as hF (t:=123) rfl (congrArg Value.bool hb)
    refine ls<|gy hF rfl rfl<|q1 hF rfl (e_move hF rfl) fun a hF=>?_
    refine ls<|gy hF rfl rfl<|q1 hF rfl (e_eql hF rfl rfl) fun a hF=>?_
    refine ls<|q1 hF rfl (e_as (v':=.bool (((((r150 && (decide (r81.2=8))) && (decide (r135.2=8))) && (decide (r137.1=300))) && (decide (r137.2.1=2))) && (decide (r137.2.2=0)))) (e_pickT hF rfl rfl) (by rw [hb];rfl)) fun a hF=>?_
    exact key _ _ (hF.has ⟨rfl,rfl,rfl,rfl,rfl,rfl,trivial⟩) hS
  ·
    intro hb key
    replace hF:=Fr.as hF (t:=123) rfl (congrArg Value.bool hb)
    refine ls<|gn hF rfl rfl rfl rfl fun a hF=>?_
    refine ls<|gn hF rfl rfl rfl rfl fun a hF=>?_
    refine ls<|q1 hF rfl (e_as (v':=.bool (((((r150 && (decide (r81.2=8))) && (decide (r135.2=8))) && (decide (r137.1=300))) && (decide (r137.2.1=2))) && (decide (r137.2.2=0)))) (e_pickF hF rfl rfl) (by rw [hb];rfl)) fun a hF=>?_
    exact key _ _ (hF.has ⟨rfl,rfl,rfl,rfl,rfl,rfl,trivial⟩) hS
  intro a w hF hS
  refine ls<|q1 hF rfl (e_move hF rfl) fun a hF=>?_
  refine grp (N:=163) (Fk:=[(1,.pointer (some ⟨b18,0,none⟩)),(18,.int .i64 r141.2.2),(21,.int .i64 r143.2.2),(24,.int .i64 r145.2.2),(130,.bool ((((((r150 && (decide (r81.2=8))) && (decide (r135.2=8))) && (decide (r137.1=300))) && (decide (r137.2.1=2))) && (decide (r137.2.2=0))) && (decide (r139.2.2=8))))]) (b:=(((((r150 && (decide (r81.2=8))) && (decide (r135.2=8))) && (decide (r137.1=300))) && (decide (r137.2.1=2))) && (decide (r137.2.2=0)))) 3 hS ?_ ?_ ?_
  ·
    intro hb key
    replace hF:=Fr.as hF (t:=127) rfl (congrArg Value.bool hb)
    refine ls<|gy hF rfl rfl<|q1 hF rfl (e_move hF rfl) fun a hF=>?_
    refine ls<|gy hF rfl rfl<|q1 hF rfl (e_eql hF rfl rfl) fun a hF=>?_
    refine ls<|q1 hF rfl (e_as (v':=.bool ((((((r150 && (decide (r81.2=8))) && (decide (r135.2=8))) && (decide (r137.1=300))) && (decide (r137.2.1=2))) && (decide (r137.2.2=0))) && (decide (r139.2.2=8)))) (e_pickT hF rfl rfl) (by rw [hb];rfl)) fun a hF=>?_
    exact key _ _ (hF.has ⟨rfl,rfl,rfl,rfl,rfl,trivial⟩) hS
  ·
    intro hb key
    replace hF:=Fr.as hF (t:=127) rfl (congrArg Value.bool hb)
    refine ls<|gn hF rfl rfl rfl rfl fun a hF=>?_
    refine ls<|gn hF rfl rfl rfl rfl fun a hF=>?_
    refine ls<|q1 hF rfl (e_as (v':=.bool ((((((r150 && (decide (r81.2=8))) && (decide (r135.2=8))) && (decide (r137.1=300))) && (decide (r137.2.1=2))) && (decide (r137.2.2=0))) && (decide (r139.2.2=8)))) (e_pickF hF rfl rfl) (by rw [hb];rfl)) fun a hF=>?_
    exact key _ _ (hF.has ⟨rfl,rfl,rfl,rfl,rfl,trivial⟩) hS
  intro a w hF hS
  refine ls<|q1 hF rfl (e_move hF rfl) fun a hF=>?_
  refine grp (N:=163) (Fk:=[(1,.pointer (some ⟨b18,0,none⟩)),(21,.int .i64 r143.2.2),(24,.int .i64 r145.2.2),(134,.bool (((((((r150 && (decide (r81.2=8))) && (decide (r135.2=8))) && (decide (r137.1=300))) && (decide (r137.2.1=2))) && (decide (r137.2.2=0))) && (decide (r139.2.2=8))) && (decide (r141.2.2=6))))]) (b:=((((((r150 && (decide (r81.2=8))) && (decide (r135.2=8))) && (decide (r137.1=300))) && (decide (r137.2.1=2))) && (decide (r137.2.2=0))) && (decide (r139.2.2=8)))) 3 hS ?_ ?_ ?_
  ·
    intro hb key
    replace hF:=Fr.as hF (t:=131) rfl (congrArg Value.bool hb)
    refine ls<|gy hF rfl rfl<|q1 hF rfl (e_move hF rfl) fun a hF=>?_
    refine ls<|gy hF rfl rfl<|q1 hF rfl (e_eql hF rfl rfl) fun a hF=>?_
    refine ls<|q1 hF rfl (e_as (v':=.bool (((((((r150 && (decide (r81.2=8))) && (decide (r135.2=8))) && (decide (r137.1=300))) && (decide (r137.2.1=2))) && (decide (r137.2.2=0))) && (decide (r139.2.2=8))) && (decide (r141.2.2=6)))) (e_pickT hF rfl rfl) (by rw [hb];rfl)) fun a hF=>?_
    exact key _ _ (hF.has ⟨rfl,rfl,rfl,rfl,trivial⟩) hS
  ·
    intro hb key
    replace hF:=Fr.as hF (t:=131) rfl (congrArg Value.bool hb)
    refine ls<|gn hF rfl rfl rfl rfl fun a hF=>?_
    refine ls<|gn hF rfl rfl rfl rfl fun a hF=>?_
    refine ls<|q1 hF rfl (e_as (v':=.bool (((((((r150 && (decide (r81.2=8))) && (decide (r135.2=8))) && (decide (r137.1=300))) && (decide (r137.2.1=2))) && (decide (r137.2.2=0))) && (decide (r139.2.2=8))) && (decide (r141.2.2=6)))) (e_pickF hF rfl rfl) (by rw [hb];rfl)) fun a hF=>?_
    exact key _ _ (hF.has ⟨rfl,rfl,rfl,rfl,trivial⟩) hS
  intro a w hF hS
  refine ls<|q1 hF rfl (e_move hF rfl) fun a hF=>?_
  refine grp (N:=163) (Fk:=[(1,.pointer (some ⟨b18,0,none⟩)),(24,.int .i64 r145.2.2),(138,.bool ((((((((r150 && (decide (r81.2=8))) && (decide (r135.2=8))) && (decide (r137.1=300))) && (decide (r137.2.1=2))) && (decide (r137.2.2=0))) && (decide (r139.2.2=8))) && (decide (r141.2.2=6))) && (decide (r143.2.2=1))))]) (b:=(((((((r150 && (decide (r81.2=8))) && (decide (r135.2=8))) && (decide (r137.1=300))) && (decide (r137.2.1=2))) && (decide (r137.2.2=0))) && (decide (r139.2.2=8))) && (decide (r141.2.2=6)))) 3 hS ?_ ?_ ?_
  ·
    intro hb key
    replace hF:=Fr.as hF (t:=135) rfl (congrArg Value.bool hb)
    refine ls<|gy hF rfl rfl<|q1 hF rfl (e_move hF rfl) fun a hF=>?_
    refine ls<|gy hF rfl rfl<|q1 hF rfl (e_eql hF rfl rfl) fun a hF=>?_
    refine ls<|q1 hF rfl (e_as (v':=.bool ((((((((r150 && (decide (r81.2=8))) && (decide (r135.2=8))) && (decide (r137.1=300))) && (decide (r137.2.1=2))) && (decide (r137.2.2=0))) && (decide (r139.2.2=8))) && (decide (r141.2.2=6))) && (decide (r143.2.2=1)))) (e_pickT hF rfl rfl) (by rw [hb];rfl)) fun a hF=>?_
    exact key _ _ (hF.has ⟨rfl,rfl,rfl,trivial⟩) hS
  ·
    intro hb key
    replace hF:=Fr.as hF (t:=135) rfl (congrArg Value.bool hb)
    refine ls<|gn hF rfl rfl rfl rfl fun a hF=>?_
    refine ls<|gn hF rfl rfl rfl rfl fun a hF=>?_
    refine ls<|q1 hF rfl (e_as (v':=.bool ((((((((r150 && (decide (r81.2=8))) && (decide (r135.2=8))) && (decide (r137.1=300))) && (decide (r137.2.1=2))) && (decide (r137.2.2=0))) && (decide (r139.2.2=8))) && (decide (r141.2.2=6))) && (decide (r143.2.2=1)))) (e_pickF hF rfl rfl) (by rw [hb];rfl)) fun a hF=>?_
    exact key _ _ (hF.has ⟨rfl,rfl,rfl,trivial⟩) hS
  intro a w hF hS
  refine ls<|q1 hF rfl (e_move hF rfl) fun a hF=>?_
  refine grp (N:=163) (Fk:=[(1,.pointer (some ⟨b18,0,none⟩)),(142,.bool (((((((((r150 && (decide (r81.2=8))) && (decide (r135.2=8))) && (decide (r137.1=300))) && (decide (r137.2.1=2))) && (decide (r137.2.2=0))) && (decide (r139.2.2=8))) && (decide (r141.2.2=6))) && (decide (r143.2.2=1))) && (decide (r145.2.2=2))))]) (b:=((((((((r150 && (decide (r81.2=8))) && (decide (r135.2=8))) && (decide (r137.1=300))) && (decide (r137.2.1=2))) && (decide (r137.2.2=0))) && (decide (r139.2.2=8))) && (decide (r141.2.2=6))) && (decide (r143.2.2=1)))) 3 hS ?_ ?_ ?_
  ·
    intro hb key
    replace hF:=Fr.as hF (t:=139) rfl (congrArg Value.bool hb)
    refine ls<|gy hF rfl rfl<|q1 hF rfl (e_move hF rfl) fun a hF=>?_
    refine ls<|gy hF rfl rfl<|q1 hF rfl (e_eql hF rfl rfl) fun a hF=>?_
    refine ls<|q1 hF rfl (e_as (v':=.bool (((((((((r150 && (decide (r81.2=8))) && (decide (r135.2=8))) && (decide (r137.1=300))) && (decide (r137.2.1=2))) && (decide (r137.2.2=0))) && (decide (r139.2.2=8))) && (decide (r141.2.2=6))) && (decide (r143.2.2=1))) && (decide (r145.2.2=2)))) (e_pickT hF rfl rfl) (by rw [hb];rfl)) fun a hF=>?_
    exact key _ _ (hF.has ⟨rfl,rfl,trivial⟩) hS
  ·
    intro hb key
    replace hF:=Fr.as hF (t:=139) rfl (congrArg Value.bool hb)
    refine ls<|gn hF rfl rfl rfl rfl fun a hF=>?_
    refine ls<|gn hF rfl rfl rfl rfl fun a hF=>?_
    refine ls<|q1 hF rfl (e_as (v':=.bool (((((((((r150 && (decide (r81.2=8))) && (decide (r135.2=8))) && (decide (r137.1=300))) && (decide (r137.2.1=2))) && (decide (r137.2.2=0))) && (decide (r139.2.2=8))) && (decide (r141.2.2=6))) && (decide (r143.2.2=1))) && (decide (r145.2.2=2)))) (e_pickF hF rfl rfl) (by rw [hb];rfl)) fun a hF=>?_
    exact key _ _ (hF.has ⟨rfl,rfl,trivial⟩) hS
  intro a w hF hS
  refine ls<|q1 hF rfl (e_as (e_move hF rfl) (congrArg Value.bool hb152)) fun a hF=>?_
  refine ls<|gy hF rfl rfl<|c1 hF rfl Tryd.call8 (Za_c (hp_le _) h154) ⟨rfl,trivial⟩ (fun v w a hR hF=>?_)
  obtain ⟨rfl,hk⟩:=hR
  replace hS:=hS.pass hk
  clear hk
  refine ls<|gy hF rfl rfl<|q1 hF rfl (e_eqlU (m:=r153) (n:=[172,2]) hF rfl rfl) fun a hF=>?_
  refine ls<|q1 hF rfl (e_pickT hF rfl rfl) fun a hF=>?_
  refine ls<|q1 hF rfl (e_as (e_move hF rfl) (congrArg Value.bool hb155)) fun a hF=>?_
  refine ls<|gy hF rfl rfl<|c1 hF rfl Tryd.call8 (Za_c (hp_le _) h157) ⟨rfl,trivial⟩ (fun v w a hR hF=>?_)
  obtain ⟨rfl,hk⟩:=hR
  replace hS:=hS.pass hk
  clear hk
  refine ls<|gy hF rfl rfl<|q1 hF rfl (e_eqlU (m:=r156) (n:=[]) hF rfl rfl) fun a hF=>?_
  refine ls<|q1 hF rfl (e_pickT hF rfl rfl) fun a hF=>?_
  refine ls<|q1 hF rfl (e_as (e_move hF rfl) (congrArg Value.bool hb158)) fun a hF=>?_
  refine ls<|gy hF rfl rfl<|c1 hF rfl Tryd.call19 (Zg_c (hp_le _) (Tab.mono (Tab.mono hT (fun b o h=>(fun b o h=>(fun b o h=>(fun b o h=>hx83.sub b o (hx27.sub b o h)) b o (hx19.sub b o h)) b o (hx11.sub b o h)) b o (hx4.sub b o h))) (St.up hS)) h160) ⟨rfl,trivial⟩ (fun v w a hR hF=>?_)
  obtain ⟨rfl,hk⟩:=hR
  replace hS:=hS.pass hk
  clear hk
  refine ls<|gy hF rfl rfl<|q1 hF rfl (e_eqlU (m:=r159) (n:=[99,104,101,99,107]) hF rfl rfl) fun a hF=>?_
  refine ls<|q1 hF rfl (e_pickT hF rfl rfl) fun a hF=>?_
  refine ls<|q1 hF rfl (e_as (e_move hF rfl) (congrArg Value.bool hb161)) fun a hF=>?_
  refine ls<|gy hF rfl rfl<|q1 hF rfl (e_fa hF fa53_4 rfl) fun a hF=>?_
  refine ls<|gy hF rfl rfl<|q1 hF rfl (e_ld hF Tryd.isAgg50 rfl ((St.ld hS).cellB (.tail _ (.tail _ (.head _))) rfl)) fun a hF=>?_
  refine ls<|gy hF rfl rfl<|q1 hF rfl (e_iaI hF Tryd.runUnderlying50 Tryd.sizeOf32 rfl rfl h163 (SR.oaI hr20 (by decide) h163)) fun a hF=>?_
  refine ls<|gy hF rfl rfl<|q1 hF rfl (e_ldA hF Tryd.isAgg32 Tryd.sizeOf32 rfl rfl (fun j v hj=>PH.le.cell (fun b o hx=>(Lds.le (St.ld hS)) b o ((fun b o h=>hx83.sub b o (hx27.sub b o h)) b o hx)) (hl166 j v hj))) fun a hF=>?_
  refine ls<|gy hF rfl rfl<|c1 hF rfl Tryd.call12 (Zd_c (hp_le _) (Tab.mono (Tab.mono hT (fun b o h=>(fun b o h=>(fun b o h=>(fun b o h=>hx83.sub b o (hx27.sub b o h)) b o (hx19.sub b o h)) b o (hx11.sub b o h)) b o (hx4.sub b o h))) (St.up hS)) (Enc.mono (St.up hS) (show Enc.rep (α:=api_Code) H86 [.int .i64 x162.Regs,.int .i64 x162.Counts,.slice oa167 x162.L.length cap168] x162 from ⟨_,_,rfl,rfl,⟨_,_,rfl,rfl,⟨_,_,rfl,hc169,(hr170.mono (fun b o h=>hx83.sub b o (hx27.sub b o h)))⟩⟩⟩)) h172) ⟨rfl,trivial⟩ (fun v w a hR hF=>?_)
  obtain ⟨rfl,hk⟩:=hR
  replace hS:=hS.pass hk
  clear hk
  refine ls<|gy hF rfl rfl<|q1 hF rfl (e_eqlU (m:=r171) (n:=[48,32,115,101,116,32,48,32,48,32,48,32,91,35,49,32,35,50,32,58,53,93,10]) hF rfl rfl) fun a hF=>?_
  refine ls<|q1 hF rfl (e_pickT hF rfl rfl) fun a hF=>?_
  refine ls<|q1 hF rfl (e_asg hF rfl) fun a hF=>?_
  refine re<|?_
  refine tn<|?_
  refine wr<|?_
  obtain rfl:=Option.some.inj hm
  exact r1 hF Tryd.results10 rfl ⟨rfl,hS.keep⟩
set_option maxRecDepth 100000 in
theorem Z1h_c {N:Nat} {w0:World} {H:PH} (hH:H.le w0) {cs2:List Value} {p1:api_Code} (g3:Enc.rep H cs2 p1) {r:api_Code} (hm:Z1h N p1=some r):Tot Tryd.prog 11 #[.agg cs2.toArray] w0 (fun v w'=>∃ (H':PH) (cs0:List Value),v=.agg cs0.toArray∧Enc.rep H' cs0 r∧Ext w0 H H'∧H'.le w'∧Keep Nil w0 w'):=by
  unfold Z1h at hm
  refine fn0 (args:=[.agg cs2.toArray]) (F:=[(0,.agg cs2.toArray)]) Tryd.func11 rfl Tryd.ntmps11 rfl rfl fun a hF=>?_
  have hS:St w0 Nil [H] [] w0:=start1 hH
  obtain ⟨oa4,cap5,rfl,hc6,hr7⟩:=api_Code_open g3
  refine th<|?_
  refine rg<|?_
  refine ls<|a_box (cs:=[.int .i64 p1.Regs,.int .i64 p1.Counts,.slice oa4 p1.L.length cap5].toArray) hF rfl hS rfl rfl fun b8 w a hS hF=>?_
  refine ls<|a_alloc (cs:=[.int .i64 0,.int .i64 0,.slice none 0 0].toArray) hF rfl hS Tryd.zeroValue32 rfl fun b9 w a hS hF=>?_
  refine re<|?_
  refine tn<|th<|?_
  refine rg<|?_
  refine ls<|q1 hF rfl (e_fa hF fa32_0 rfl) fun a hF=>?_
  refine ls<|q1 hF rfl (e_ld hF Tryd.isAgg3 rfl ((St.ld hS).cellB (.tail _ (.head _)) rfl)) fun a hF=>?_
  refine ls<|q1 hF rfl (e_fa hF fa32_1 rfl) fun a hF=>?_
  refine ls<|q1 hF rfl (e_ld hF Tryd.isAgg3 rfl ((St.ld hS).cellB (.tail _ (.head _)) rfl)) fun a hF=>?_
  refine ls<|q1 hF rfl (e_bldK [.int .i64 p1.Regs,.int .i64 p1.Counts] [.int .i64 p1.Regs,.int .i64 p1.Counts,.slice none 0 0] hF ⟨rfl,rfl,trivial⟩ (fun w=>by kernel_rfl)) fun a hF=>?_
  refine ls<|a_alloc (cs:=[.int .i64 0,.int .i64 0,.slice none 0 0].toArray) hF rfl hS Tryd.zeroValue32 rfl fun b10 w a hS hF=>?_
  refine ls<|s_blkA hF hS Tryd.sizeOf32 rfl rfl rfl rfl (one_cells rfl) .head fun w hS=>?_
  refine re<|?_
  refine tn<|th<|th<|?_
  refine rg<|?_
  refine ls<|q1 hF rfl (e_asg hF rfl) fun a hF=>?_
  refine re<|?_
  refine tn<|midK (fun a w=>∃ (vA2:(List api_Instr)) (HA1:PH) (oaA3:Option Addr) (capA4:Nat) (vsA5:List Value),(Z1i p1) vA2=some r∧Ext w0 H HA1∧Fr 54 [(2,.pointer (some ⟨b9,0,none⟩)),(3,.pointer (some ⟨b10,0,none⟩))] a∧St w0 Nil [HA1] [blk b9 (.cells [.int .i64 0,.int .i64 0,.slice none 0 0].toArray 32 (0,0)),sla 49 6 oaA3 vA2.length capA4 vsA5,blk b10 (.cells [.int .i64 p1.Regs,.int .i64 p1.Counts,.slice oaA3 vA2.length capA4].toArray 32 (0,0))] w∧Rows HA1 vsA5 vA2) ?_ ?_
  ·
    replace hS:=St.nilS hS 49 6
    replace hS:=hS.pickL (.cons (.tail (.tail (.tail .head))) (.cons (.tail (.tail .head)) (.cons .head (.cons .head .nil))))
    refine wb<|lp (α:=Nat×(List api_Instr)×Int) (fun (gh:Nat×(List api_Instr)×Int) a w=>match gh with | (nn2,vB2,vB8)=>∃ (HB1:PH) (oaB3:Option Addr) (capB4:Nat) (vsB5:List Value),(Z1j N (Z1i p1) p1) nn2 vB2 vB8=some r∧Ext w0 H HB1∧Fr 54 [(1,.pointer (some ⟨b8,0,none⟩)),(2,.pointer (some ⟨b9,0,none⟩)),(3,.pointer (some ⟨b10,0,none⟩)),(4,.int .i64 vB8)] a∧St w0 Nil [HB1] [blk b8 (.cells [.int .i64 p1.Regs,.int .i64 p1.Counts,.slice oa4 p1.L.length cap5].toArray 32 (0,0)),blk b9 (.cells [.int .i64 0,.int .i64 0,.slice none 0 0].toArray 32 (0,0)),sla 49 6 oaB3 vB2.length capB4 vsB5,blk b10 (.cells [.int .i64 p1.Regs,.int .i64 p1.Counts,.slice oaB3 vB2.length capB4].toArray 32 (0,0))] w∧Rows HB1 vsB5 vB2) (fun gh=>gh.1) (N,[],0) ⟨H,none,0,[],hm,(Ext.refl _ _),hF.has ⟨rfl,rfl,rfl,rfl,trivial⟩,hS,.nil⟩ ?_
    clear hm hF hS
    rintro ⟨nn2,vB2,vB8⟩ a w ⟨HB1,oaB3,capB4,vsB5,hm,hxHB1,hF,hS,hvB6⟩
    obtain _ | nn2:=nn2
    · simp [Z1j] at hm
    rw [Z1j] at hm
    refine th<|th<|?_
    refine rg<|?_
    refine ls<|q1 hF rfl (e_move hF rfl) fun a hF=>?_
    refine ls<|q1 hF rfl (e_fa hF fa32_2 rfl) fun a hF=>?_
    refine ls<|q1 hF rfl (e_ld hF Tryd.isAgg30 rfl ((St.ld hS).cellB (.head _) rfl)) fun a hF=>?_
    refine ls<|q1 hF rfl (e_lenL (α:=api_Instr) (xs:=p1.L) hF Tryd.runUnderlying30 rfl) fun a hF=>?_
    refine ls<|q1 hF rfl (e_lss hF rfl rfl) fun a hF=>?_
    refine ls<|q1 hF rfl (e_move hF rfl) fun a hF=>?_
    refine grp (N:=54) (Fk:=[(1,.pointer (some ⟨b8,0,none⟩)),(2,.pointer (some ⟨b9,0,none⟩)),(3,.pointer (some ⟨b10,0,none⟩)),(4,.int .i64 vB8),(19,.bool ((decide (vB8 < (p1.L.length:Int))) && (decide (vB8 < 60))))]) (b:=(decide (vB8 < (p1.L.length:Int)))) 3 hS ?_ ?_ ?_
    ·
      intro hb key
      replace hF:=Fr.as hF (t:=16) rfl (congrArg Value.bool hb)
      refine ls<|gy hF rfl rfl<|q1 hF rfl (e_move hF rfl) fun a hF=>?_
      refine ls<|gy hF rfl rfl<|q1 hF rfl (e_lss hF rfl rfl) fun a hF=>?_
      refine ls<|q1 hF rfl (e_as (v':=.bool ((decide (vB8 < (p1.L.length:Int))) && (decide (vB8 < 60)))) (e_pickT hF rfl rfl) (by rw [hb];rfl)) fun a hF=>?_
      exact key _ _ (hF.has ⟨rfl,rfl,rfl,rfl,rfl,trivial⟩) hS
    ·
      intro hb key
      replace hF:=Fr.as hF (t:=16) rfl (congrArg Value.bool hb)
      refine ls<|gn hF rfl rfl rfl rfl fun a hF=>?_
      refine ls<|gn hF rfl rfl rfl rfl fun a hF=>?_
      refine ls<|q1 hF rfl (e_as (v':=.bool ((decide (vB8 < (p1.L.length:Int))) && (decide (vB8 < 60)))) (e_pickF hF rfl rfl) (by rw [hb];rfl)) fun a hF=>?_
      exact key _ _ (hF.has ⟨rfl,rfl,rfl,rfl,rfl,trivial⟩) hS
    intro a w hF hS
    refine re<|?_
    rcases bdich ((decide (vB8 < (p1.L.length:Int))) && (decide (vB8 < 60))) with hb11 | hb11
    ·
      replace hm:=ite_t hm hb11
      refine tn<|ctv hF rfl hb11<|wk<|?_
      refine tn<|th<|wb<|th<|?_
      replace hm:=bind_some hm
      obtain ⟨x12,h13,hm⟩:=hm
      obtain ⟨c14,g15,hl16⟩:=SR.get hr7 h13
      obtain ⟨oa17,cap18,oa21,cap22,rfl,hc19,hr20,hc23,hr24⟩:=api_Instr_open g15
      refine rg<|?_
      refine ls<|q1 hF rfl (e_fa hF fa32_2 rfl) fun a hF=>?_
      refine ls<|q1 hF rfl (e_ld hF Tryd.isAgg30 rfl ((St.ld hS).cellB (.head _) rfl)) fun a hF=>?_
      refine ls<|q1 hF rfl (e_move hF rfl) fun a hF=>?_
      refine ls<|q1 hF rfl (e_iaI hF Tryd.runUnderlying30 Tryd.sizeOf49 rfl rfl h13 (SR.oaI hr7 (by decide) h13)) fun a hF=>?_
      refine ls<|q1 hF rfl (e_ldA hF Tryd.isAgg49 Tryd.sizeOf49 rfl rfl (fun j v hj=>PH.le.cell (fun b o hx=>(Lds.le (St.ld hS)) b o (hxHB1.sub b o hx)) (hl16 j v hj))) fun a hF=>?_
      refine ls<|a_alloc (cs:=[.int .i64 0,.int .i64 0,.int .i64 0,.slice none 0 0,.slice none 0 0,.int .i64 0].toArray) hF rfl hS Tryd.zeroValue49 rfl fun b25 w a hS hF=>?_
      refine ls<|s_blkA hF hS Tryd.sizeOf49 rfl rfl rfl rfl (one_cells rfl) .head fun w hS=>?_
      refine re<|?_
      refine tn<|th<|?_
      replace hm:=bind_some hm
      obtain ⟨l29,h30,hm⟩:=hm
      obtain ⟨oa31,cap32,e33,e34,hc35,hr36⟩:=SR.sub (sz:=2) hr20 hc19 rfl h30
      replace hm:=bind_some hm
      obtain ⟨l37,h38,hm⟩:=hm
      refine rg<|?_
      refine ls<|a_bsl (e:=46) (sz:=2) [] hF rfl hS rfl rfl rfl (fun w=>by kernel_rfl) fun b27 w a hS hF=>?_
      have hv26:Rows (α:=api_Op) HB1 [] []:=.nil
      refine ls<|q1 hF rfl (e_fa hF fa49_3 rfl) fun a hF=>?_
      refine ls<|q1 hF rfl (e_ld hF Tryd.isAgg47 rfl ((St.ld hS).cellB (.tail _ (.head _)) rfl)) fun a hF=>?_
      refine ls<|q1 hF rfl (e_fa hF fa49_3 rfl) fun a hF=>?_
      refine ls<|q1 hF rfl (e_ld hF Tryd.isAgg47 rfl ((St.ld hS).cellB (.tail _ (.head _)) rfl)) fun a hF=>?_
      refine ls<|q1 hF rfl (e_lenL (α:=api_Op) (xs:=x12.E) hF Tryd.runUnderlying47 rfl) fun a hF=>?_
      refine ls<|q1 hF rfl (e_min hF rfl rfl) fun a hF=>?_
      refine ls<|q1 hF rfl (e_subL (xs:=x12.E) (vl:=0) (vh:=(min (x12.E.length:Int) 50)) hF Tryd.runUnderlying47 Tryd.sizeOf46 rfl hc19 rfl rfl h30 e33 e34) fun a hF=>?_
      obtain ⟨us43,hd44,hu45⟩:=id (hr36.mono hxHB1.sub)
      refine ls<|m_app (α:=api_Op) (xs:=[]) (ys:=l29) hF rfl hS Tryd.underlying47 info46 rfl (by decide) rfl rfl rfl (.head _) hv26 (hS.rdH (.head _) hd44) hu45 h38 fun oa39 cap40 vs41 w a hv42 hU hF=>?_
      replace hS:=hU _ .head
      clear hU
      refine ls<|q1 hF rfl (e_fa hF fa49_3 rfl) fun a hF=>?_
      refine ls<|s_blk hF hS Tryd.sizeOf47 rfl rfl rfl rfl (.tail .head) (.succ (.succ (.succ .zero))) fun w hS=>?_
      refine re<|?_
      refine tn<|th<|?_
      replace hm:=bind_some hm
      obtain ⟨l49,h50,hm⟩:=hm
      obtain ⟨oa51,cap52,e53,e54,hc55,hr56⟩:=SR.sub (sz:=2) hr24 hc23 rfl h50
      replace hm:=bind_some hm
      obtain ⟨l57,h58,hm⟩:=hm
      refine rg<|?_
      refine ls<|a_bsl (e:=46) (sz:=2) [] hF rfl hS rfl rfl rfl (fun w=>by kernel_rfl) fun b47 w a hS hF=>?_
      have hv46:Rows (α:=api_Op) HB1 [] []:=.nil
      refine ls<|q1 hF rfl (e_fa hF fa49_4 rfl) fun a hF=>?_
      refine ls<|q1 hF rfl (e_ld hF Tryd.isAgg47 rfl ((St.ld hS).cellB (.tail _ (.tail _ (.head _))) rfl)) fun a hF=>?_
      refine ls<|q1 hF rfl (e_fa hF fa49_4 rfl) fun a hF=>?_
      refine ls<|q1 hF rfl (e_ld hF Tryd.isAgg47 rfl ((St.ld hS).cellB (.tail _ (.tail _ (.head _))) rfl)) fun a hF=>?_
      refine ls<|q1 hF rfl (e_lenL (α:=api_Op) (xs:=x12.F) hF Tryd.runUnderlying47 rfl) fun a hF=>?_
      refine ls<|q1 hF rfl (e_min hF rfl rfl) fun a hF=>?_
      refine ls<|q1 hF rfl (e_subL (xs:=x12.F) (vl:=0) (vh:=(min (x12.F.length:Int) 50)) hF Tryd.runUnderlying47 Tryd.sizeOf46 rfl hc23 rfl rfl h50 e53 e54) fun a hF=>?_
      obtain ⟨us63,hd64,hu65⟩:=id (hr56.mono hxHB1.sub)
      refine ls<|m_app (α:=api_Op) (xs:=[]) (ys:=l49) hF rfl hS Tryd.underlying47 info46 rfl (by decide) rfl rfl rfl (.head _) hv46 (hS.rdH (.head _) hd64) hu65 h58 fun oa59 cap60 vs61 w a hv62 hU hF=>?_
      replace hS:=hU _ .head
      clear hU
      refine ls<|q1 hF rfl (e_fa hF fa49_4 rfl) fun a hF=>?_
      refine ls<|s_blk hF hS Tryd.sizeOf47 rfl rfl rfl rfl (.tail (.tail .head)) (.succ (.succ (.succ (.succ .zero)))) fun w hS=>?_
      refine re<|?_
      refine tn<|?_
      replace hm:=bind_some hm
      obtain ⟨l77,h78,hm⟩:=hm
      refine rg<|?_
      refine ls<|q1 hF rfl (e_fa hF fa32_2 rfl) fun a hF=>?_
      refine ls<|q1 hF rfl (e_ld hF Tryd.isAgg30 rfl ((St.ld hS).cellB (.tail _ (.tail _ (.tail _ (.tail _ (.tail _ (.tail _ (.head _))))))) rfl)) fun a hF=>?_
      refine ls<|q1 hF rfl (e_ldA hF Tryd.isAgg49 Tryd.sizeOf49 rfl rfl ((St.ld hS).cellsB (.tail _ (.tail _ (.head _))))) fun a hF=>?_
      obtain ⟨H69,hx66,hr67,hc68,hS⟩:=St.frzS hS (.tail .head) hv42
      obtain ⟨H73,hx70,hr71,hc72,hS⟩:=St.frzS hS .head (hv62.mono hx66.sub)
      refine ls<|a_bsl (e:=49) (sz:=6) [.int .i64 x12.Kind,.int .i64 x12.A,.int .i64 x12.B,.slice oa39 l37.length cap40,.slice oa59 l57.length cap60,.int .i64 x12.To] hF rfl hS rfl rfl rfl (fun w=>by kernel_rfl) fun b75 w a hS hF=>?_
      have hv74:Rows (α:=api_Instr) H73 [.int .i64 x12.Kind,.int .i64 x12.A,.int .i64 x12.B,.slice oa39 l37.length cap40,.slice oa59 l57.length cap60,.int .i64 x12.To] ([(api_Instr.mk x12.Kind x12.A x12.B l37 l57 x12.To)]:List api_Instr):=(.cons (c:=[.int .i64 x12.Kind,.int .i64 x12.A,.int .i64 x12.B,.slice oa39 l37.length cap40,.slice oa59 l57.length cap60,.int .i64 x12.To]) ⟨_,_,rfl,rfl,⟨_,_,rfl,rfl,⟨_,_,rfl,rfl,⟨_,_,rfl,⟨_,_,rfl,hc68,(hr67.mono hx70.sub)⟩,⟨_,_,rfl,⟨_,_,rfl,hc72,hr71⟩,rfl⟩⟩⟩⟩⟩ .nil)
      refine ls<|m_app (α:=api_Instr) (xs:=vB2) (ys:=([(api_Instr.mk x12.Kind x12.A x12.B l37 l57 x12.To)]:List api_Instr)) hF rfl hS Tryd.underlying30 info49 rfl (by decide) rfl rfl rfl (.tail _ (.tail _ (.tail _ (.tail _ (.head _))))) (hvB6.mono (fun b o h=>hx70.sub b o (hx66.sub b o h))) (hS.rdO (.head _)) hv74 h78 fun oa79 cap80 vs81 w a hv82 hU hF=>?_
      replace hS:=hU _ (.tail (.tail (.tail (.tail .head))))
      clear hU
      replace hS:=hS.drop .head
      refine ls<|q1 hF rfl (e_fa hF fa32_2 rfl) fun a hF=>?_
      refine ls<|s_blk hF hS Tryd.sizeOf30 rfl rfl rfl rfl (.tail (.tail (.tail (.tail .head)))) (.succ (.succ .zero)) fun w hS=>?_
      refine re<|?_
      refine bn<|tn<|?_
      refine rg<|?_
      refine ls<|q1 hF rfl (e_move hF rfl) fun a hF=>?_
      refine ls<|q1 hF rfl (e_add hF rfl rfl) fun a hF=>?_
      refine ls<|q1 hF rfl (e_asg hF rfl) fun a hF=>?_
      refine re<|?_
      refine tn<|?_
      replace hS:=hS.pickL (.cons (.tail .head) (.cons (.tail .head) (.cons (.tail .head) (.cons (.tail .head) .nil))))
      exact ⟨(nn2,l77,(IntKind.i64.wrap (vB8+1))),⟨H73,oa79,cap80,vs81,hm,(Ext.trans hxHB1 (Ext.trans hx66 hx70)),hF.has ⟨rfl,rfl,rfl,rfl,trivial⟩,hS,hv82⟩,Nat.lt_succ_self _⟩
    ·
      replace hm:=ite_f hm hb11
      refine tn<|cfv hF rfl hb11<|?_
      refine we<|tx<|tx<|bx<|?_
      refine tn<|?_
      replace hS:=hS.pickL (.cons (.tail .head) (.cons (.tail .head) (.cons (.tail .head) .nil)))
      exact ⟨vB2,HB1,oaB3,capB4,vsB5,hm,hxHB1,hF.has ⟨rfl,rfl,trivial⟩,hS,hvB6⟩
  clear hm hF hS
  rintro a w ⟨vA2,HA1,oaA3,capA4,vsA5,hm,hxHA1,hF,hS,hvA6⟩
  unfold Z1i at hm
  refine th<|?_
  refine rg<|?_
  refine ls<|q1 hF rfl (e_ldA hF Tryd.isAgg32 Tryd.sizeOf32 rfl rfl ((St.ld hS).cellsB (.tail _ (.tail _ (.head _))))) fun a hF=>?_
  refine ls<|s_blkA hF hS Tryd.sizeOf32 rfl rfl rfl rfl (one_cells rfl) .head fun w hS=>?_
  refine re<|?_
  refine tn<|?_
  refine wr<|?_
  obtain ⟨H86,hx83,hr84,hc85,hS⟩:=St.frzS hS (.tail .head) hvA6
  obtain rfl:=Option.some.inj hm
  exact r1c (vs:=[.int .i64 p1.Regs,.int .i64 p1.Counts,.slice oaA3 vA2.length capA4]) (.inl rfl) hF Tryd.results11 rfl Tryd.isAgg32 Tryd.sizeOf32 rfl ((St.ld hS).cellsB (.head _)) ⟨H86,_,rfl,(show Enc.rep (α:=api_Code) H86 [.int .i64 p1.Regs,.int .i64 p1.Counts,.slice oaA3 vA2.length capA4] (api_Code.mk p1.Regs p1.Counts vA2) from ⟨_,_,rfl,rfl,⟨_,_,rfl,rfl,⟨_,_,rfl,hc85,hr84⟩⟩⟩),(Ext.trans hxHA1 hx83),(St.le hS),hS.keep⟩
set_option maxHeartbeats 4000000 in
set_option maxRecDepth 100000 in
theorem Z1k_c {N:Nat} {w0:World} {H:PH} (hH:H.le w0) (hT:Tab H) {cs2:List Value} {p1:api_Code} (g3:Enc.rep H cs2 p1) {r:Bool} (hm:Z1k N p1=some r):Tot Tryd.prog 5 #[.agg cs2.toArray] w0 (fun v w'=>v=.bool r∧Keep Nil w0 w'):=by
  unfold Z1k at hm
  refine fn0 (args:=[.agg cs2.toArray]) (F:=[(0,.agg cs2.toArray)]) Tryd.func5 rfl Tryd.ntmps5 rfl rfl fun a hF=>?_
  have hS:St w0 Nil [H] [] w0:=start1 hH
  obtain ⟨oa4,cap5,rfl,hc6,hr7⟩:=api_Code_open g3
  refine th<|?_
  refine rg<|?_
  refine ls<|a_box (cs:=[.int .i64 p1.Regs,.int .i64 p1.Counts,.slice oa4 p1.L.length cap5].toArray) hF rfl hS rfl rfl fun b8 w a hS hF=>?_
  refine ls<|q1 hF rfl (e_asg hF rfl) fun a hF=>?_
  refine re<|?_
  refine tn<|th<|?_
  replace hm:=bind_some hm
  obtain ⟨rz9,h10,hm⟩:=hm
  refine rg<|?_
  refine ls<|q1 hF rfl (e_ldA hF Tryd.isAgg32 Tryd.sizeOf32 rfl rfl ((St.ld hS).cellsB (.head _))) fun a hF=>?_
  refine ls<|c1 hF rfl Tryd.call11 (Z1h_c (St.le hS) (show Enc.rep (α:=api_Code) H [.int .i64 p1.Regs,.int .i64 p1.Counts,.slice oa4 p1.L.length cap5] p1 from ⟨_,_,rfl,rfl,⟨_,_,rfl,rfl,⟨_,_,rfl,hc6,hr7⟩⟩⟩) h10) ⟨rfl,trivial⟩ (fun v w a hR hF=>?_)
  obtain ⟨H14,cs15,rfl,g16,hx11,hl12,hk⟩:=hR
  obtain ⟨hS,hx11⟩:=And.intro (St.passH hS hk hx11 hl12) (St.extc hS hx11)
  clear hk
  obtain ⟨oa17,cap18,rfl,hc19,hr20⟩:=api_Code_open g16
  refine ls<|s_blkA hF hS Tryd.sizeOf32 rfl rfl rfl rfl (one_cells rfl) .head fun w hS=>?_
  refine re<|?_
  refine tn<|th<|?_
  replace hm:=bind_some hm
  obtain ⟨r21,h22,hm⟩:=hm
  refine rg<|?_
  refine ls<|q1 hF rfl (e_ldA hF Tryd.isAgg32 Tryd.sizeOf32 rfl rfl ((St.ld hS).cellsB (.head _))) fun a hF=>?_
  refine ls<|c1 hF rfl Tryd.call12 (Zd_c (hp_le _) (Tab.mono (Tab.mono hT hx11.sub) (St.up hS)) (Enc.mono (St.up hS) (show Enc.rep (α:=api_Code) H14 [.int .i64 rz9.Regs,.int .i64 rz9.Counts,.slice oa17 rz9.L.length cap18] rz9 from ⟨_,_,rfl,rfl,⟨_,_,rfl,rfl,⟨_,_,rfl,hc19,hr20⟩⟩⟩)) h22) ⟨rfl,trivial⟩ (fun v w a hR hF=>?_)
  obtain ⟨rfl,hk⟩:=hR
  replace hS:=hS.pass hk
  clear hk
  refine ls<|q1 hF rfl (e_asg hF rfl) fun a hF=>?_
  refine ls<|q1 hF rfl (e_asg hF rfl) fun a hF=>?_
  refine ls<|q1 hF rfl (e_asg hF rfl) fun a hF=>?_
  refine re<|?_
  refine tn<|th<|th<|?_
  refine rg<|?_
  refine ls<|q1 hF rfl (e_asg hF rfl) fun a hF=>?_
  refine re<|?_
  refine tn<|midK (fun a w=>∃ (vA1:Int) (vA2:Int),(Z1l N rz9 r21) vA1 vA2=some r∧Fr 83 [(1,.pointer (some ⟨b8,0,none⟩)),(3,strv r21),(4,.int .i64 vA1),(5,.int .i64 vA2)] a∧St w0 Nil [H14] [blk b8 (.cells [.int .i64 rz9.Regs,.int .i64 rz9.Counts,.slice oa17 rz9.L.length cap18].toArray 32 (0,0))] w) ?_ ?_
  ·
    refine wb<|lp (α:=Nat×Int×Int×Int) (fun (gh:Nat×Int×Int×Int) a w=>match gh with | (nn2,vB1,vB2,vB3)=>(Z1o N (Z1l N rz9 r21) rz9 r21) nn2 vB1 vB2 vB3=some r∧Fr 83 [(1,.pointer (some ⟨b8,0,none⟩)),(3,strv r21),(4,.int .i64 vB1),(5,.int .i64 vB2),(6,.int .i64 vB3)] a∧St w0 Nil [H14] [blk b8 (.cells [.int .i64 rz9.Regs,.int .i64 rz9.Counts,.slice oa17 rz9.L.length cap18].toArray 32 (0,0))] w) (fun gh=>gh.1) (N,0,0,0) ⟨hm,hF.has ⟨rfl,rfl,rfl,rfl,rfl,trivial⟩,hS⟩ ?_
    clear hm hF hS
    rintro ⟨nn2,vB1,vB2,vB3⟩ a w ⟨hm,hF,hS⟩
    obtain _ | nn2:=nn2
    · simp [Z1o] at hm
    rw [Z1o] at hm
    refine th<|th<|?_
    refine rg<|?_
    refine ls<|q1 hF rfl (e_move hF rfl) fun a hF=>?_
    refine ls<|q1 hF rfl (e_move hF rfl) fun a hF=>?_
    refine ls<|q1 hF rfl (e_lenU (s:=r21) hF Tryd.runUnderlying9 rfl) fun a hF=>?_
    refine ls<|q1 hF rfl (e_lss hF rfl rfl) fun a hF=>?_
    refine re<|?_
    rcases bdich (decide (vB3 < (r21.length:Int))) with hb23 | hb23
    ·
      replace hm:=itp_t hm hb23
      refine tn<|ctv hF rfl hb23<|wk<|?_
      refine tn<|th<|midK (fun a w=>∃ (vC1:Int) (vC2:Int),(Z1m (Z1o N (Z1l N rz9 r21) rz9 r21 nn2) vB3) vC1 vC2=some r∧Fr 83 [(1,.pointer (some ⟨b8,0,none⟩)),(3,strv r21),(4,.int .i64 vC1),(5,.int .i64 vC2),(6,.int .i64 vB3)] a∧St w0 Nil [H14] [blk b8 (.cells [.int .i64 rz9.Regs,.int .i64 rz9.Counts,.slice oa17 rz9.L.length cap18].toArray 32 (0,0))] w) ?_ ?_
      ·
        refine wb<|th<|th<|?_
        replace hm:=bind_some hm
        obtain ⟨x24,h25,hm⟩:=hm
        refine rg<|?_
        refine ls<|q1 hF rfl (e_move hF rfl) fun a hF=>?_
        refine ls<|q1 hF rfl (e_move hF rfl) fun a hF=>?_
        refine ls<|q1 hF rfl (e_byte (s:=r21) hF Tryd.runUnderlying9 rfl rfl h25) fun a hF=>?_
        refine ls<|q1 hF rfl (e_neq hF rfl rfl) fun a hF=>?_
        refine re<|?_
        rcases bdich (decide (x24≠10)) with hb26 | hb26
        ·
          replace hm:=itp_t hm hb26
          refine tn<|ctv hF rfl hb26<|?_
          refine we<|tx<|bx<|?_
          refine tn<|?_
          exact ⟨vB1,vB2,hm,hF.has ⟨rfl,rfl,rfl,rfl,rfl,trivial⟩,hS⟩
        ·
          replace hm:=itp_f hm hb26
          refine tn<|cfv hF rfl hb26<|wk<|?_
          refine tn<|th<|th<|?_
          refine rg<|?_
          refine ls<|q1 hF rfl (e_move hF rfl) fun a hF=>?_
          refine ls<|q1 hF rfl (e_fa hF fa32_2 rfl) fun a hF=>?_
          refine ls<|q1 hF rfl (e_ld hF Tryd.isAgg30 rfl ((St.ld hS).cellB (.head _) rfl)) fun a hF=>?_
          refine ls<|q1 hF rfl (e_lenL (α:=api_Instr) (xs:=rz9.L) hF Tryd.runUnderlying30 rfl) fun a hF=>?_
          refine ls<|q1 hF rfl (e_geq hF rfl rfl) fun a hF=>?_
          refine re<|?_
          replace hm:=bind_some hm
          obtain ⟨_,hb27,hm⟩:=hm
          replace hb27:=bnt (sure_some hb27)
          refine tn<|cfv hF rfl hb27<|wk<|?_
          refine tn<|th<|?_
          replace hm:=bind_some hm
          obtain ⟨l28,h29,hm⟩:=hm
          obtain ⟨oa30,cap31,e32,e33,hc34,hr35⟩:=SR.sub (sz:=6) hr20 hc19 rfl h29
          replace hm:=bind_some hm
          obtain ⟨r36,h37,hm⟩:=hm
          refine rg<|?_
          refine ls<|q1 hF rfl (e_fa hF fa32_2 rfl) fun a hF=>?_
          refine ls<|q1 hF rfl (e_ld hF Tryd.isAgg30 rfl ((St.ld hS).cellB (.head _) rfl)) fun a hF=>?_
          refine ls<|q1 hF rfl (e_move hF rfl) fun a hF=>?_
          refine ls<|q1 hF rfl (e_move hF rfl) fun a hF=>?_
          refine ls<|q1 hF rfl (e_add hF rfl rfl) fun a hF=>?_
          refine ls<|q1 hF rfl (e_subL (xs:=rz9.L) (vl:=vB2) (vh:=(IntKind.i64.wrap (vB2+1))) hF Tryd.runUnderlying30 Tryd.sizeOf49 rfl hc19 rfl rfl h29 e32 e33) fun a hF=>?_
          refine ls<|q1 hF rfl (e_bldK [.slice oa30 l28.length cap31] [.int .i64 0,.int .i64 0,.slice oa30 l28.length cap31] hF ⟨rfl,trivial⟩ (fun w=>by kernel_rfl)) fun a hF=>?_
          refine ls<|c1 hF rfl Tryd.call12 (Zd_c (hp_le _) (Tab.mono (Tab.mono hT hx11.sub) (St.up hS)) (Enc.mono (St.up hS) (show Enc.rep (α:=api_Code) H14 [.int .i64 0,.int .i64 0,.slice oa30 l28.length cap31] (api_Code.mk 0 0 l28) from ⟨_,_,rfl,rfl,⟨_,_,rfl,rfl,⟨_,_,rfl,hc34,hr35⟩⟩⟩)) h37) ⟨rfl,trivial⟩ (fun v w a hR hF=>?_)
          obtain ⟨rfl,hk⟩:=hR
          replace hS:=hS.pass hk
          clear hk
          refine ls<|q1 hF rfl (e_asg hF rfl) fun a hF=>?_
          refine re<|?_
          refine tn<|th<|?_
          replace hm:=bind_some hm
          obtain ⟨s38,h39,hm⟩:=hm
          refine rg<|?_
          refine ls<|q1 hF rfl (e_move hF rfl) fun a hF=>?_
          refine ls<|q1 hF rfl (e_move hF rfl) fun a hF=>?_
          refine ls<|q1 hF rfl (e_move hF rfl) fun a hF=>?_
          refine ls<|q1 hF rfl (e_add hF rfl rfl) fun a hF=>?_
          refine ls<|q1 hF rfl (e_subU (s:=r21) (vl:=vB1) (vh:=(IntKind.i64.wrap (vB3+1))) hF Tryd.runUnderlying9 rfl rfl rfl h39) fun a hF=>?_
          refine ls<|q1 hF rfl (e_asg hF rfl) fun a hF=>?_
          refine re<|?_
          refine tn<|th<|th<|midK (fun a w=>∃ (vD1:Bool),(Z1n (Z1m (Z1o N (Z1l N rz9 r21) rz9 r21 nn2) vB3) vB2 vB3) vD1=some r∧Fr 83 [(1,.pointer (some ⟨b8,0,none⟩)),(3,strv r21),(5,.int .i64 vB2),(6,.int .i64 vB3),(64,.bool vD1)] a∧St w0 Nil [H14] [blk b8 (.cells [.int .i64 rz9.Regs,.int .i64 rz9.Counts,.slice oa17 rz9.L.length cap18].toArray 32 (0,0))] w) ?_ ?_
          ·
            rcases bdich (decide (vB2 < 10)) with hb40 | hb40
            ·
              replace hm:=itp_t hm hb40
              rcases bdich (decide ((s38.length:Int)≠(r36.length:Int))) with hb41 | hb41
              ·
                replace hm:=itp_t hm hb41
                refine rxS 24 hS wide (by kernel_rfl) fun w hS=>?_
                refine x1 (St.ld hS) hF rfl rfl (fun _ _ _ h=>h) (fun w hl=>(e_move hF rfl)) fun a hF=>?_
                refine x1 (St.ld hS) hF rfl rfl (fun _ _ _ h=>h) (fun w hl=>(e_lss hF rfl rfl)) fun a hF=>?_
                refine x1 (St.ld hS) hF rfl rfl (fun _ _ _ h=>h) (fun w hl=>(e_as (e_move hF rfl) (congrArg Value.bool hb40))) fun a hF=>?_
                refine x1g (St.ld hS) hF rfl rfl rfl rfl (fun _ _ _ h=>h) (fun w hl=>(e_move hF rfl)) fun a hF=>?_
                refine x1g (St.ld hS) hF rfl rfl rfl rfl (fun _ _ _ h=>h) (fun w hl=>(e_lenU (s:=s38) hF Tryd.runUnderlying9 rfl)) fun a hF=>?_
                refine x1g (St.ld hS) hF rfl rfl rfl rfl (fun _ _ _ h=>h) (fun w hl=>(e_move hF rfl)) fun a hF=>?_
                refine x1g (St.ld hS) hF rfl rfl rfl rfl (fun _ _ _ h=>h) (fun w hl=>(e_lenU (s:=r36) hF Tryd.runUnderlying9 rfl)) fun a hF=>?_
                refine x1g (St.ld hS) hF rfl rfl rfl rfl (fun _ _ _ h=>h) (fun w hl=>(e_neq hF rfl rfl)) fun a hF=>?_
                refine x1g (St.ld hS) hF rfl rfl rfl rfl (fun _ _ _ h=>h) (fun w hl=>(e_as (e_move hF rfl) (congrArg Value.bool hb41))) fun a hF=>?_
                refine x1n (St.ld hS) hF rfl rfl rfl rfl rfl (fun _ _ _ h=>h) fun a hF=>?_
                refine x1n (St.ld hS) hF rfl rfl rfl rfl rfl (fun _ _ _ h=>h) fun a hF=>?_
                refine x1n (St.ld hS) hF rfl rfl rfl rfl rfl (fun _ _ _ h=>h) fun a hF=>?_
                refine x1n (St.ld hS) hF rfl rfl rfl rfl rfl (fun _ _ _ h=>h) fun a hF=>?_
                refine x1n (St.ld hS) hF rfl rfl rfl rfl rfl (fun _ _ _ h=>h) fun a hF=>?_
                refine x1g (St.ld hS) hF rfl rfl rfl rfl (fun _ _ _ h=>h) (fun w hl=>(e_pickT hF rfl rfl)) fun a hF=>?_
                refine x1g (St.ld hS) hF rfl rfl rfl rfl (fun _ _ _ h=>h) (fun w hl=>(e_move hF rfl)) fun a hF=>?_
                refine x1n (St.ld hS) hF rfl rfl rfl rfl rfl (fun _ _ _ h=>h) fun a hF=>?_
                refine x1n (St.ld hS) hF rfl rfl rfl rfl rfl (fun _ _ _ h=>h) fun a hF=>?_
                refine x1n (St.ld hS) hF rfl rfl rfl rfl rfl (fun _ _ _ h=>h) fun a hF=>?_
                refine x1n (St.ld hS) hF rfl rfl rfl rfl rfl (fun _ _ _ h=>h) fun a hF=>?_
                refine x1n (St.ld hS) hF rfl rfl rfl rfl rfl (fun _ _ _ h=>h) fun a hF=>?_
                refine x1n (St.ld hS) hF rfl rfl rfl rfl rfl (fun _ _ _ h=>h) fun a hF=>?_
                refine x1g (St.ld hS) hF rfl rfl rfl rfl (fun _ _ _ h=>h) (fun w hl=>(e_pickT hF rfl rfl)) fun a hF=>?_
                refine x1 (St.ld hS) hF rfl rfl (fun _ _ _ h=>h) (fun w hl=>(e_pickT hF rfl rfl)) fun a hF=>?_
                refine xe<|?_
                refine tn<|?_
                exact ⟨true,hm,hF.has ⟨rfl,rfl,rfl,rfl,rfl,trivial⟩,hS⟩
              ·
                replace hm:=itp_f hm hb41
                replace hm:=bind_some hm
                obtain ⟨s42,h43,hm⟩:=hm
                replace hm:=bind_some hm
                obtain ⟨s44,h45,hm⟩:=hm
                rcases bdich (decide (s42≠s44)) with hb46 | hb46
                ·
                  replace hm:=itp_t hm hb46
                  refine rxS 24 hS wide (by kernel_rfl) fun w hS=>?_
                  refine x1 (St.ld hS) hF rfl rfl (fun _ _ _ h=>h) (fun w hl=>(e_move hF rfl)) fun a hF=>?_
                  refine x1 (St.ld hS) hF rfl rfl (fun _ _ _ h=>h) (fun w hl=>(e_lss hF rfl rfl)) fun a hF=>?_
                  refine x1 (St.ld hS) hF rfl rfl (fun _ _ _ h=>h) (fun w hl=>(e_as (e_move hF rfl) (congrArg Value.bool hb40))) fun a hF=>?_
                  refine x1g (St.ld hS) hF rfl rfl rfl rfl (fun _ _ _ h=>h) (fun w hl=>(e_move hF rfl)) fun a hF=>?_
                  refine x1g (St.ld hS) hF rfl rfl rfl rfl (fun _ _ _ h=>h) (fun w hl=>(e_lenU (s:=s38) hF Tryd.runUnderlying9 rfl)) fun a hF=>?_
                  refine x1g (St.ld hS) hF rfl rfl rfl rfl (fun _ _ _ h=>h) (fun w hl=>(e_move hF rfl)) fun a hF=>?_
                  refine x1g (St.ld hS) hF rfl rfl rfl rfl (fun _ _ _ h=>h) (fun w hl=>(e_lenU (s:=r36) hF Tryd.runUnderlying9 rfl)) fun a hF=>?_
                  refine x1g (St.ld hS) hF rfl rfl rfl rfl (fun _ _ _ h=>h) (fun w hl=>(e_neq hF rfl rfl)) fun a hF=>?_
                  refine x1g (St.ld hS) hF rfl rfl rfl rfl (fun _ _ _ h=>h) (fun w hl=>(e_as (e_move hF rfl) (congrArg Value.bool hb41))) fun a hF=>?_
                  refine x1g (St.ld hS) hF rfl rfl rfl rfl (fun _ _ _ h=>h) (fun w hl=>(e_move hF rfl)) fun a hF=>?_
                  refine x1g (St.ld hS) hF rfl rfl rfl rfl (fun _ _ _ h=>h) (fun w hl=>(e_subU (s:=s38) (vl:=1) (vh:=(s38.length:Int)) hF Tryd.runUnderlying9 rfl rfl rfl h43)) fun a hF=>?_
                  refine x1g (St.ld hS) hF rfl rfl rfl rfl (fun _ _ _ h=>h) (fun w hl=>(e_move hF rfl)) fun a hF=>?_
                  refine x1g (St.ld hS) hF rfl rfl rfl rfl (fun _ _ _ h=>h) (fun w hl=>(e_subU (s:=r36) (vl:=1) (vh:=(r36.length:Int)) hF Tryd.runUnderlying9 rfl rfl rfl h45)) fun a hF=>?_
                  refine x1g (St.ld hS) hF rfl rfl rfl rfl (fun _ _ _ h=>h) (fun w hl=>(e_neqU (m:=s42) (n:=s44) hF rfl rfl)) fun a hF=>?_
                  refine x1g (St.ld hS) hF rfl rfl rfl rfl (fun _ _ _ h=>h) (fun w hl=>(e_pickF hF rfl rfl)) fun a hF=>?_
                  refine x1g (St.ld hS) hF rfl rfl rfl rfl (fun _ _ _ h=>h) (fun w hl=>(e_as (e_move hF rfl) (congrArg Value.bool hb46))) fun a hF=>?_
                  refine x1n (St.ld hS) hF rfl rfl rfl rfl rfl (fun _ _ _ h=>h) fun a hF=>?_
                  refine x1n (St.ld hS) hF rfl rfl rfl rfl rfl (fun _ _ _ h=>h) fun a hF=>?_
                  refine x1n (St.ld hS) hF rfl rfl rfl rfl rfl (fun _ _ _ h=>h) fun a hF=>?_
                  refine x1n (St.ld hS) hF rfl rfl rfl rfl rfl (fun _ _ _ h=>h) fun a hF=>?_
                  refine x1n (St.ld hS) hF rfl rfl rfl rfl rfl (fun _ _ _ h=>h) fun a hF=>?_
                  refine x1n (St.ld hS) hF rfl rfl rfl rfl rfl (fun _ _ _ h=>h) fun a hF=>?_
                  refine x1g (St.ld hS) hF rfl rfl rfl rfl (fun _ _ _ h=>h) (fun w hl=>(e_pickT hF rfl rfl)) fun a hF=>?_
                  refine x1 (St.ld hS) hF rfl rfl (fun _ _ _ h=>h) (fun w hl=>(e_pickT hF rfl rfl)) fun a hF=>?_
                  refine xe<|?_
                  refine tn<|?_
                  exact ⟨true,hm,hF.has ⟨rfl,rfl,rfl,rfl,rfl,trivial⟩,hS⟩
                ·
                  replace hm:=itp_f hm hb46
                  replace hm:=bind_some hm
                  obtain ⟨x47,h48,hm⟩:=hm
                  refine rxS 24 hS wide (by kernel_rfl) fun w hS=>?_
                  refine x1 (St.ld hS) hF rfl rfl (fun _ _ _ h=>h) (fun w hl=>(e_move hF rfl)) fun a hF=>?_
                  refine x1 (St.ld hS) hF rfl rfl (fun _ _ _ h=>h) (fun w hl=>(e_lss hF rfl rfl)) fun a hF=>?_
                  refine x1 (St.ld hS) hF rfl rfl (fun _ _ _ h=>h) (fun w hl=>(e_as (e_move hF rfl) (congrArg Value.bool hb40))) fun a hF=>?_
                  refine x1g (St.ld hS) hF rfl rfl rfl rfl (fun _ _ _ h=>h) (fun w hl=>(e_move hF rfl)) fun a hF=>?_
                  refine x1g (St.ld hS) hF rfl rfl rfl rfl (fun _ _ _ h=>h) (fun w hl=>(e_lenU (s:=s38) hF Tryd.runUnderlying9 rfl)) fun a hF=>?_
                  refine x1g (St.ld hS) hF rfl rfl rfl rfl (fun _ _ _ h=>h) (fun w hl=>(e_move hF rfl)) fun a hF=>?_
                  refine x1g (St.ld hS) hF rfl rfl rfl rfl (fun _ _ _ h=>h) (fun w hl=>(e_lenU (s:=r36) hF Tryd.runUnderlying9 rfl)) fun a hF=>?_
                  refine x1g (St.ld hS) hF rfl rfl rfl rfl (fun _ _ _ h=>h) (fun w hl=>(e_neq hF rfl rfl)) fun a hF=>?_
                  refine x1g (St.ld hS) hF rfl rfl rfl rfl (fun _ _ _ h=>h) (fun w hl=>(e_as (e_move hF rfl) (congrArg Value.bool hb41))) fun a hF=>?_
                  refine x1g (St.ld hS) hF rfl rfl rfl rfl (fun _ _ _ h=>h) (fun w hl=>(e_move hF rfl)) fun a hF=>?_
                  refine x1g (St.ld hS) hF rfl rfl rfl rfl (fun _ _ _ h=>h) (fun w hl=>(e_subU (s:=s38) (vl:=1) (vh:=(s38.length:Int)) hF Tryd.runUnderlying9 rfl rfl rfl h43)) fun a hF=>?_
                  refine x1g (St.ld hS) hF rfl rfl rfl rfl (fun _ _ _ h=>h) (fun w hl=>(e_move hF rfl)) fun a hF=>?_
                  refine x1g (St.ld hS) hF rfl rfl rfl rfl (fun _ _ _ h=>h) (fun w hl=>(e_subU (s:=r36) (vl:=1) (vh:=(r36.length:Int)) hF Tryd.runUnderlying9 rfl rfl rfl h45)) fun a hF=>?_
                  refine x1g (St.ld hS) hF rfl rfl rfl rfl (fun _ _ _ h=>h) (fun w hl=>(e_neqU (m:=s42) (n:=s44) hF rfl rfl)) fun a hF=>?_
                  refine x1g (St.ld hS) hF rfl rfl rfl rfl (fun _ _ _ h=>h) (fun w hl=>(e_pickF hF rfl rfl)) fun a hF=>?_
                  refine x1g (St.ld hS) hF rfl rfl rfl rfl (fun _ _ _ h=>h) (fun w hl=>(e_as (e_move hF rfl) (congrArg Value.bool hb46))) fun a hF=>?_
                  refine x1g (St.ld hS) hF rfl rfl rfl rfl (fun _ _ _ h=>h) (fun w hl=>(e_move hF rfl)) fun a hF=>?_
                  refine x1g (St.ld hS) hF rfl rfl rfl rfl (fun _ _ _ h=>h) (fun w hl=>(e_byte (s:=s38) hF Tryd.runUnderlying9 rfl rfl h48)) fun a hF=>?_
                  refine x1g (St.ld hS) hF rfl rfl rfl rfl (fun _ _ _ h=>h) (fun w hl=>(e_move hF rfl)) fun a hF=>?_
                  refine x1g (St.ld hS) hF rfl rfl rfl rfl (fun _ _ _ h=>h) (fun w hl=>(e_add hF rfl rfl)) fun a hF=>?_
                  refine x1g (St.ld hS) hF rfl rfl rfl rfl (fun _ _ _ h=>h) (fun w hl=>(e_cvt hF Tryd.runUnderlying3 Tryd.runUnderlying5 rfl)) fun a hF=>?_
                  refine x1g (St.ld hS) hF rfl rfl rfl rfl (fun _ _ _ h=>h) (fun w hl=>(e_neq hF rfl rfl)) fun a hF=>?_
                  refine x1g (St.ld hS) hF rfl rfl rfl rfl (fun _ _ _ h=>h) (fun w hl=>(e_pickF hF rfl rfl)) fun a hF=>?_
                  refine x1 (St.ld hS) hF rfl rfl (fun _ _ _ h=>h) (fun w hl=>(e_pickT hF rfl rfl)) fun a hF=>?_
                  refine xe<|?_
                  refine tn<|?_
                  exact ⟨(decide (x47≠(IntKind.u8.wrap (IntKind.i64.wrap (48+vB2))))),hm,hF.has ⟨rfl,rfl,rfl,rfl,rfl,trivial⟩,hS⟩
            ·
              replace hm:=itp_f hm hb40
              refine rxS 24 hS wide (by kernel_rfl) fun w hS=>?_
              refine x1 (St.ld hS) hF rfl rfl (fun _ _ _ h=>h) (fun w hl=>(e_move hF rfl)) fun a hF=>?_
              refine x1 (St.ld hS) hF rfl rfl (fun _ _ _ h=>h) (fun w hl=>(e_lss hF rfl rfl)) fun a hF=>?_
              refine x1 (St.ld hS) hF rfl rfl (fun _ _ _ h=>h) (fun w hl=>(e_as (e_move hF rfl) (congrArg Value.bool hb40))) fun a hF=>?_
              refine x1n (St.ld hS) hF rfl rfl rfl rfl rfl (fun _ _ _ h=>h) fun a hF=>?_
              refine x1n (St.ld hS) hF rfl rfl rfl rfl rfl (fun _ _ _ h=>h) fun a hF=>?_
              refine x1n (St.ld hS) hF rfl rfl rfl rfl rfl (fun _ _ _ h=>h) fun a hF=>?_
              refine x1n (St.ld hS) hF rfl rfl rfl rfl rfl (fun _ _ _ h=>h) fun a hF=>?_
              refine x1n (St.ld hS) hF rfl rfl rfl rfl rfl (fun _ _ _ h=>h) fun a hF=>?_
              refine x1n (St.ld hS) hF rfl rfl rfl rfl rfl (fun _ _ _ h=>h) fun a hF=>?_
              refine x1u (St.ld hS) hF rfl rfl rfl rfl (fun _ _ _ h=>h) fun a hF=>?_
              refine x1u (St.ld hS) hF rfl rfl rfl rfl (fun _ _ _ h=>h) fun a hF=>?_
              refine x1u (St.ld hS) hF rfl rfl rfl rfl (fun _ _ _ h=>h) fun a hF=>?_
              refine x1u (St.ld hS) hF rfl rfl rfl rfl (fun _ _ _ h=>h) fun a hF=>?_
              refine x1u (St.ld hS) hF rfl rfl rfl rfl (fun _ _ _ h=>h) fun a hF=>?_
              refine x1n (St.ld hS) hF rfl rfl rfl rfl rfl (fun _ _ _ h=>h) fun a hF=>?_
              refine x1n (St.ld hS) hF rfl rfl rfl rfl rfl (fun _ _ _ h=>h) fun a hF=>?_
              refine x1u (St.ld hS) hF rfl rfl rfl rfl (fun _ _ _ h=>h) fun a hF=>?_
              refine x1u (St.ld hS) hF rfl rfl rfl rfl (fun _ _ _ h=>h) fun a hF=>?_
              refine x1u (St.ld hS) hF rfl rfl rfl rfl (fun _ _ _ h=>h) fun a hF=>?_
              refine x1u (St.ld hS) hF rfl rfl rfl rfl (fun _ _ _ h=>h) fun a hF=>?_
              refine x1u (St.ld hS) hF rfl rfl rfl rfl (fun _ _ _ h=>h) fun a hF=>?_
              refine x1u (St.ld hS) hF rfl rfl rfl rfl (fun _ _ _ h=>h) fun a hF=>?_
              refine x1n (St.ld hS) hF rfl rfl rfl rfl rfl (fun _ _ _ h=>h) fun a hF=>?_
              refine x1 (St.ld hS) hF rfl rfl (fun _ _ _ h=>h) (fun w hl=>(e_pickF hF rfl rfl)) fun a hF=>?_
              refine xe<|?_
              refine tn<|?_
              exact ⟨false,hm,hF.has ⟨rfl,rfl,rfl,rfl,rfl,trivial⟩,hS⟩
          clear hm hF hS
          rintro a w ⟨vD1,hm,hF,hS⟩
          unfold Z1n at hm
          replace hm:=bind_some hm
          obtain ⟨_,hb49,hm⟩:=hm
          replace hb49:=bnt (sure_some hb49)
          refine cfv hF rfl hb49<|wk<|?_
          refine tn<|th<|?_
          refine rg<|?_
          refine ls<|q1 hF rfl (e_move hF rfl) fun a hF=>?_
          refine ls<|q1 hF rfl (e_add hF rfl rfl) fun a hF=>?_
          refine ls<|q1 hF rfl (e_asg hF rfl) fun a hF=>?_
          refine re<|?_
          refine tn<|?_
          refine rg<|?_
          refine ls<|q1 hF rfl (e_move hF rfl) fun a hF=>?_
          refine ls<|q1 hF rfl (e_add hF rfl rfl) fun a hF=>?_
          refine ls<|q1 hF rfl (e_asg hF rfl) fun a hF=>?_
          refine re<|?_
          refine bn<|tn<|?_
          exact ⟨(IntKind.i64.wrap (vB3+1)),(IntKind.i64.wrap (vB2+1)),hm,hF.has ⟨rfl,rfl,rfl,rfl,rfl,trivial⟩,hS⟩
      clear hm hF hS
      rintro a w ⟨vC1,vC2,hm,hF,hS⟩
      unfold Z1m at hm
      refine rg<|?_
      refine ls<|q1 hF rfl (e_move hF rfl) fun a hF=>?_
      refine ls<|q1 hF rfl (e_add hF rfl rfl) fun a hF=>?_
      refine ls<|q1 hF rfl (e_asg hF rfl) fun a hF=>?_
      refine re<|?_
      refine tn<|?_
      exact ⟨(nn2,vC1,vC2,(IntKind.i64.wrap (vB3+1))),⟨hm,hF.has ⟨rfl,rfl,rfl,rfl,rfl,trivial⟩,hS⟩,Nat.lt_succ_self _⟩
    ·
      replace hm:=itp_f hm hb23
      refine tn<|cfv hF rfl hb23<|?_
      refine we<|tx<|tx<|bx<|?_
      refine tn<|?_
      exact ⟨vB1,vB2,hm,hF.has ⟨rfl,rfl,rfl,rfl,trivial⟩,hS⟩
  clear hm hF hS
  rintro a w ⟨vA1,vA2,hm,hF,hS⟩
  unfold Z1l at hm
  refine th<|?_
  rcases bdich ((decide (vA2=(rz9.L.length:Int))) && (decide (vA1=(r21.length:Int)))) with hb50 | hb50
  ·
    replace hm:=ite_t hm hb50
    replace hm:=bind_some hm
    obtain ⟨r51,h52,hm⟩:=hm
    refine rg<|?_
    refine ls<|q1 hF rfl (e_move hF rfl) fun a hF=>?_
    refine ls<|q1 hF rfl (e_fa hF fa32_2 rfl) fun a hF=>?_
    refine ls<|q1 hF rfl (e_ld hF Tryd.isAgg30 rfl ((St.ld hS).cellB (.head _) rfl)) fun a hF=>?_
    refine ls<|q1 hF rfl (e_lenL (α:=api_Instr) (xs:=rz9.L) hF Tryd.runUnderlying30 rfl) fun a hF=>?_
    refine ls<|q1 hF rfl (e_eql hF rfl rfl) fun a hF=>?_
    refine ls<|q1 hF rfl (e_move hF rfl) fun a hF=>?_
    refine grp (N:=83) (Fk:=[(79,.bool ((decide (vA2=(rz9.L.length:Int))) && (decide (vA1=(r21.length:Int)))))]) (b:=(decide (vA2=(rz9.L.length:Int)))) 5 hS ?_ ?_ ?_
    ·
      intro hb key
      replace hF:=Fr.as hF (t:=74) rfl (congrArg Value.bool hb)
      refine ls<|gy hF rfl rfl<|q1 hF rfl (e_move hF rfl) fun a hF=>?_
      refine ls<|gy hF rfl rfl<|q1 hF rfl (e_move hF rfl) fun a hF=>?_
      refine ls<|gy hF rfl rfl<|q1 hF rfl (e_lenU (s:=r21) hF Tryd.runUnderlying9 rfl) fun a hF=>?_
      refine ls<|gy hF rfl rfl<|q1 hF rfl (e_eql hF rfl rfl) fun a hF=>?_
      refine ls<|q1 hF rfl (e_as (v':=.bool ((decide (vA2=(rz9.L.length:Int))) && (decide (vA1=(r21.length:Int))))) (e_pickT hF rfl rfl) (by rw [hb];rfl)) fun a hF=>?_
      exact key _ _ (hF.has ⟨rfl,trivial⟩) hS
    ·
      intro hb key
      replace hF:=Fr.as hF (t:=74) rfl (congrArg Value.bool hb)
      refine ls<|gn hF rfl rfl rfl rfl fun a hF=>?_
      refine ls<|gn hF rfl rfl rfl rfl fun a hF=>?_
      refine ls<|gn hF rfl rfl rfl rfl fun a hF=>?_
      refine ls<|gn hF rfl rfl rfl rfl fun a hF=>?_
      refine ls<|q1 hF rfl (e_as (v':=.bool ((decide (vA2=(rz9.L.length:Int))) && (decide (vA1=(r21.length:Int))))) (e_pickF hF rfl rfl) (by rw [hb];rfl)) fun a hF=>?_
      exact key _ _ (hF.has ⟨rfl,trivial⟩) hS
    intro a w hF hS
    refine ls<|q1 hF rfl (e_as (e_move hF rfl) (congrArg Value.bool hb50)) fun a hF=>?_
    refine ls<|gy hF rfl rfl<|c1 hF rfl Tryd.call10 (Z1p_c (hp_le _) (Tab.mono (Tab.mono hT hx11.sub) (St.up hS)) h52) trivial (fun v w a hR hF=>?_)
    obtain ⟨rfl,hk⟩:=hR
    replace hS:=hS.pass hk
    clear hk
    refine ls<|q1 hF rfl (e_pickT hF rfl rfl) fun a hF=>?_
    refine ls<|q1 hF rfl (e_asg hF rfl) fun a hF=>?_
    refine re<|?_
    refine tn<|?_
    refine wr<|?_
    obtain rfl:=Option.some.inj hm
    exact r1 hF Tryd.results5 rfl ⟨rfl,hS.keep⟩
  ·
    replace hm:=ite_f hm hb50
    refine rg<|?_
    refine ls<|q1 hF rfl (e_move hF rfl) fun a hF=>?_
    refine ls<|q1 hF rfl (e_fa hF fa32_2 rfl) fun a hF=>?_
    refine ls<|q1 hF rfl (e_ld hF Tryd.isAgg30 rfl ((St.ld hS).cellB (.head _) rfl)) fun a hF=>?_
    refine ls<|q1 hF rfl (e_lenL (α:=api_Instr) (xs:=rz9.L) hF Tryd.runUnderlying30 rfl) fun a hF=>?_
    refine ls<|q1 hF rfl (e_eql hF rfl rfl) fun a hF=>?_
    refine ls<|q1 hF rfl (e_move hF rfl) fun a hF=>?_
    refine grp (N:=83) (Fk:=[(79,.bool ((decide (vA2=(rz9.L.length:Int))) && (decide (vA1=(r21.length:Int)))))]) (b:=(decide (vA2=(rz9.L.length:Int)))) 5 hS ?_ ?_ ?_
    ·
      intro hb key
      replace hF:=Fr.as hF (t:=74) rfl (congrArg Value.bool hb)
      refine ls<|gy hF rfl rfl<|q1 hF rfl (e_move hF rfl) fun a hF=>?_
      refine ls<|gy hF rfl rfl<|q1 hF rfl (e_move hF rfl) fun a hF=>?_
      refine ls<|gy hF rfl rfl<|q1 hF rfl (e_lenU (s:=r21) hF Tryd.runUnderlying9 rfl) fun a hF=>?_
      refine ls<|gy hF rfl rfl<|q1 hF rfl (e_eql hF rfl rfl) fun a hF=>?_
      refine ls<|q1 hF rfl (e_as (v':=.bool ((decide (vA2=(rz9.L.length:Int))) && (decide (vA1=(r21.length:Int))))) (e_pickT hF rfl rfl) (by rw [hb];rfl)) fun a hF=>?_
      exact key _ _ (hF.has ⟨rfl,trivial⟩) hS
    ·
      intro hb key
      replace hF:=Fr.as hF (t:=74) rfl (congrArg Value.bool hb)
      refine ls<|gn hF rfl rfl rfl rfl fun a hF=>?_
      refine ls<|gn hF rfl rfl rfl rfl fun a hF=>?_
      refine ls<|gn hF rfl rfl rfl rfl fun a hF=>?_
      refine ls<|gn hF rfl rfl rfl rfl fun a hF=>?_
      refine ls<|q1 hF rfl (e_as (v':=.bool ((decide (vA2=(rz9.L.length:Int))) && (decide (vA1=(r21.length:Int))))) (e_pickF hF rfl rfl) (by rw [hb];rfl)) fun a hF=>?_
      exact key _ _ (hF.has ⟨rfl,trivial⟩) hS
    intro a w hF hS
    refine ls<|q1 hF rfl (e_as (e_move hF rfl) (congrArg Value.bool hb50)) fun a hF=>?_
    refine ls<|gn hF rfl rfl rfl rfl fun a hF=>?_
    refine ls<|q1 hF rfl (e_pickF hF rfl rfl) fun a hF=>?_
    refine ls<|q1 hF rfl (e_asg hF rfl) fun a hF=>?_
    refine re<|?_
    refine tn<|?_
    refine wr<|?_
    obtain rfl:=Option.some.inj hm
    exact r1 hF Tryd.results5 rfl ⟨rfl,hS.keep⟩
end Go.LM.BIN
