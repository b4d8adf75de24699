/- Walks, lifted by program. No condition beyond the theorems' own premises. -/
import Derived.Test.YtbblmeecfimnkaaDoorBNQ7
namespace Go.LM.BIN
open Go Go.LL Go.MD Go.LM Go.Proofs Go.MD.BIN
set_option maxRecDepth 100000
set_option maxHeartbeats 4000000 in
set_option maxRecDepth 100000 in
theorem Z1o_c {N:Nat} {w0:World} {H:PH} (hH:H.le w0) (hT:Tab H)  {r:Bool} (hm:Z1o N  = some r):Tot Tryd.prog 10 #[] w0 (fun v w'=>v=.bool r∧Keep Nil w0 w'):=by
  unfold Z1o at hm
  refine fn0 (args:=[]) (F:=[]) Tryd.func10 rfl Tryd.ntmps10 rfl rfl fun a hF=>?_
  have hS:St w0 Nil [H] [] w0:=start1 hH
  refine th<|?_
  refine rg<|?_
  refine ls<|q1 hF rfl (e_asg hF rfl) fun a hF=>?_
  refine re<|?_
  refine tn<|th<|?_
  refine rg<|?_
  refine ls<|q1 hF rfl (e_bldK [.int .i64 1,.int .i64 1] [.int .i64 1,.int .i64 1] hF ⟨rfl,rfl,trivial⟩ (fun w=>by kernel_rfl)) fun a hF=>?_
  refine ls<|q1 hF rfl (e_bldK [.int .i64 1,.int .i64 2] [.int .i64 1,.int .i64 2] hF ⟨rfl,rfl,trivial⟩ (fun w=>by kernel_rfl)) fun a hF=>?_
  refine ls<|q1 hF rfl (e_bldK [.int .i64 5] [.int .i64 5,.int .i64 0] hF ⟨rfl,trivial⟩ (fun w=>by kernel_rfl)) fun a hF=>?_
  refine ls<|a_bsl (e:=46) (sz:=2) [.int .i64 1,.int .i64 1,.int .i64 1,.int .i64 2,.int .i64 5,.int .i64 0] hF rfl hS rfl rfl rfl (fun w=>by kernel_rfl) fun b2 w a hS hF=>?_
  have hv1:Rows (α:=api_Op) H [.int .i64 1,.int .i64 1,.int .i64 1,.int .i64 2,.int .i64 5,.int .i64 0] ([(api_Op.mk 1 1),(api_Op.mk 1 2),(api_Op.mk 5 0)]:List api_Op):=(.cons (c:=[.int .i64 1,.int .i64 1]) ⟨_,_,rfl,rfl,rfl⟩ (.cons (c:=[.int .i64 1,.int .i64 2]) ⟨_,_,rfl,rfl,rfl⟩ (.cons (c:=[.int .i64 5,.int .i64 0]) ⟨_,_,rfl,rfl,rfl⟩ .nil)))
  refine ls<|q1 hF rfl (e_bldK [.int .i64 1,.slice (some ⟨b2,0,none⟩) ([(api_Op.mk 1 1),(api_Op.mk 1 2),(api_Op.mk 5 0)]:List api_Op).length 3] [.int .i64 1,.int .i64 0,.int .i64 0,.slice (some ⟨b2,0,none⟩) ([(api_Op.mk 1 1),(api_Op.mk 1 2),(api_Op.mk 5 0)]:List api_Op).length 3,.slice none 0 0,.int .i64 0] hF ⟨rfl,rfl,trivial⟩ (fun w=>by kernel_rfl)) fun a hF=>?_
  obtain ⟨H7,hx4,hr5,hc6,hS⟩:=St.frzS hS .head hv1
  refine ls<|a_bsl (e:=49) (sz:=6) [.int .i64 1,.int .i64 0,.int .i64 0,.slice (some ⟨b2,0,none⟩) ([(api_Op.mk 1 1),(api_Op.mk 1 2),(api_Op.mk 5 0)]:List api_Op).length 3,.slice none 0 0,.int .i64 0] hF rfl hS rfl rfl rfl (fun w=>by kernel_rfl) fun b9 w a hS hF=>?_
  have hv8:Rows (α:=api_Instr) H7 [.int .i64 1,.int .i64 0,.int .i64 0,.slice (some ⟨b2,0,none⟩) ([(api_Op.mk 1 1),(api_Op.mk 1 2),(api_Op.mk 5 0)]:List api_Op).length 3,.slice none 0 0,.int .i64 0] ([(api_Instr.mk 1 0 0 ([(api_Op.mk 1 1),(api_Op.mk 1 2),(api_Op.mk 5 0)]:List api_Op) [] 0)]:List api_Instr):=(.cons (c:=[.int .i64 1,.int .i64 0,.int .i64 0,.slice (some ⟨b2,0,none⟩) ([(api_Op.mk 1 1),(api_Op.mk 1 2),(api_Op.mk 5 0)]:List api_Op).length 3,.slice none 0 0,.int .i64 0]) ⟨_,_,rfl,rfl,⟨_,_,rfl,rfl,⟨_,_,rfl,rfl,⟨_,_,rfl,⟨_,_,rfl,hc6,hr5⟩,⟨_,_,rfl,⟨none,0,rfl,Nat.le_refl _,SR.nil _ _⟩,rfl⟩⟩⟩⟩⟩ .nil)
  refine ls<|q1 hF rfl (e_bldK [.int .i64 1,.slice (some ⟨b9,0,none⟩) ([(api_Instr.mk 1 0 0 ([(api_Op.mk 1 1),(api_Op.mk 1 2),(api_Op.mk 5 0)]:List api_Op) [] 0)]:List api_Instr).length 1] [.int .i64 1,.int .i64 0,.slice (some ⟨b9,0,none⟩) ([(api_Instr.mk 1 0 0 ([(api_Op.mk 1 1),(api_Op.mk 1 2),(api_Op.mk 5 0)]:List api_Op) [] 0)]:List api_Instr).length 1] hF ⟨rfl,rfl,trivial⟩ (fun w=>by kernel_rfl)) fun a hF=>?_
  obtain ⟨H14,hx11,hr12,hc13,hS⟩:=St.frzS hS .head hv8
  refine ls<|a_bsl (e:=32) (sz:=3) [.int .i64 1,.int .i64 0,.slice (some ⟨b9,0,none⟩) ([(api_Instr.mk 1 0 0 ([(api_Op.mk 1 1),(api_Op.mk 1 2),(api_Op.mk 5 0)]:List api_Op) [] 0)]:List api_Instr).length 1] hF rfl hS rfl rfl rfl (fun w=>by kernel_rfl) fun b16 w a hS hF=>?_
  have hv15:Rows (α:=api_Code) H14 [.int .i64 1,.int .i64 0,.slice (some ⟨b9,0,none⟩) ([(api_Instr.mk 1 0 0 ([(api_Op.mk 1 1),(api_Op.mk 1 2),(api_Op.mk 5 0)]:List api_Op) [] 0)]:List api_Instr).length 1] ([(api_Code.mk 1 0 ([(api_Instr.mk 1 0 0 ([(api_Op.mk 1 1),(api_Op.mk 1 2),(api_Op.mk 5 0)]:List api_Op) [] 0)]:List api_Instr))]:List api_Code):=(.cons (c:=[.int .i64 1,.int .i64 0,.slice (some ⟨b9,0,none⟩) ([(api_Instr.mk 1 0 0 ([(api_Op.mk 1 1),(api_Op.mk 1 2),(api_Op.mk 5 0)]:List api_Op) [] 0)]:List api_Instr).length 1]) ⟨_,_,rfl,rfl,⟨_,_,rfl,rfl,⟨_,_,rfl,hc13,hr12⟩⟩⟩ .nil)
  refine ls<|q1 hF rfl (e_bldK [.slice (some ⟨b16,0,none⟩) ([(api_Code.mk 1 0 ([(api_Instr.mk 1 0 0 ([(api_Op.mk 1 1),(api_Op.mk 1 2),(api_Op.mk 5 0)]:List api_Op) [] 0)]:List api_Instr))]:List api_Code).length 1] [.slice none 0 0,.int .i64 0,.slice none 0 0,.int .i64 0,.slice (some ⟨b16,0,none⟩) ([(api_Code.mk 1 0 ([(api_Instr.mk 1 0 0 ([(api_Op.mk 1 1),(api_Op.mk 1 2),(api_Op.mk 5 0)]:List api_Op) [] 0)]:List api_Instr))]:List api_Code).length 1,.int .i64 0,.int .i64 0,.slice none 0 0,.slice none 0 0] hF ⟨rfl,trivial⟩ (fun w=>by kernel_rfl)) fun a hF=>?_
  refine ls<|a_alloc (cs:=[.slice none 0 0,.int .i64 0,.slice none 0 0,.int .i64 0,.slice none 0 0,.int .i64 0,.int .i64 0,.slice none 0 0,.slice none 0 0].toArray) hF rfl hS Tryd.zeroValue53 rfl fun b18 w a hS hF=>?_
  refine ls<|s_blkA hF hS Tryd.sizeOf53 rfl rfl rfl rfl (one_cells rfl) .head fun w hS=>?_
  refine re<|?_
  refine tn<|th<|?_
  replace hm:=bind_some hm
  obtain ⟨r23,h24,hm⟩:=hm
  refine rg<|?_
  refine ls<|q1 hF rfl (e_ldA hF Tryd.isAgg53 Tryd.sizeOf53 rfl rfl ((St.ld hS).cellsB (.head _))) fun a hF=>?_
  obtain ⟨H22,hx19,hr20,hc21,hS⟩:=St.frzS hS (.tail .head) hv15
  refine ls<|c1 hF rfl Tryd.call15 (Z2_c (hp_le _) (Enc.mono (St.up hS) (show Enc.rep (α:=api_Unit) H22 [.slice none 0 0,.int .i64 0,.slice none 0 0,.int .i64 0,.slice (some ⟨b16,0,none⟩) ([(api_Code.mk 1 0 ([(api_Instr.mk 1 0 0 ([(api_Op.mk 1 1),(api_Op.mk 1 2),(api_Op.mk 5 0)]:List api_Op) [] 0)]:List api_Instr))]:List api_Code).length 1,.int .i64 0,.int .i64 0,.slice none 0 0,.slice none 0 0] (api_Unit.mk [] 0 [] 0 ([(api_Code.mk 1 0 ([(api_Instr.mk 1 0 0 ([(api_Op.mk 1 1),(api_Op.mk 1 2),(api_Op.mk 5 0)]:List api_Op) [] 0)]:List api_Instr))]:List api_Code) (api_Code.mk 0 0 []) []) from ⟨_,_,rfl,⟨none,0,rfl,Nat.le_refl _,SR.nil _ _⟩,⟨_,_,rfl,rfl,⟨_,_,rfl,⟨none,0,rfl,Nat.le_refl _,SR.nil _ _⟩,⟨_,_,rfl,rfl,⟨_,_,rfl,⟨_,_,rfl,hc21,hr20⟩,⟨_,_,rfl,⟨_,_,rfl,rfl,⟨_,_,rfl,rfl,⟨none,0,rfl,Nat.le_refl _,SR.nil _ _⟩⟩⟩,⟨none,0,rfl,Nat.le_refl _,SR.nil _ _⟩⟩⟩⟩⟩⟩⟩)) h24) ⟨rfl,trivial⟩ (fun v w a hR hF=>?_)
  obtain ⟨rfl,hk⟩:=hR
  replace hS:=hS.pass hk
  clear hk
  refine ls<|q1 hF rfl (e_move hF rfl) fun a hF=>?_
  refine ls<|q1 hF rfl (e_ext hF rfl rfl) fun a hF=>?_
  refine ls<|q1 hF rfl (e_ext hF rfl rfl) fun a hF=>?_
  refine ls<|q1 hF rfl (e_asg hF rfl) fun a hF=>?_
  refine ls<|q1 hF rfl (e_asg hF rfl) fun a hF=>?_
  refine re<|?_
  refine tn<|th<|?_
  replace hm:=bind_some hm
  obtain ⟨r25,h26,hm⟩:=hm
  refine rg<|?_
  refine ls<|q1 hF rfl (e_move hF rfl) fun a hF=>?_
  refine ls<|c1 hF rfl Tryd.call16 (Z0_c (St.le hS) h26) ⟨rfl,trivial⟩ (fun v w a hR hF=>?_)
  obtain ⟨H30,cs31,rfl,g32,hx27,hl28,hk⟩:=hR
  obtain ⟨hS,hx27⟩:=And.intro (St.passH hS hk hx27 hl28) (St.extc hS hx27)
  clear hk
  have g33:Enc.rep (α:=(List Int)×Int×(List Int)×Int×(List api_Code)×api_Code×(List (List api_Op))) H30 cs31 (r25.1.Lines,r25.1.Stays,r25.1.Firsts,r25.1.Locks,r25.1.Threads,r25.1.Recover,r25.1.Claims):=g32
  obtain ⟨q34,q35,rfl,g36,g37⟩:=g33
  obtain ⟨oa38,cap39,rfl,hc40,hr41⟩:=g36
  obtain ⟨q42,q43,rfl,g44,g45⟩:=g37
  obtain rfl:q42=[.int .i64 r25.1.Stays]:=g44
  obtain ⟨q46,q47,rfl,g48,g49⟩:=g45
  obtain ⟨oa50,cap51,rfl,hc52,hr53⟩:=g48
  obtain ⟨q54,q55,rfl,g56,g57⟩:=g49
  obtain rfl:q54=[.int .i64 r25.1.Locks]:=g56
  obtain ⟨q58,q59,rfl,g60,g61⟩:=g57
  obtain ⟨oa62,cap63,rfl,hc64,hr65⟩:=g60
  obtain ⟨q66,q67,rfl,g68,g69⟩:=g61
  obtain ⟨oa70,cap71,rfl,hc72,hr73⟩:=api_Code_open g68
  obtain ⟨oa74,cap75,rfl,hc76,hr77⟩:=g69
  refine ls<|q1 hF rfl (e_move hF rfl) fun a hF=>?_
  refine ls<|q1 hF rfl (e_ext hF rfl rfl) fun a hF=>?_
  refine ls<|q1 hF rfl (e_ext hF rfl rfl) fun a hF=>?_
  refine ls<|a_alloc (cs:=[.slice none 0 0,.int .i64 0,.slice none 0 0,.int .i64 0,.slice none 0 0,.int .i64 0,.int .i64 0,.slice none 0 0,.slice none 0 0].toArray) hF rfl hS Tryd.zeroValue53 rfl fun b78 w a hS hF=>?_
  refine ls<|s_blkA hF hS Tryd.sizeOf53 rfl rfl rfl rfl (one_cells rfl) .head fun w hS=>?_
  refine ls<|q1 hF rfl (e_asg hF rfl) fun a hF=>?_
  refine re<|?_
  refine tn<|th<|?_
  replace hm:=bind_some hm
  obtain ⟨s79,h80,hm⟩:=hm
  replace hm:=bind_some hm
  obtain ⟨r81,h82,hm⟩:=hm
  refine rg<|?_
  refine ls<|q1 hF rfl (e_move hF rfl) fun a hF=>?_
  refine ls<|q1 hF rfl (e_catU hF rfl rfl h80) fun a hF=>?_
  refine ls<|c1 hF rfl Tryd.call16 (Z0_c (St.le hS) h82) ⟨rfl,trivial⟩ (fun v w a hR hF=>?_)
  obtain ⟨H86,cs87,rfl,g88,hx83,hl84,hk⟩:=hR
  obtain ⟨hS,hx83⟩:=And.intro (St.passH hS hk hx83 hl84) (St.extc hS hx83)
  clear hk
  have g89:Enc.rep (α:=(List Int)×Int×(List Int)×Int×(List api_Code)×api_Code×(List (List api_Op))) H86 cs87 (r81.1.Lines,r81.1.Stays,r81.1.Firsts,r81.1.Locks,r81.1.Threads,r81.1.Recover,r81.1.Claims):=g88
  obtain ⟨q90,q91,rfl,g92,g93⟩:=g89
  obtain ⟨oa94,cap95,rfl,hc96,hr97⟩:=g92
  obtain ⟨q98,q99,rfl,g100,g101⟩:=g93
  obtain rfl:q98=[.int .i64 r81.1.Stays]:=g100
  obtain ⟨q102,q103,rfl,g104,g105⟩:=g101
  obtain ⟨oa106,cap107,rfl,hc108,hr109⟩:=g104
  obtain ⟨q110,q111,rfl,g112,g113⟩:=g105
  obtain rfl:q110=[.int .i64 r81.1.Locks]:=g112
  obtain ⟨q114,q115,rfl,g116,g117⟩:=g113
  obtain ⟨oa118,cap119,rfl,hc120,hr121⟩:=g116
  obtain ⟨q122,q123,rfl,g124,g125⟩:=g117
  obtain ⟨oa126,cap127,rfl,hc128,hr129⟩:=api_Code_open g124
  obtain ⟨oa130,cap131,rfl,hc132,hr133⟩:=g125
  refine ls<|q1 hF rfl (e_move hF rfl) fun a hF=>?_
  refine ls<|q1 hF rfl (e_ext hF rfl rfl) fun a hF=>?_
  refine ls<|q1 hF rfl (e_ext hF rfl rfl) fun a hF=>?_
  refine ls<|a_alloc (cs:=[.slice none 0 0,.int .i64 0,.slice none 0 0,.int .i64 0,.slice none 0 0,.int .i64 0,.int .i64 0,.slice none 0 0,.slice none 0 0].toArray) hF rfl hS Tryd.zeroValue53 rfl fun b134 w a hS hF=>?_
  refine ls<|s_blkA hF hS Tryd.sizeOf53 rfl rfl rfl rfl (one_cells rfl) .head fun w hS=>?_
  refine ls<|q1 hF rfl (e_asg hF rfl) fun a hF=>?_
  refine re<|?_
  refine tn<|th<|?_
  replace hm:=bind_some hm
  obtain ⟨r135,h136,hm⟩:=hm
  refine rg<|?_
  refine ls<|q1 hF rfl (e_bldK [] [.slice none 0 0,.int .i64 0,.slice none 0 0,.int .i64 0,.slice none 0 0,.int .i64 0,.int .i64 0,.slice none 0 0,.slice none 0 0] hF trivial (fun w=>by kernel_rfl)) fun a hF=>?_
  refine ls<|c1 hF rfl Tryd.call15 (Z2_c (hp_le _) (Enc.mono (St.up hS) (show Enc.rep (α:=api_Unit) H86 [.slice none 0 0,.int .i64 0,.slice none 0 0,.int .i64 0,.slice none 0 0,.int .i64 0,.int .i64 0,.slice none 0 0,.slice none 0 0] (api_Unit.mk [] 0 [] 0 [] (api_Code.mk 0 0 []) []) from ⟨_,_,rfl,⟨none,0,rfl,Nat.le_refl _,SR.nil _ _⟩,⟨_,_,rfl,rfl,⟨_,_,rfl,⟨none,0,rfl,Nat.le_refl _,SR.nil _ _⟩,⟨_,_,rfl,rfl,⟨_,_,rfl,⟨none,0,rfl,Nat.le_refl _,SR.nil _ _⟩,⟨_,_,rfl,⟨_,_,rfl,rfl,⟨_,_,rfl,rfl,⟨none,0,rfl,Nat.le_refl _,SR.nil _ _⟩⟩⟩,⟨none,0,rfl,Nat.le_refl _,SR.nil _ _⟩⟩⟩⟩⟩⟩⟩)) h136) ⟨rfl,trivial⟩ (fun v w a hR hF=>?_)
  obtain ⟨rfl,hk⟩:=hR
  replace hS:=hS.pass hk
  clear hk
  refine ls<|q1 hF rfl (e_move hF rfl) fun a hF=>?_
  refine ls<|q1 hF rfl (e_ext hF rfl rfl) fun a hF=>?_
  refine ls<|q1 hF rfl (e_ext hF rfl rfl) fun a hF=>?_
  refine ls<|q1 hF rfl (e_asg hF rfl) fun a hF=>?_
  refine ls<|q1 hF rfl (e_asg hF rfl) fun a hF=>?_
  refine re<|?_
  refine tn<|th<|?_
  replace hm:=bind_some hm
  obtain ⟨r137,h138,hm⟩:=hm
  refine rg<|?_
  refine ls<|c1 hF rfl Tryd.call6 (Z7_c (hp_le _) h138) ⟨rfl,rfl,trivial⟩ (fun v w a hR hF=>?_)
  obtain ⟨rfl,hk⟩:=hR
  replace hS:=hS.pass hk
  clear hk
  refine ls<|q1 hF rfl (e_move hF rfl) fun a hF=>?_
  refine ls<|q1 hF rfl (e_ext hF rfl rfl) fun a hF=>?_
  refine ls<|q1 hF rfl (e_ext hF rfl rfl) fun a hF=>?_
  refine ls<|q1 hF rfl (e_ext hF rfl rfl) fun a hF=>?_
  refine ls<|q1 hF rfl (e_asg hF rfl) fun a hF=>?_
  refine ls<|q1 hF rfl (e_asg hF rfl) fun a hF=>?_
  refine ls<|q1 hF rfl (e_asg hF rfl) fun a hF=>?_
  refine re<|?_
  refine tn<|th<|?_
  replace hm:=bind_some hm
  obtain ⟨r139,h140,hm⟩:=hm
  refine rg<|?_
  refine ls<|c1 hF rfl Tryd.call6 (Z7_c (hp_le _) h140) ⟨rfl,rfl,trivial⟩ (fun v w a hR hF=>?_)
  obtain ⟨rfl,hk⟩:=hR
  replace hS:=hS.pass hk
  clear hk
  refine ls<|q1 hF rfl (e_move hF rfl) fun a hF=>?_
  refine ls<|q1 hF rfl (e_ext hF rfl rfl) fun a hF=>?_
  refine ls<|q1 hF rfl (e_ext hF rfl rfl) fun a hF=>?_
  refine ls<|q1 hF rfl (e_ext hF rfl rfl) fun a hF=>?_
  refine ls<|q1 hF rfl (e_asg hF rfl) fun a hF=>?_
  refine ls<|q1 hF rfl (e_asg hF rfl) fun a hF=>?_
  refine ls<|q1 hF rfl (e_asg hF rfl) fun a hF=>?_
  refine re<|?_
  refine tn<|th<|?_
  replace hm:=bind_some hm
  obtain ⟨r141,h142,hm⟩:=hm
  refine rg<|?_
  refine ls<|c1 hF rfl Tryd.call6 (Z7_c (hp_le _) h142) ⟨rfl,rfl,trivial⟩ (fun v w a hR hF=>?_)
  obtain ⟨rfl,hk⟩:=hR
  replace hS:=hS.pass hk
  clear hk
  refine ls<|q1 hF rfl (e_move hF rfl) fun a hF=>?_
  refine ls<|q1 hF rfl (e_ext hF rfl rfl) fun a hF=>?_
  refine ls<|q1 hF rfl (e_ext hF rfl rfl) fun a hF=>?_
  refine ls<|q1 hF rfl (e_ext hF rfl rfl) fun a hF=>?_
  refine ls<|q1 hF rfl (e_asg hF rfl) fun a hF=>?_
  refine ls<|q1 hF rfl (e_asg hF rfl) fun a hF=>?_
  refine ls<|q1 hF rfl (e_asg hF rfl) fun a hF=>?_
  refine re<|?_
  refine tn<|th<|?_
  replace hm:=bind_some hm
  obtain ⟨r143,h144,hm⟩:=hm
  refine rg<|?_
  refine ls<|c1 hF rfl Tryd.call6 (Z7_c (hp_le _) h144) ⟨rfl,rfl,trivial⟩ (fun v w a hR hF=>?_)
  obtain ⟨rfl,hk⟩:=hR
  replace hS:=hS.pass hk
  clear hk
  refine ls<|q1 hF rfl (e_move hF rfl) fun a hF=>?_
  refine ls<|q1 hF rfl (e_ext hF rfl rfl) fun a hF=>?_
  refine ls<|q1 hF rfl (e_ext hF rfl rfl) fun a hF=>?_
  refine ls<|q1 hF rfl (e_ext hF rfl rfl) fun a hF=>?_
  refine ls<|q1 hF rfl (e_asg hF rfl) fun a hF=>?_
  refine ls<|q1 hF rfl (e_asg hF rfl) fun a hF=>?_
  refine ls<|q1 hF rfl (e_asg hF rfl) fun a hF=>?_
  refine re<|?_
  refine tn<|th<|?_
  replace hm:=bind_some hm
  obtain ⟨r145,h146,hm⟩:=hm
  refine rg<|?_
  refine ls<|c1 hF rfl Tryd.call6 (Z7_c (hp_le _) h146) ⟨rfl,rfl,trivial⟩ (fun v w a hR hF=>?_)
  obtain ⟨rfl,hk⟩:=hR
  replace hS:=hS.pass hk
  clear hk
  refine ls<|q1 hF rfl (e_move hF rfl) fun a hF=>?_
  refine ls<|q1 hF rfl (e_ext hF rfl rfl) fun a hF=>?_
  refine ls<|q1 hF rfl (e_ext hF rfl rfl) fun a hF=>?_
  refine ls<|q1 hF rfl (e_ext hF rfl rfl) fun a hF=>?_
  refine ls<|q1 hF rfl (e_asg hF rfl) fun a hF=>?_
  refine ls<|q1 hF rfl (e_asg hF rfl) fun a hF=>?_
  refine ls<|q1 hF rfl (e_asg hF rfl) fun a hF=>?_
  refine re<|?_
  refine tn<|th<|?_
  replace hm:=bind_some hm
  obtain ⟨r147,h148,hm⟩:=hm
  refine rg<|?_
  refine ls<|q1 hF rfl (e_ldA hF Tryd.isAgg53 Tryd.sizeOf53 rfl rfl ((St.ld hS).cellsB (.tail _ (.tail _ (.head _))))) fun a hF=>?_
  refine ls<|c1 hF rfl Tryd.call17 (Z3b_c (hp_le _) (Enc.mono (St.up hS) (show Enc.rep (α:=api_Unit) H86 [.slice none 0 0,.int .i64 0,.slice none 0 0,.int .i64 0,.slice (some ⟨b16,0,none⟩) ([(api_Code.mk 1 0 ([(api_Instr.mk 1 0 0 ([(api_Op.mk 1 1),(api_Op.mk 1 2),(api_Op.mk 5 0)]:List api_Op) [] 0)]:List api_Instr))]:List api_Code).length 1,.int .i64 0,.int .i64 0,.slice none 0 0,.slice none 0 0] (api_Unit.mk [] 0 [] 0 ([(api_Code.mk 1 0 ([(api_Instr.mk 1 0 0 ([(api_Op.mk 1 1),(api_Op.mk 1 2),(api_Op.mk 5 0)]:List api_Op) [] 0)]:List api_Instr))]:List api_Code) (api_Code.mk 0 0 []) []) from ⟨_,_,rfl,⟨none,0,rfl,Nat.le_refl _,SR.nil _ _⟩,⟨_,_,rfl,rfl,⟨_,_,rfl,⟨none,0,rfl,Nat.le_refl _,SR.nil _ _⟩,⟨_,_,rfl,rfl,⟨_,_,rfl,⟨_,_,rfl,hc21,(hr20.mono (fun b o h=>hx83.sub b o (hx27.sub b o h)))⟩,⟨_,_,rfl,⟨_,_,rfl,rfl,⟨_,_,rfl,rfl,⟨none,0,rfl,Nat.le_refl _,SR.nil _ _⟩⟩⟩,⟨none,0,rfl,Nat.le_refl _,SR.nil _ _⟩⟩⟩⟩⟩⟩⟩)) h148) ⟨rfl,trivial⟩ (fun v w a hR hF=>?_)
  obtain ⟨rfl,hk⟩:=hR
  replace hS:=hS.pass hk
  clear hk
  refine ls<|q1 hF rfl (e_move hF rfl) fun a hF=>?_
  refine ls<|q1 hF rfl (e_ext hF rfl rfl) fun a hF=>?_
  refine ls<|q1 hF rfl (e_ext hF rfl rfl) fun a hF=>?_
  refine ls<|q1 hF rfl (e_asg hF rfl) fun a hF=>?_
  refine ls<|q1 hF rfl (e_asg hF rfl) fun a hF=>?_
  refine re<|?_
  refine tn<|th<|?_
  replace hm:=bind_some hm
  obtain ⟨_,hb149,hm⟩:=hm
  replace hb149:=sure_some hb149
  replace hm:=bind_some hm
  obtain ⟨r150,h151,hm⟩:=hm
  replace hm:=bind_some hm
  obtain ⟨_,hb152,hm⟩:=hm
  replace hb152:=sure_some hb152
  replace hm:=bind_some hm
  obtain ⟨r153,h154,hm⟩:=hm
  replace hm:=bind_some hm
  obtain ⟨_,hb155,hm⟩:=hm
  replace hb155:=sure_some hb155
  replace hm:=bind_some hm
  obtain ⟨r156,h157,hm⟩:=hm
  replace hm:=bind_some hm
  obtain ⟨_,hb158,hm⟩:=hm
  replace hb158:=sure_some hb158
  replace hm:=bind_some hm
  obtain ⟨r159,h160,hm⟩:=hm
  replace hm:=bind_some hm
  obtain ⟨_,hb161,hm⟩:=hm
  replace hb161:=sure_some hb161
  replace hm:=bind_some hm
  obtain ⟨x162,h163,hm⟩:=hm
  obtain ⟨c164,g165,hl166⟩:=SR.get hr20 h163
  obtain ⟨oa167,cap168,rfl,hc169,hr170⟩:=api_Code_open g165
  replace hm:=bind_some hm
  obtain ⟨r171,h172,hm⟩:=hm
  refine rg<|?_
  refine ls<|q1 hF rfl (e_move hF rfl) fun a hF=>?_
  refine ls<|q1 hF rfl (e_eql hF rfl rfl) fun a hF=>?_
  refine ls<|q1 hF rfl (e_move hF rfl) fun a hF=>?_
  refine grp (N:=163) (Fk:=[(1,.pointer (some ⟨b18,0,none⟩)),(4,.pointer (some ⟨b78,0,none⟩)),(5,.int .i64 r25.2),(7,.int .i64 r81.2),(9,.int .i64 r135.2),(10,.int .i64 r137.1),(11,.int .i64 r137.2.1),(12,.int .i64 r137.2.2),(15,.int .i64 r139.2.2),(18,.int .i64 r141.2.2),(21,.int .i64 r143.2.2),(24,.int .i64 r145.2.2),(26,.int .i64 r147.2),(93,.bool ((decide (r23.2=0)) && (decide (r23.1=r147.1))))]) (b:=(decide (r23.2=0))) 4 hS ?_ ?_ ?_
  ·
    intro hb key
    replace hF:=Fr.as hF (t:=89) rfl (congrArg Value.bool hb)
    refine ls<|gy hF rfl rfl<|q1 hF rfl (e_move hF rfl) fun a hF=>?_
    refine ls<|gy hF rfl rfl<|q1 hF rfl (e_move hF rfl) fun a hF=>?_
    refine ls<|gy hF rfl rfl<|q1 hF rfl (e_eqlU (m:=r23.1) (n:=r147.1) hF rfl rfl) fun a hF=>?_
    refine ls<|q1 hF rfl (e_as (v':=.bool ((decide (r23.2=0)) && (decide (r23.1=r147.1)))) (e_pickT hF rfl rfl) (by rw [hb];rfl)) fun a hF=>?_
    exact key _ _ (hF.has ⟨rfl,rfl,rfl,rfl,rfl,rfl,rfl,rfl,rfl,rfl,rfl,rfl,rfl,rfl,trivial⟩) hS
  ·
    intro hb key
    replace hF:=Fr.as hF (t:=89) rfl (congrArg Value.bool hb)
    refine ls<|gn hF rfl rfl rfl rfl fun a hF=>?_
    refine ls<|gn hF rfl rfl rfl rfl fun a hF=>?_
    refine ls<|gn hF rfl rfl rfl rfl fun a hF=>?_
    refine ls<|q1 hF rfl (e_as (v':=.bool ((decide (r23.2=0)) && (decide (r23.1=r147.1)))) (e_pickF hF rfl rfl) (by rw [hb];rfl)) fun a hF=>?_
    exact key _ _ (hF.has ⟨rfl,rfl,rfl,rfl,rfl,rfl,rfl,rfl,rfl,rfl,rfl,rfl,rfl,rfl,trivial⟩) hS
  intro a w hF hS
  refine ls<|q1 hF rfl (e_move hF rfl) fun a hF=>?_
  refine grp (N:=163) (Fk:=[(1,.pointer (some ⟨b18,0,none⟩)),(4,.pointer (some ⟨b78,0,none⟩)),(5,.int .i64 r25.2),(7,.int .i64 r81.2),(9,.int .i64 r135.2),(10,.int .i64 r137.1),(11,.int .i64 r137.2.1),(12,.int .i64 r137.2.2),(15,.int .i64 r139.2.2),(18,.int .i64 r141.2.2),(21,.int .i64 r143.2.2),(24,.int .i64 r145.2.2),(97,.bool (((decide (r23.2=0)) && (decide (r23.1=r147.1))) && (decide (r147.2=0))))]) (b:=((decide (r23.2=0)) && (decide (r23.1=r147.1)))) 3 hS ?_ ?_ ?_
  ·
    intro hb key
    replace hF:=Fr.as hF (t:=94) rfl (congrArg Value.bool hb)
    refine ls<|gy hF rfl rfl<|q1 hF rfl (e_move hF rfl) fun a hF=>?_
    refine ls<|gy hF rfl rfl<|q1 hF rfl (e_eql hF rfl rfl) fun a hF=>?_
    refine ls<|q1 hF rfl (e_as (v':=.bool (((decide (r23.2=0)) && (decide (r23.1=r147.1))) && (decide (r147.2=0)))) (e_pickT hF rfl rfl) (by rw [hb];rfl)) fun a hF=>?_
    exact key _ _ (hF.has ⟨rfl,rfl,rfl,rfl,rfl,rfl,rfl,rfl,rfl,rfl,rfl,rfl,rfl,trivial⟩) hS
  ·
    intro hb key
    replace hF:=Fr.as hF (t:=94) rfl (congrArg Value.bool hb)
    refine ls<|gn hF rfl rfl rfl rfl fun a hF=>?_
    refine ls<|gn hF rfl rfl rfl rfl fun a hF=>?_
    refine ls<|q1 hF rfl (e_as (v':=.bool (((decide (r23.2=0)) && (decide (r23.1=r147.1))) && (decide (r147.2=0)))) (e_pickF hF rfl rfl) (by rw [hb];rfl)) fun a hF=>?_
    exact key _ _ (hF.has ⟨rfl,rfl,rfl,rfl,rfl,rfl,rfl,rfl,rfl,rfl,rfl,rfl,rfl,trivial⟩) hS
  intro a w hF hS
  refine ls<|q1 hF rfl (e_move hF rfl) fun a hF=>?_
  refine grp (N:=163) (Fk:=[(1,.pointer (some ⟨b18,0,none⟩)),(4,.pointer (some ⟨b78,0,none⟩)),(7,.int .i64 r81.2),(9,.int .i64 r135.2),(10,.int .i64 r137.1),(11,.int .i64 r137.2.1),(12,.int .i64 r137.2.2),(15,.int .i64 r139.2.2),(18,.int .i64 r141.2.2),(21,.int .i64 r143.2.2),(24,.int .i64 r145.2.2),(101,.bool ((((decide (r23.2=0)) && (decide (r23.1=r147.1))) && (decide (r147.2=0))) && (decide (r25.2=0))))]) (b:=(((decide (r23.2=0)) && (decide (r23.1=r147.1))) && (decide (r147.2=0)))) 3 hS ?_ ?_ ?_
  ·
    intro hb key
    replace hF:=Fr.as hF (t:=98) rfl (congrArg Value.bool hb)
    refine ls<|gy hF rfl rfl<|q1 hF rfl (e_move hF rfl) fun a hF=>?_
    refine ls<|gy hF rfl rfl<|q1 hF rfl (e_eql hF rfl rfl) fun a hF=>?_
    refine ls<|q1 hF rfl (e_as (v':=.bool ((((decide (r23.2=0)) && (decide (r23.1=r147.1))) && (decide (r147.2=0))) && (decide (r25.2=0)))) (e_pickT hF rfl rfl) (by rw [hb];rfl)) fun a hF=>?_
    exact key _ _ (hF.has ⟨rfl,rfl,rfl,rfl,rfl,rfl,rfl,rfl,rfl,rfl,rfl,rfl,trivial⟩) hS
  ·
    intro hb key
    replace hF:=Fr.as hF (t:=98) rfl (congrArg Value.bool hb)
    refine ls<|gn hF rfl rfl rfl rfl fun a hF=>?_
    refine ls<|gn hF rfl rfl rfl rfl fun a hF=>?_
    refine ls<|q1 hF rfl (e_as (v':=.bool ((((decide (r23.2=0)) && (decide (r23.1=r147.1))) && (decide (r147.2=0))) && (decide (r25.2=0)))) (e_pickF hF rfl rfl) (by rw [hb];rfl)) fun a hF=>?_
    exact key _ _ (hF.has ⟨rfl,rfl,rfl,rfl,rfl,rfl,rfl,rfl,rfl,rfl,rfl,rfl,trivial⟩) hS
  intro a w hF hS
  refine ls<|q1 hF rfl (e_as (e_move hF rfl) (congrArg Value.bool hb149)) fun a hF=>?_
  refine ls<|gy hF rfl rfl<|q1 hF rfl (e_ldA hF Tryd.isAgg53 Tryd.sizeOf53 rfl rfl ((St.ld hS).cellsB (.tail _ (.tail _ (.head _))))) fun a hF=>?_
  refine ls<|gy hF rfl rfl<|q1 hF rfl (e_ldA hF Tryd.isAgg53 Tryd.sizeOf53 rfl rfl ((St.ld hS).cellsB (.tail _ (.head _)))) fun a hF=>?_
  refine ls<|gy hF rfl rfl<|c1 hF rfl Tryd.call18 (Z2m_c (hp_le _) (Enc.mono (St.up hS) (show Enc.rep (α:=api_Unit) H86 [.slice none 0 0,.int .i64 0,.slice none 0 0,.int .i64 0,.slice (some ⟨b16,0,none⟩) ([(api_Code.mk 1 0 ([(api_Instr.mk 1 0 0 ([(api_Op.mk 1 1),(api_Op.mk 1 2),(api_Op.mk 5 0)]:List api_Op) [] 0)]:List api_Instr))]:List api_Code).length 1,.int .i64 0,.int .i64 0,.slice none 0 0,.slice none 0 0] (api_Unit.mk [] 0 [] 0 ([(api_Code.mk 1 0 ([(api_Instr.mk 1 0 0 ([(api_Op.mk 1 1),(api_Op.mk 1 2),(api_Op.mk 5 0)]:List api_Op) [] 0)]:List api_Instr))]:List api_Code) (api_Code.mk 0 0 []) []) from ⟨_,_,rfl,⟨none,0,rfl,Nat.le_refl _,SR.nil _ _⟩,⟨_,_,rfl,rfl,⟨_,_,rfl,⟨none,0,rfl,Nat.le_refl _,SR.nil _ _⟩,⟨_,_,rfl,rfl,⟨_,_,rfl,⟨_,_,rfl,hc21,(hr20.mono (fun b o h=>hx83.sub b o (hx27.sub b o h)))⟩,⟨_,_,rfl,⟨_,_,rfl,rfl,⟨_,_,rfl,rfl,⟨none,0,rfl,Nat.le_refl _,SR.nil _ _⟩⟩⟩,⟨none,0,rfl,Nat.le_refl _,SR.nil _ _⟩⟩⟩⟩⟩⟩⟩)) (Enc.mono (St.up hS) (show Enc.rep (α:=api_Unit) H86 [.slice oa38 r25.1.Lines.length cap39,.int .i64 r25.1.Stays,.slice oa50 r25.1.Firsts.length cap51,.int .i64 r25.1.Locks,.slice oa62 r25.1.Threads.length cap63,.int .i64 r25.1.Recover.Regs,.int .i64 r25.1.Recover.Counts,.slice oa70 r25.1.Recover.L.length cap71,.slice oa74 r25.1.Claims.length cap75] r25.1 from ⟨_,_,rfl,⟨_,_,rfl,hc40,(hr41.mono hx83.sub)⟩,⟨_,_,rfl,rfl,⟨_,_,rfl,⟨_,_,rfl,hc52,(hr53.mono hx83.sub)⟩,⟨_,_,rfl,rfl,⟨_,_,rfl,⟨_,_,rfl,hc64,(hr65.mono hx83.sub)⟩,⟨_,_,rfl,⟨_,_,rfl,rfl,⟨_,_,rfl,rfl,⟨_,_,rfl,hc72,(hr73.mono hx83.sub)⟩⟩⟩,⟨_,_,rfl,hc76,(hr77.mono hx83.sub)⟩⟩⟩⟩⟩⟩⟩)) h151) ⟨rfl,rfl,trivial⟩ (fun v w a hR hF=>?_)
  obtain ⟨rfl,hk⟩:=hR
  replace hS:=hS.pass hk
  clear hk
  refine ls<|q1 hF rfl (e_pickT hF rfl rfl) fun a hF=>?_
  refine ls<|q1 hF rfl (e_move hF rfl) fun a hF=>?_
  refine grp (N:=163) (Fk:=[(1,.pointer (some ⟨b18,0,none⟩)),(9,.int .i64 r135.2),(10,.int .i64 r137.1),(11,.int .i64 r137.2.1),(12,.int .i64 r137.2.2),(15,.int .i64 r139.2.2),(18,.int .i64 r141.2.2),(21,.int .i64 r143.2.2),(24,.int .i64 r145.2.2),(110,.bool (r150 && (decide (r81.2=8))))]) (b:=r150) 3 hS ?_ ?_ ?_
  ·
    intro hb key
    replace hF:=Fr.as hF (t:=107) rfl (congrArg Value.bool hb)
    refine ls<|gy hF rfl rfl<|q1 hF rfl (e_move hF rfl) fun a hF=>?_
    refine ls<|gy hF rfl rfl<|q1 hF rfl (e_eql hF rfl rfl) fun a hF=>?_
    refine ls<|q1 hF rfl (e_as (v':=.bool (r150 && (decide (r81.2=8)))) (e_pickT hF rfl rfl) (by rw [hb];rfl)) fun a hF=>?_
    exact key _ _ (hF.has ⟨rfl,rfl,rfl,rfl,rfl,rfl,rfl,rfl,rfl,rfl,trivial⟩) hS
  ·
    intro hb key
    replace hF:=Fr.as hF (t:=107) rfl (congrArg Value.bool hb)
    refine ls<|gn hF rfl rfl rfl rfl fun a hF=>?_
    refine ls<|gn hF rfl rfl rfl rfl fun a hF=>?_
    refine ls<|q1 hF rfl (e_as (v':=.bool (r150 && (decide (r81.2=8)))) (e_pickF hF rfl rfl) (by rw [hb];rfl)) fun a hF=>?_
    exact key _ _ (hF.has ⟨rfl,rfl,rfl,rfl,rfl,rfl,rfl,rfl,rfl,rfl,trivial⟩) hS
  intro a w hF hS
  refine ls<|q1 hF rfl (e_move hF rfl) fun a hF=>?_
  refine grp (N:=163) (Fk:=[(1,.pointer (some ⟨b18,0,none⟩)),(10,.int .i64 r137.1),(11,.int .i64 r137.2.1),(12,.int .i64 r137.2.2),(15,.int .i64 r139.2.2),(18,.int .i64 r141.2.2),(21,.int .i64 r143.2.2),(24,.int .i64 r145.2.2),(114,.bool ((r150 && (decide (r81.2=8))) && (decide (r135.2=8))))]) (b:=(r150 && (decide (r81.2=8)))) 3 hS ?_ ?_ ?_
  ·
    intro hb key
    replace hF:=Fr.as hF (t:=111) rfl (congrArg Value.bool hb)
    refine ls<|gy hF rfl rfl<|q1 hF rfl (e_move hF rfl) fun a hF=>?_
    refine ls<|gy hF rfl rfl<|q1 hF rfl (e_eql hF rfl rfl) fun a hF=>?_
    refine ls<|q1 hF rfl (e_as (v':=.bool ((r150 && (decide (r81.2=8))) && (decide (r135.2=8)))) (e_pickT hF rfl rfl) (by rw [hb];rfl)) fun a hF=>?_
    exact key _ _ (hF.has ⟨rfl,rfl,rfl,rfl,rfl,rfl,rfl,rfl,rfl,trivial⟩) hS
  ·
    intro hb key
    replace hF:=Fr.as hF (t:=111) rfl (congrArg Value.bool hb)
    refine ls<|gn hF rfl rfl rfl rfl fun a hF=>?_
    refine ls<|gn hF rfl rfl rfl rfl fun a hF=>?_
    refine ls<|q1 hF rfl (e_as (v':=.bool ((r150 && (decide (r81.2=8))) && (decide (r135.2=8)))) (e_pickF hF rfl rfl) (by rw [hb];rfl)) fun a hF=>?_
    exact key _ _ (hF.has ⟨rfl,rfl,rfl,rfl,rfl,rfl,rfl,rfl,rfl,trivial⟩) hS
  intro a w hF hS
  refine ls<|q1 hF rfl (e_move hF rfl) fun a hF=>?_
  refine grp (N:=163) (Fk:=[(1,.pointer (some ⟨b18,0,none⟩)),(11,.int .i64 r137.2.1),(12,.int .i64 r137.2.2),(15,.int .i64 r139.2.2),(18,.int .i64 r141.2.2),(21,.int .i64 r143.2.2),(24,.int .i64 r145.2.2),(118,.bool (((r150 && (decide (r81.2=8))) && (decide (r135.2=8))) && (decide (r137.1=300))))]) (b:=((r150 && (decide (r81.2=8))) && (decide (r135.2=8)))) 3 hS ?_ ?_ ?_
  ·
    intro hb key
    replace hF:=Fr.as hF (t:=115) rfl (congrArg Value.bool hb)
    refine ls<|gy hF rfl rfl<|q1 hF rfl (e_move hF rfl) fun a hF=>?_
    refine ls<|gy hF rfl rfl<|q1 hF rfl (e_eql hF rfl rfl) fun a hF=>?_
    refine ls<|q1 hF rfl (e_as (v':=.bool (((r150 && (decide (r81.2=8))) && (decide (r135.2=8))) && (decide (r137.1=300)))) (e_pickT hF rfl rfl) (by rw [hb];rfl)) fun a hF=>?_
    exact key _ _ (hF.has ⟨rfl,rfl,rfl,rfl,rfl,rfl,rfl,rfl,trivial⟩) hS
  ·
    intro hb key
    replace hF:=Fr.as hF (t:=115) rfl (congrArg Value.bool hb)
    refine ls<|gn hF rfl rfl rfl rfl fun a hF=>?_
    refine ls<|gn hF rfl rfl rfl rfl fun a hF=>?_
    refine ls<|q1 hF rfl (e_as (v':=.bool (((r150 && (decide (r81.2=8))) && (decide (r135.2=8))) && (decide (r137.1=300)))) (e_pickF hF rfl rfl) (by rw [hb];rfl)) fun a hF=>?_
    exact key _ _ (hF.has ⟨rfl,rfl,rfl,rfl,rfl,rfl,rfl,rfl,trivial⟩) hS
  intro a w hF hS
  refine ls<|q1 hF rfl (e_move hF rfl) fun a hF=>?_
  refine grp (N:=163) (Fk:=[(1,.pointer (some ⟨b18,0,none⟩)),(12,.int .i64 r137.2.2),(15,.int .i64 r139.2.2),(18,.int .i64 r141.2.2),(21,.int .i64 r143.2.2),(24,.int .i64 r145.2.2),(122,.bool ((((r150 && (decide (r81.2=8))) && (decide (r135.2=8))) && (decide (r137.1=300))) && (decide (r137.2.1=2))))]) (b:=(((r150 && (decide (r81.2=8))) && (decide (r135.2=8))) && (decide (r137.1=300)))) 3 hS ?_ ?_ ?_
  ·
    intro hb key
    replace hF:=Fr.as hF (t:=119) rfl (congrArg Value.bool hb)
    refine ls<|gy hF rfl rfl<|q1 hF rfl (e_move hF rfl) fun a hF=>?_
    refine ls<|gy hF rfl rfl<|q1 hF rfl (e_eql hF rfl rfl) fun a hF=>?_
    refine ls<|q1 hF rfl (e_as (v':=.bool ((((r150 && (decide (r81.2=8))) && (decide (r135.2=8))) && (decide (r137.1=300))) && (decide (r137.2.1=2)))) (e_pickT hF rfl rfl) (by rw [hb];rfl)) fun a hF=>?_
    exact key _ _ (hF.has ⟨rfl,rfl,rfl,rfl,rfl,rfl,rfl,trivial⟩) hS
  ·
    intro hb key
    replace hF:=Fr.as hF (t:=119) rfl (congrArg Value.bool hb)
    refine ls<|gn hF rfl rfl rfl rfl fun a hF=>?_
    refine ls<|gn hF rfl rfl rfl rfl fun a hF=>?_
    refine ls<|q1 hF rfl (e_as (v':=.bool ((((r150 && (decide (r81.2=8))) && (decide (r135.2=8))) && (decide (r137.1=300))) && (decide (r137.2.1=2)))) (e_pickF hF rfl rfl) (by rw [hb];rfl)) fun a hF=>?_
    exact key _ _ (hF.has ⟨rfl,rfl,rfl,rfl,rfl,rfl,rfl,trivial⟩) hS
  intro a w hF hS
  refine ls<|q1 hF rfl (e_move hF rfl) fun a hF=>?_
  refine grp (N:=163) (Fk:=[(1,.pointer (some ⟨b18,0,none⟩)),(15,.int .i64 r139.2.2),(18,.int .i64 r141.2.2),(21,.int .i64 r143.2.2),(24,.int .i64 r145.2.2),(126,.bool (((((r150 && (decide (r81.2=8))) && (decide (r135.2=8))) && (decide (r137.1=300))) && (decide (r137.2.1=2))) && (decide (r137.2.2=0))))]) (b:=((((r150 && (decide (r81.2=8))) && (decide (r135.2=8))) && (decide (r137.1=300))) && (decide (r137.2.1=2)))) 3 hS ?_ ?_ ?_
  ·
    intro hb key
    replace hF:=Fr.as hF (t:=123) rfl (congrArg Value.bool hb)
    refine ls<|gy hF rfl rfl<|q1 hF rfl (e_move hF rfl) fun a hF=>?_
    refine ls<|gy hF rfl rfl<|q1 hF rfl (e_eql hF rfl rfl) fun a hF=>?_
    refine ls<|q1 hF rfl (e_as (v':=.bool (((((r150 && (decide (r81.2=8))) && (decide (r135.2=8))) && (decide (r137.1=300))) && (decide (r137.2.1=2))) && (decide (r137.2.2=0)))) (e_pickT hF rfl rfl) (by rw [hb];rfl)) fun a hF=>?_
    exact key _ _ (hF.has ⟨rfl,rfl,rfl,rfl,rfl,rfl,trivial⟩) hS
  ·
    intro hb key
    replace hF:=Fr.as hF (t:=123) rfl (congrArg Value.bool hb)
    refine ls<|gn hF rfl rfl rfl rfl fun a hF=>?_
    refine ls<|gn hF rfl rfl rfl rfl fun a hF=>?_
    refine ls<|q1 hF rfl (e_as (v':=.bool (((((r150 && (decide (r81.2=8))) && (decide (r135.2=8))) && (decide (r137.1=300))) && (decide (r137.2.1=2))) && (decide (r137.2.2=0)))) (e_pickF hF rfl rfl) (by rw [hb];rfl)) fun a hF=>?_
    exact key _ _ (hF.has ⟨rfl,rfl,rfl,rfl,rfl,rfl,trivial⟩) hS
  intro a w hF hS
  refine ls<|q1 hF rfl (e_move hF rfl) fun a hF=>?_
  refine grp (N:=163) (Fk:=[(1,.pointer (some ⟨b18,0,none⟩)),(18,.int .i64 r141.2.2),(21,.int .i64 r143.2.2),(24,.int .i64 r145.2.2),(130,.bool ((((((r150 && (decide (r81.2=8))) && (decide (r135.2=8))) && (decide (r137.1=300))) && (decide (r137.2.1=2))) && (decide (r137.2.2=0))) && (decide (r139.2.2=8))))]) (b:=(((((r150 && (decide (r81.2=8))) && (decide (r135.2=8))) && (decide (r137.1=300))) && (decide (r137.2.1=2))) && (decide (r137.2.2=0)))) 3 hS ?_ ?_ ?_
  ·
    intro hb key
    replace hF:=Fr.as hF (t:=127) rfl (congrArg Value.bool hb)
    refine ls<|gy hF rfl rfl<|q1 hF rfl (e_move hF rfl) fun a hF=>?_
    refine ls<|gy hF rfl rfl<|q1 hF rfl (e_eql hF rfl rfl) fun a hF=>?_
    refine ls<|q1 hF rfl (e_as (v':=.bool ((((((r150 && (decide (r81.2=8))) && (decide (r135.2=8))) && (decide (r137.1=300))) && (decide (r137.2.1=2))) && (decide (r137.2.2=0))) && (decide (r139.2.2=8)))) (e_pickT hF rfl rfl) (by rw [hb];rfl)) fun a hF=>?_
    exact key _ _ (hF.has ⟨rfl,rfl,rfl,rfl,rfl,trivial⟩) hS
  ·
    intro hb key
    replace hF:=Fr.as hF (t:=127) rfl (congrArg Value.bool hb)
    refine ls<|gn hF rfl rfl rfl rfl fun a hF=>?_
    refine ls<|gn hF rfl rfl rfl rfl fun a hF=>?_
    refine ls<|q1 hF rfl (e_as (v':=.bool ((((((r150 && (decide (r81.2=8))) && (decide (r135.2=8))) && (decide (r137.1=300))) && (decide (r137.2.1=2))) && (decide (r137.2.2=0))) && (decide (r139.2.2=8)))) (e_pickF hF rfl rfl) (by rw [hb];rfl)) fun a hF=>?_
    exact key _ _ (hF.has ⟨rfl,rfl,rfl,rfl,rfl,trivial⟩) hS
  intro a w hF hS
  refine ls<|q1 hF rfl (e_move hF rfl) fun a hF=>?_
  refine grp (N:=163) (Fk:=[(1,.pointer (some ⟨b18,0,none⟩)),(21,.int .i64 r143.2.2),(24,.int .i64 r145.2.2),(134,.bool (((((((r150 && (decide (r81.2=8))) && (decide (r135.2=8))) && (decide (r137.1=300))) && (decide (r137.2.1=2))) && (decide (r137.2.2=0))) && (decide (r139.2.2=8))) && (decide (r141.2.2=6))))]) (b:=((((((r150 && (decide (r81.2=8))) && (decide (r135.2=8))) && (decide (r137.1=300))) && (decide (r137.2.1=2))) && (decide (r137.2.2=0))) && (decide (r139.2.2=8)))) 3 hS ?_ ?_ ?_
  ·
    intro hb key
    replace hF:=Fr.as hF (t:=131) rfl (congrArg Value.bool hb)
    refine ls<|gy hF rfl rfl<|q1 hF rfl (e_move hF rfl) fun a hF=>?_
    refine ls<|gy hF rfl rfl<|q1 hF rfl (e_eql hF rfl rfl) fun a hF=>?_
    refine ls<|q1 hF rfl (e_as (v':=.bool (((((((r150 && (decide (r81.2=8))) && (decide (r135.2=8))) && (decide (r137.1=300))) && (decide (r137.2.1=2))) && (decide (r137.2.2=0))) && (decide (r139.2.2=8))) && (decide (r141.2.2=6)))) (e_pickT hF rfl rfl) (by rw [hb];rfl)) fun a hF=>?_
    exact key _ _ (hF.has ⟨rfl,rfl,rfl,rfl,trivial⟩) hS
  ·
    intro hb key
    replace hF:=Fr.as hF (t:=131) rfl (congrArg Value.bool hb)
    refine ls<|gn hF rfl rfl rfl rfl fun a hF=>?_
    refine ls<|gn hF rfl rfl rfl rfl fun a hF=>?_
    refine ls<|q1 hF rfl (e_as (v':=.bool (((((((r150 && (decide (r81.2=8))) && (decide (r135.2=8))) && (decide (r137.1=300))) && (decide (r137.2.1=2))) && (decide (r137.2.2=0))) && (decide (r139.2.2=8))) && (decide (r141.2.2=6)))) (e_pickF hF rfl rfl) (by rw [hb];rfl)) fun a hF=>?_
    exact key _ _ (hF.has ⟨rfl,rfl,rfl,rfl,trivial⟩) hS
  intro a w hF hS
  refine ls<|q1 hF rfl (e_move hF rfl) fun a hF=>?_
  refine grp (N:=163) (Fk:=[(1,.pointer (some ⟨b18,0,none⟩)),(24,.int .i64 r145.2.2),(138,.bool ((((((((r150 && (decide (r81.2=8))) && (decide (r135.2=8))) && (decide (r137.1=300))) && (decide (r137.2.1=2))) && (decide (r137.2.2=0))) && (decide (r139.2.2=8))) && (decide (r141.2.2=6))) && (decide (r143.2.2=1))))]) (b:=(((((((r150 && (decide (r81.2=8))) && (decide (r135.2=8))) && (decide (r137.1=300))) && (decide (r137.2.1=2))) && (decide (r137.2.2=0))) && (decide (r139.2.2=8))) && (decide (r141.2.2=6)))) 3 hS ?_ ?_ ?_
  ·
    intro hb key
    replace hF:=Fr.as hF (t:=135) rfl (congrArg Value.bool hb)
    refine ls<|gy hF rfl rfl<|q1 hF rfl (e_move hF rfl) fun a hF=>?_
    refine ls<|gy hF rfl rfl<|q1 hF rfl (e_eql hF rfl rfl) fun a hF=>?_
    refine ls<|q1 hF rfl (e_as (v':=.bool ((((((((r150 && (decide (r81.2=8))) && (decide (r135.2=8))) && (decide (r137.1=300))) && (decide (r137.2.1=2))) && (decide (r137.2.2=0))) && (decide (r139.2.2=8))) && (decide (r141.2.2=6))) && (decide (r143.2.2=1)))) (e_pickT hF rfl rfl) (by rw [hb];rfl)) fun a hF=>?_
    exact key _ _ (hF.has ⟨rfl,rfl,rfl,trivial⟩) hS
  ·
    intro hb key
    replace hF:=Fr.as hF (t:=135) rfl (congrArg Value.bool hb)
    refine ls<|gn hF rfl rfl rfl rfl fun a hF=>?_
    refine ls<|gn hF rfl rfl rfl rfl fun a hF=>?_
    refine ls<|q1 hF rfl (e_as (v':=.bool ((((((((r150 && (decide (r81.2=8))) && (decide (r135.2=8))) && (decide (r137.1=300))) && (decide (r137.2.1=2))) && (decide (r137.2.2=0))) && (decide (r139.2.2=8))) && (decide (r141.2.2=6))) && (decide (r143.2.2=1)))) (e_pickF hF rfl rfl) (by rw [hb];rfl)) fun a hF=>?_
    exact key _ _ (hF.has ⟨rfl,rfl,rfl,trivial⟩) hS
  intro a w hF hS
  refine ls<|q1 hF rfl (e_move hF rfl) fun a hF=>?_
  refine grp (N:=163) (Fk:=[(1,.pointer (some ⟨b18,0,none⟩)),(142,.bool (((((((((r150 && (decide (r81.2=8))) && (decide (r135.2=8))) && (decide (r137.1=300))) && (decide (r137.2.1=2))) && (decide (r137.2.2=0))) && (decide (r139.2.2=8))) && (decide (r141.2.2=6))) && (decide (r143.2.2=1))) && (decide (r145.2.2=2))))]) (b:=((((((((r150 && (decide (r81.2=8))) && (decide (r135.2=8))) && (decide (r137.1=300))) && (decide (r137.2.1=2))) && (decide (r137.2.2=0))) && (decide (r139.2.2=8))) && (decide (r141.2.2=6))) && (decide (r143.2.2=1)))) 3 hS ?_ ?_ ?_
  ·
    intro hb key
    replace hF:=Fr.as hF (t:=139) rfl (congrArg Value.bool hb)
    refine ls<|gy hF rfl rfl<|q1 hF rfl (e_move hF rfl) fun a hF=>?_
    refine ls<|gy hF rfl rfl<|q1 hF rfl (e_eql hF rfl rfl) fun a hF=>?_
    refine ls<|q1 hF rfl (e_as (v':=.bool (((((((((r150 && (decide (r81.2=8))) && (decide (r135.2=8))) && (decide (r137.1=300))) && (decide (r137.2.1=2))) && (decide (r137.2.2=0))) && (decide (r139.2.2=8))) && (decide (r141.2.2=6))) && (decide (r143.2.2=1))) && (decide (r145.2.2=2)))) (e_pickT hF rfl rfl) (by rw [hb];rfl)) fun a hF=>?_
    exact key _ _ (hF.has ⟨rfl,rfl,trivial⟩) hS
  ·
    intro hb key
    replace hF:=Fr.as hF (t:=139) rfl (congrArg Value.bool hb)
    refine ls<|gn hF rfl rfl rfl rfl fun a hF=>?_
    refine ls<|gn hF rfl rfl rfl rfl fun a hF=>?_
    refine ls<|q1 hF rfl (e_as (v':=.bool (((((((((r150 && (decide (r81.2=8))) && (decide (r135.2=8))) && (decide (r137.1=300))) && (decide (r137.2.1=2))) && (decide (r137.2.2=0))) && (decide (r139.2.2=8))) && (decide (r141.2.2=6))) && (decide (r143.2.2=1))) && (decide (r145.2.2=2)))) (e_pickF hF rfl rfl) (by rw [hb];rfl)) fun a hF=>?_
    exact key _ _ (hF.has ⟨rfl,rfl,trivial⟩) hS
  intro a w hF hS
  refine ls<|q1 hF rfl (e_as (e_move hF rfl) (congrArg Value.bool hb152)) fun a hF=>?_
  refine ls<|gy hF rfl rfl<|c1 hF rfl Tryd.call8 (Za_c (hp_le _) h154) ⟨rfl,trivial⟩ (fun v w a hR hF=>?_)
  obtain ⟨rfl,hk⟩:=hR
  replace hS:=hS.pass hk
  clear hk
  refine ls<|gy hF rfl rfl<|q1 hF rfl (e_eqlU (m:=r153) (n:=[172,2]) hF rfl rfl) fun a hF=>?_
  refine ls<|q1 hF rfl (e_pickT hF rfl rfl) fun a hF=>?_
  refine ls<|q1 hF rfl (e_as (e_move hF rfl) (congrArg Value.bool hb155)) fun a hF=>?_
  refine ls<|gy hF rfl rfl<|c1 hF rfl Tryd.call8 (Za_c (hp_le _) h157) ⟨rfl,trivial⟩ (fun v w a hR hF=>?_)
  obtain ⟨rfl,hk⟩:=hR
  replace hS:=hS.pass hk
  clear hk
  refine ls<|gy hF rfl rfl<|q1 hF rfl (e_eqlU (m:=r156) (n:=[]) hF rfl rfl) fun a hF=>?_
  refine ls<|q1 hF rfl (e_pickT hF rfl rfl) fun a hF=>?_
  refine ls<|q1 hF rfl (e_as (e_move hF rfl) (congrArg Value.bool hb158)) fun a hF=>?_
  refine ls<|gy hF rfl rfl<|c1 hF rfl Tryd.call19 (Zg_c (hp_le _) (Tab.mono (Tab.mono hT (fun b o h=>(fun b o h=>(fun b o h=>(fun b o h=>hx83.sub b o (hx27.sub b o h)) b o (hx19.sub b o h)) b o (hx11.sub b o h)) b o (hx4.sub b o h))) (St.up hS)) h160) ⟨rfl,trivial⟩ (fun v w a hR hF=>?_)
  obtain ⟨rfl,hk⟩:=hR
  replace hS:=hS.pass hk
  clear hk
  refine ls<|gy hF rfl rfl<|q1 hF rfl (e_eqlU (m:=r159) (n:=[99,104,101,99,107]) hF rfl rfl) fun a hF=>?_
  refine ls<|q1 hF rfl (e_pickT hF rfl rfl) fun a hF=>?_
  refine ls<|q1 hF rfl (e_as (e_move hF rfl) (congrArg Value.bool hb161)) fun a hF=>?_
  refine ls<|gy hF rfl rfl<|q1 hF rfl (e_fa hF fa53_4 rfl) fun a hF=>?_
  refine ls<|gy hF rfl rfl<|q1 hF rfl (e_ld hF Tryd.isAgg50 rfl ((St.ld hS).cellB (.tail _ (.tail _ (.head _))) rfl)) fun a hF=>?_
  refine ls<|gy hF rfl rfl<|q1 hF rfl (e_iaI hF Tryd.runUnderlying50 Tryd.sizeOf32 rfl rfl h163 (SR.oaI hr20 (by decide) h163)) fun a hF=>?_
  refine ls<|gy hF rfl rfl<|q1 hF rfl (e_ldA hF Tryd.isAgg32 Tryd.sizeOf32 rfl rfl (fun j v hj=>PH.le.cell (fun b o hx=>(Lds.le (St.ld hS)) b o ((fun b o h=>hx83.sub b o (hx27.sub b o h)) b o hx)) (hl166 j v hj))) fun a hF=>?_
  refine ls<|gy hF rfl rfl<|c1 hF rfl Tryd.call12 (Zd_c (hp_le _) (Tab.mono (Tab.mono hT (fun b o h=>(fun b o h=>(fun b o h=>(fun b o h=>hx83.sub b o (hx27.sub b o h)) b o (hx19.sub b o h)) b o (hx11.sub b o h)) b o (hx4.sub b o h))) (St.up hS)) (Enc.mono (St.up hS) (show Enc.rep (α:=api_Code) H86 [.int .i64 x162.Regs,.int .i64 x162.Counts,.slice oa167 x162.L.length cap168] x162 from ⟨_,_,rfl,rfl,⟨_,_,rfl,rfl,⟨_,_,rfl,hc169,(hr170.mono (fun b o h=>hx83.sub b o (hx27.sub b o h)))⟩⟩⟩)) h172) ⟨rfl,trivial⟩ (fun v w a hR hF=>?_)
  obtain ⟨rfl,hk⟩:=hR
  replace hS:=hS.pass hk
  clear hk
  refine ls<|gy hF rfl rfl<|q1 hF rfl (e_eqlU (m:=r171) (n:=[48,32,115,101,116,32,48,32,48,32,48,32,91,35,49,32,35,50,32,58,53,93,10]) hF rfl rfl) fun a hF=>?_
  refine ls<|q1 hF rfl (e_pickT hF rfl rfl) fun a hF=>?_
  refine ls<|q1 hF rfl (e_asg hF rfl) fun a hF=>?_
  refine re<|?_
  refine tn<|?_
  refine wr<|?_
  obtain rfl:=Option.some.inj hm
  exact r1 hF Tryd.results10 rfl ⟨rfl,hS.keep⟩
set_option maxHeartbeats 4000000 in
set_option maxRecDepth 100000 in
theorem Z1h_c {N:Nat} {w0:World} {H:PH} (hH:H.le w0) (hT:Tab H) {oa2:Option Addr} {cap3:Nat} {p1:(List Int)} (hc4:p1.length≤cap3) (hr5:SR H oa2 p1) {r:Bool} (hm:Z1h N p1=some r):Tot Tryd.prog 4 #[.slice oa2 p1.length cap3] w0 (fun v w'=>v=.bool r∧Keep Nil w0 w'):=by
  unfold Z1h at hm
  refine fn0 (args:=[.slice oa2 p1.length cap3]) (F:=[(0,.slice oa2 p1.length cap3)]) Tryd.func4 rfl Tryd.ntmps4 rfl rfl fun a hF=>?_
  have hS:St w0 Nil [H] [] w0:=start1 hH
  refine th<|?_
  refine rg<|?_
  refine ls<|q1 hF rfl (e_asg hF rfl) fun a hF=>?_
  refine re<|?_
  refine tn<|th<|?_
  refine rg<|?_
  refine ls<|a_bsl (e:=3) (sz:=1) [] hF rfl hS rfl rfl rfl (fun w=>by kernel_rfl) fun b7 w a hS hF=>?_
  have hv6:Rows (α:=Int) H [] []:=.nil
  refine ls<|q1 hF rfl (e_asg hF rfl) fun a hF=>?_
  refine ls<|q1 hF rfl (e_asg hF rfl) fun a hF=>?_
  refine re<|?_
  refine tn<|th<|th<|?_
  refine rg<|?_
  refine ls<|q1 hF rfl (e_asg hF rfl) fun a hF=>?_
  refine re<|?_
  refine tn<|midK (fun a w=>∃ (vA1:Str) (vA2:(List Int)) (oaA3:Option Addr) (capA4:Nat) (vsA5:List Value),(Z1i N) vA1 vA2=some r∧Fr 96 [(3,strv vA1),(4,.slice oaA3 vA2.length capA4)] a∧St w0 Nil [H] [sla 3 1 oaA3 vA2.length capA4 vsA5] w∧Rows H vsA5 vA2) ?_ ?_
  ·
    refine wb<|lp (α:=Nat×Str×(List Int)×Int) (fun (gh:Nat×Str×(List Int)×Int) a w=>match gh with | (nn2,vB1,vB2,vB8)=>∃ (oaB3:Option Addr) (capB4:Nat) (vsB5:List Value),(Z1m N (Z1i N) p1) nn2 vB1 vB2 vB8=some r∧Fr 96 [(0,.slice oa2 p1.length cap3),(3,strv vB1),(4,.slice oaB3 vB2.length capB4),(5,.int .i64 vB8)] a∧St w0 Nil [H] [sla 3 1 oaB3 vB2.length capB4 vsB5] w∧Rows H vsB5 vB2) (fun gh=>gh.1) (N,[],[],0) ⟨(some ⟨b7,0,none⟩),0,[],hm,hF.has ⟨rfl,rfl,rfl,rfl,trivial⟩,hS,hv6⟩ ?_
    clear hm hF hS
    rintro ⟨nn2,vB1,vB2,vB8⟩ a w ⟨oaB3,capB4,vsB5,hm,hF,hS,hvB6⟩
    obtain _ | nn2:=nn2
    · simp [Z1m] at hm
    rw [Z1m] at hm
    refine th<|th<|?_
    refine rg<|?_
    refine ls<|q1 hF rfl (e_move hF rfl) fun a hF=>?_
    refine ls<|q1 hF rfl (e_move hF rfl) fun a hF=>?_
    refine ls<|q1 hF rfl (e_lenL (α:=Int) (xs:=p1) hF Tryd.runUnderlying28 rfl) fun a hF=>?_
    refine ls<|q1 hF rfl (e_lss hF rfl rfl) fun a hF=>?_
    refine ls<|q1 hF rfl (e_move hF rfl) fun a hF=>?_
    refine grp (N:=96) (Fk:=[(0,.slice oa2 p1.length cap3),(3,strv vB1),(4,.slice oaB3 vB2.length capB4),(5,.int .i64 vB8),(21,.bool ((decide (vB8 < (p1.length:Int))) && (decide (vB8 < 40))))]) (b:=(decide (vB8 < (p1.length:Int)))) 3 hS ?_ ?_ ?_
    ·
      intro hb key
      replace hF:=Fr.as hF (t:=18) rfl (congrArg Value.bool hb)
      refine ls<|gy hF rfl rfl<|q1 hF rfl (e_move hF rfl) fun a hF=>?_
      refine ls<|gy hF rfl rfl<|q1 hF rfl (e_lss hF rfl rfl) fun a hF=>?_
      refine ls<|q1 hF rfl (e_as (v':=.bool ((decide (vB8 < (p1.length:Int))) && (decide (vB8 < 40)))) (e_pickT hF rfl rfl) (by rw [hb];rfl)) fun a hF=>?_
      exact key _ _ (hF.has ⟨rfl,rfl,rfl,rfl,rfl,trivial⟩) hS
    ·
      intro hb key
      replace hF:=Fr.as hF (t:=18) rfl (congrArg Value.bool hb)
      refine ls<|gn hF rfl rfl rfl rfl fun a hF=>?_
      refine ls<|gn hF rfl rfl rfl rfl fun a hF=>?_
      refine ls<|q1 hF rfl (e_as (v':=.bool ((decide (vB8 < (p1.length:Int))) && (decide (vB8 < 40)))) (e_pickF hF rfl rfl) (by rw [hb];rfl)) fun a hF=>?_
      exact key _ _ (hF.has ⟨rfl,rfl,rfl,rfl,rfl,trivial⟩) hS
    intro a w hF hS
    refine re<|?_
    rcases bdich ((decide (vB8 < (p1.length:Int))) && (decide (vB8 < 40))) with hb9 | hb9
    ·
      replace hm:=ite_t hm hb9
      refine tn<|ctv hF rfl hb9<|wk<|?_
      refine tn<|th<|wb<|th<|?_
      replace hm:=bind_some hm
      obtain ⟨x10,h11,hm⟩:=hm
      obtain ⟨c12,g13,hl14⟩:=SR.get hr5 h11
      obtain rfl:c12=[.int .i64 x10]:=g13
      refine rg<|?_
      refine ls<|q1 hF rfl (e_move hF rfl) fun a hF=>?_
      refine ls<|q1 hF rfl (e_move hF rfl) fun a hF=>?_
      refine ls<|q1 hF rfl (e_iaI hF Tryd.runUnderlying28 Tryd.sizeOf3 rfl rfl h11 (SR.oaI hr5 (by decide) h11)) fun a hF=>?_
      refine ls<|q1 hF rfl (e_ld hF Tryd.isAgg3 rfl (PH.le.cell (Lds.le (St.ld hS)) (hl14 0 _ rfl))) fun a hF=>?_
      refine ls<|q1 hF rfl (e_band hF rfl rfl) fun a hF=>?_
      refine ls<|q1 hF rfl (e_asg hF rfl) fun a hF=>?_
      refine re<|?_
      refine tn<|th<|?_
      replace hm:=bind_some hm
      obtain ⟨l18,h19,hm⟩:=hm
      refine rg<|?_
      refine ls<|q1 hF rfl (e_move hF rfl) fun a hF=>?_
      refine ls<|q1 hF rfl (e_move hF rfl) fun a hF=>?_
      refine ls<|a_bsl (e:=3) (sz:=1) [.int .i64 (iand .i64 x10 1099511627775)] hF rfl hS rfl rfl rfl (fun w=>by kernel_rfl) fun b16 w a hS hF=>?_
      have hv15:Rows (α:=Int) H [.int .i64 (iand .i64 x10 1099511627775)] ([(iand .i64 x10 1099511627775)]:List Int):=(.cons (c:=[.int .i64 (iand .i64 x10 1099511627775)]) rfl .nil)
      refine ls<|m_app (α:=Int) (xs:=vB2) (ys:=([(iand .i64 x10 1099511627775)]:List Int)) hF rfl hS Tryd.underlying28 info3 rfl (by decide) rfl rfl rfl (.tail _ (.head _)) hvB6 (hS.rdO (.head _)) hv15 h19 fun oa20 cap21 vs22 w a hv23 hU hF=>?_
      replace hS:=hU _ (.tail .head)
      clear hU
      replace hS:=hS.drop .head
      refine ls<|q1 hF rfl (e_asg hF rfl) fun a hF=>?_
      refine re<|?_
      refine tn<|th<|?_
      replace hm:=bind_some hm
      obtain ⟨r24,h25,hm⟩:=hm
      refine rg<|?_
      refine ls<|q1 hF rfl (e_move hF rfl) fun a hF=>?_
      refine ls<|c1 hF rfl Tryd.call8 (Za_c (hp_le _) h25) ⟨rfl,trivial⟩ (fun v w a hR hF=>?_)
      obtain ⟨rfl,hk⟩:=hR
      replace hS:=hS.pass hk
      clear hk
      refine ls<|q1 hF rfl (e_asg hF rfl) fun a hF=>?_
      refine re<|?_
      refine tn<|th<|th<|midK (fun a w=>∃ (vC1:Bool),(Z1j (Z1m N (Z1i N) p1 nn2) l18 r24 vB1 vB8) vC1=some r∧Fr 96 [(0,.slice oa2 p1.length cap3),(3,strv vB1),(4,.slice oa20 l18.length cap21),(5,.int .i64 vB8),(7,strv r24),(56,.bool vC1)] a∧St w0 Nil [H] [sla 3 1 oa20 l18.length cap21 vs22] w) ?_ ?_
      ·
        rcases bdich ((decide ((r24.length:Int) < 1)) || (decide (6 < (r24.length:Int)))) with hb26 | hb26
        ·
          replace hm:=ite_t hm hb26
          refine rg<|?_
          refine ls<|q1 hF rfl (e_move hF rfl) fun a hF=>?_
          refine ls<|q1 hF rfl (e_lenU (s:=r24) hF Tryd.runUnderlying9 rfl) fun a hF=>?_
          refine ls<|q1 hF rfl (e_lss hF rfl rfl) fun a hF=>?_
          refine ls<|q1 hF rfl (e_move hF rfl) fun a hF=>?_
          refine grp (N:=96) (Fk:=[(0,.slice oa2 p1.length cap3),(3,strv vB1),(4,.slice oa20 l18.length cap21),(5,.int .i64 vB8),(6,.int .i64 (iand .i64 x10 1099511627775)),(7,strv r24),(42,.bool ((decide ((r24.length:Int) < 1)) || (decide (6 < (r24.length:Int)))))]) (b:=(decide ((r24.length:Int) < 1))) 4 hS ?_ ?_ ?_
          ·
            intro hb key
            replace hF:=Fr.as hF (t:=38) rfl (congrArg Value.bool hb)
            refine ls<|gn hF rfl rfl rfl rfl fun a hF=>?_
            refine ls<|gn hF rfl rfl rfl rfl fun a hF=>?_
            refine ls<|gn hF rfl rfl rfl rfl fun a hF=>?_
            refine ls<|q1 hF rfl (e_as (v':=.bool ((decide ((r24.length:Int) < 1)) || (decide (6 < (r24.length:Int))))) (e_pickT hF rfl rfl) (by rw [hb];rfl)) fun a hF=>?_
            exact key _ _ (hF.has ⟨rfl,rfl,rfl,rfl,rfl,rfl,rfl,trivial⟩) hS
          ·
            intro hb key
            replace hF:=Fr.as hF (t:=38) rfl (congrArg Value.bool hb)
            refine ls<|gy hF rfl rfl<|q1 hF rfl (e_move hF rfl) fun a hF=>?_
            refine ls<|gy hF rfl rfl<|q1 hF rfl (e_lenU (s:=r24) hF Tryd.runUnderlying9 rfl) fun a hF=>?_
            refine ls<|gy hF rfl rfl<|q1 hF rfl (e_gtr hF rfl rfl) fun a hF=>?_
            refine ls<|q1 hF rfl (e_as (v':=.bool ((decide ((r24.length:Int) < 1)) || (decide (6 < (r24.length:Int))))) (e_pickF hF rfl rfl) (by rw [hb];rfl)) fun a hF=>?_
            exact key _ _ (hF.has ⟨rfl,rfl,rfl,rfl,rfl,rfl,rfl,trivial⟩) hS
          intro a w hF hS
          refine ls<|q1 hF rfl (e_as (e_move hF rfl) (congrArg Value.bool hb26)) fun a hF=>?_
          refine ls<|gn hF rfl rfl rfl rfl fun a hF=>?_
          refine ls<|gn hF rfl rfl rfl rfl fun a hF=>?_
          refine ls<|gn hF rfl rfl rfl rfl fun a hF=>?_
          refine ls<|gn hF rfl rfl rfl rfl fun a hF=>?_
          refine ls<|gnu hF rfl rfl rfl fun a hF=>?_
          refine ls<|gnu hF rfl rfl rfl fun a hF=>?_
          refine ls<|gnu hF rfl rfl rfl fun a hF=>?_
          refine ls<|gnu hF rfl rfl rfl fun a hF=>?_
          refine ls<|gnu hF rfl rfl rfl fun a hF=>?_
          refine ls<|gnu hF rfl rfl rfl fun a hF=>?_
          refine ls<|gnu hF rfl rfl rfl fun a hF=>?_
          refine ls<|gn hF rfl rfl rfl rfl fun a hF=>?_
          refine ls<|q1 hF rfl (e_pickT hF rfl rfl) fun a hF=>?_
          refine re<|?_
          refine tn<|?_
          exact ⟨true,hm,hF.has ⟨rfl,rfl,rfl,rfl,rfl,rfl,trivial⟩,hS⟩
        ·
          replace hm:=ite_f hm hb26
          rcases bdich (decide (1 < (r24.length:Int))) with hb27 | hb27
          ·
            replace hm:=itp_t hm hb27
            replace hm:=bind_some hm
            obtain ⟨x28,h29,hm⟩:=hm
            refine rg<|?_
            refine ls<|q1 hF rfl (e_move hF rfl) fun a hF=>?_
            refine ls<|q1 hF rfl (e_lenU (s:=r24) hF Tryd.runUnderlying9 rfl) fun a hF=>?_
            refine ls<|q1 hF rfl (e_lss hF rfl rfl) fun a hF=>?_
            refine ls<|q1 hF rfl (e_move hF rfl) fun a hF=>?_
            refine grp (N:=96) (Fk:=[(0,.slice oa2 p1.length cap3),(3,strv vB1),(4,.slice oa20 l18.length cap21),(5,.int .i64 vB8),(6,.int .i64 (iand .i64 x10 1099511627775)),(7,strv r24),(42,.bool ((decide ((r24.length:Int) < 1)) || (decide (6 < (r24.length:Int)))))]) (b:=(decide ((r24.length:Int) < 1))) 4 hS ?_ ?_ ?_
            ·
              intro hb key
              replace hF:=Fr.as hF (t:=38) rfl (congrArg Value.bool hb)
              refine ls<|gn hF rfl rfl rfl rfl fun a hF=>?_
              refine ls<|gn hF rfl rfl rfl rfl fun a hF=>?_
              refine ls<|gn hF rfl rfl rfl rfl fun a hF=>?_
              refine ls<|q1 hF rfl (e_as (v':=.bool ((decide ((r24.length:Int) < 1)) || (decide (6 < (r24.length:Int))))) (e_pickT hF rfl rfl) (by rw [hb];rfl)) fun a hF=>?_
              exact key _ _ (hF.has ⟨rfl,rfl,rfl,rfl,rfl,rfl,rfl,trivial⟩) hS
            ·
              intro hb key
              replace hF:=Fr.as hF (t:=38) rfl (congrArg Value.bool hb)
              refine ls<|gy hF rfl rfl<|q1 hF rfl (e_move hF rfl) fun a hF=>?_
              refine ls<|gy hF rfl rfl<|q1 hF rfl (e_lenU (s:=r24) hF Tryd.runUnderlying9 rfl) fun a hF=>?_
              refine ls<|gy hF rfl rfl<|q1 hF rfl (e_gtr hF rfl rfl) fun a hF=>?_
              refine ls<|q1 hF rfl (e_as (v':=.bool ((decide ((r24.length:Int) < 1)) || (decide (6 < (r24.length:Int))))) (e_pickF hF rfl rfl) (by rw [hb];rfl)) fun a hF=>?_
              exact key _ _ (hF.has ⟨rfl,rfl,rfl,rfl,rfl,rfl,rfl,trivial⟩) hS
            intro a w hF hS
            refine ls<|q1 hF rfl (e_as (e_move hF rfl) (congrArg Value.bool hb26)) fun a hF=>?_
            refine ls<|gy hF rfl rfl<|q1 hF rfl (e_move hF rfl) fun a hF=>?_
            refine ls<|gy hF rfl rfl<|q1 hF rfl (e_lenU (s:=r24) hF Tryd.runUnderlying9 rfl) fun a hF=>?_
            refine ls<|gy hF rfl rfl<|q1 hF rfl (e_gtr hF rfl rfl) fun a hF=>?_
            refine ls<|gy hF rfl rfl<|q1 hF rfl (e_as (e_move hF rfl) (congrArg Value.bool hb27)) fun a hF=>?_
            refine ls<|gy hF rfl rfl<|q1 hF rfl (e_move hF rfl) fun a hF=>?_
            refine ls<|gy hF rfl rfl<|q1 hF rfl (e_move hF rfl) fun a hF=>?_
            refine ls<|gy hF rfl rfl<|q1 hF rfl (e_lenU (s:=r24) hF Tryd.runUnderlying9 rfl) fun a hF=>?_
            refine ls<|gy hF rfl rfl<|q1 hF rfl (e_mul hF rfl rfl) fun a hF=>?_
            refine ls<|gy hF rfl rfl<|q1 hF rfl (e_sub hF rfl rfl) fun a hF=>?_
            refine ls<|gy hF rfl rfl<|q1 hF rfl (e_shlI hF rfl rfl h29) fun a hF=>?_
            refine ls<|gy hF rfl rfl<|q1 hF rfl (e_lss hF rfl rfl) fun a hF=>?_
            refine ls<|gy hF rfl rfl<|q1 hF rfl (e_pickT hF rfl rfl) fun a hF=>?_
            refine ls<|q1 hF rfl (e_pickF hF rfl rfl) fun a hF=>?_
            refine re<|?_
            refine tn<|?_
            exact ⟨(decide ((iand .i64 x10 1099511627775) < x28)),hm,hF.has ⟨rfl,rfl,rfl,rfl,rfl,rfl,trivial⟩,hS⟩
          ·
            replace hm:=itp_f hm hb27
            refine rg<|?_
            refine ls<|q1 hF rfl (e_move hF rfl) fun a hF=>?_
            refine ls<|q1 hF rfl (e_lenU (s:=r24) hF Tryd.runUnderlying9 rfl) fun a hF=>?_
            refine ls<|q1 hF rfl (e_lss hF rfl rfl) fun a hF=>?_
            refine ls<|q1 hF rfl (e_move hF rfl) fun a hF=>?_
            refine grp (N:=96) (Fk:=[(0,.slice oa2 p1.length cap3),(3,strv vB1),(4,.slice oa20 l18.length cap21),(5,.int .i64 vB8),(6,.int .i64 (iand .i64 x10 1099511627775)),(7,strv r24),(42,.bool ((decide ((r24.length:Int) < 1)) || (decide (6 < (r24.length:Int)))))]) (b:=(decide ((r24.length:Int) < 1))) 4 hS ?_ ?_ ?_
            ·
              intro hb key
              replace hF:=Fr.as hF (t:=38) rfl (congrArg Value.bool hb)
              refine ls<|gn hF rfl rfl rfl rfl fun a hF=>?_
              refine ls<|gn hF rfl rfl rfl rfl fun a hF=>?_
              refine ls<|gn hF rfl rfl rfl rfl fun a hF=>?_
              refine ls<|q1 hF rfl (e_as (v':=.bool ((decide ((r24.length:Int) < 1)) || (decide (6 < (r24.length:Int))))) (e_pickT hF rfl rfl) (by rw [hb];rfl)) fun a hF=>?_
              exact key _ _ (hF.has ⟨rfl,rfl,rfl,rfl,rfl,rfl,rfl,trivial⟩) hS
            ·
              intro hb key
              replace hF:=Fr.as hF (t:=38) rfl (congrArg Value.bool hb)
              refine ls<|gy hF rfl rfl<|q1 hF rfl (e_move hF rfl) fun a hF=>?_
              refine ls<|gy hF rfl rfl<|q1 hF rfl (e_lenU (s:=r24) hF Tryd.runUnderlying9 rfl) fun a hF=>?_
              refine ls<|gy hF rfl rfl<|q1 hF rfl (e_gtr hF rfl rfl) fun a hF=>?_
              refine ls<|q1 hF rfl (e_as (v':=.bool ((decide ((r24.length:Int) < 1)) || (decide (6 < (r24.length:Int))))) (e_pickF hF rfl rfl) (by rw [hb];rfl)) fun a hF=>?_
              exact key _ _ (hF.has ⟨rfl,rfl,rfl,rfl,rfl,rfl,rfl,trivial⟩) hS
            intro a w hF hS
            refine ls<|q1 hF rfl (e_as (e_move hF rfl) (congrArg Value.bool hb26)) fun a hF=>?_
            refine ls<|gy hF rfl rfl<|q1 hF rfl (e_move hF rfl) fun a hF=>?_
            refine ls<|gy hF rfl rfl<|q1 hF rfl (e_lenU (s:=r24) hF Tryd.runUnderlying9 rfl) fun a hF=>?_
            refine ls<|gy hF rfl rfl<|q1 hF rfl (e_gtr hF rfl rfl) fun a hF=>?_
            refine ls<|gy hF rfl rfl<|q1 hF rfl (e_as (e_move hF rfl) (congrArg Value.bool hb27)) fun a hF=>?_
            refine ls<|gn hF rfl rfl rfl rfl fun a hF=>?_
            refine ls<|gn hF rfl rfl rfl rfl fun a hF=>?_
            refine ls<|gn hF rfl rfl rfl rfl fun a hF=>?_
            refine ls<|gn hF rfl rfl rfl rfl fun a hF=>?_
            refine ls<|gn hF rfl rfl rfl rfl fun a hF=>?_
            refine ls<|gn hF rfl rfl rfl rfl fun a hF=>?_
            refine ls<|gn hF rfl rfl rfl rfl fun a hF=>?_
            refine ls<|gy hF rfl rfl<|q1 hF rfl (e_pickF hF rfl rfl) fun a hF=>?_
            refine ls<|q1 hF rfl (e_pickF hF rfl rfl) fun a hF=>?_
            refine re<|?_
            refine tn<|?_
            exact ⟨false,hm,hF.has ⟨rfl,rfl,rfl,rfl,rfl,rfl,trivial⟩,hS⟩
      clear hm hF hS
      rintro a w ⟨vC1,hm,hF,hS⟩
      unfold Z1j at hm
      replace hm:=bind_some hm
      obtain ⟨_,hb30,hm⟩:=hm
      replace hb30:=bnt (sure_some hb30)
      refine cfv hF rfl hb30<|wk<|?_
      refine tn<|?_
      replace hm:=bind_some hm
      obtain ⟨s31,h32,hm⟩:=hm
      refine rg<|?_
      refine ls<|q1 hF rfl (e_move hF rfl) fun a hF=>?_
      refine ls<|q1 hF rfl (e_move hF rfl) fun a hF=>?_
      refine ls<|q1 hF rfl (e_catU hF rfl rfl h32) fun a hF=>?_
      refine ls<|q1 hF rfl (e_asg hF rfl) fun a hF=>?_
      refine re<|?_
      refine bn<|tn<|?_
      refine rg<|?_
      refine ls<|q1 hF rfl (e_move hF rfl) fun a hF=>?_
      refine ls<|q1 hF rfl (e_add hF rfl rfl) fun a hF=>?_
      refine ls<|q1 hF rfl (e_asg hF rfl) fun a hF=>?_
      refine re<|?_
      refine tn<|?_
      exact ⟨(nn2,s31,l18,(IntKind.i64.wrap (vB8+1))),⟨oa20,cap21,vs22,hm,hF.has ⟨rfl,rfl,rfl,rfl,trivial⟩,hS,hv23⟩,Nat.lt_succ_self _⟩
    ·
      replace hm:=ite_f hm hb9
      refine tn<|cfv hF rfl hb9<|?_
      refine we<|tx<|tx<|bx<|?_
      refine tn<|?_
      exact ⟨vB1,vB2,oaB3,capB4,vsB5,hm,hF.has ⟨rfl,rfl,trivial⟩,hS,hvB6⟩
  clear hm hF hS
  rintro a w ⟨vA1,vA2,oaA3,capA4,vsA5,hm,hF,hS,hvA6⟩
  unfold Z1i at hm
  refine th<|?_
  refine rg<|?_
  refine ls<|q1 hF rfl (e_asg hF rfl) fun a hF=>?_
  refine re<|?_
  refine tn<|th<|th<|?_
  refine rg<|?_
  refine ls<|q1 hF rfl (e_asg hF rfl) fun a hF=>?_
  refine re<|?_
  refine tn<|midK (fun a w=>∃ (vA8:Int),(Z1k N vA1) vA8=some r∧Fr 96 [(3,strv vA1),(8,.int .i64 vA8)] a∧St w0 Nil [H] [] w) ?_ ?_
  ·
    refine wb<|lp (α:=Nat×Int×Int) (fun (gh:Nat×Int×Int) a w=>match gh with | (nn5,vB9,vB10)=>(Z1n N (Z1k N vA1) vA1 vA2) nn5 vB9 vB10=some r∧Fr 96 [(3,strv vA1),(4,.slice oaA3 vA2.length capA4),(8,.int .i64 vB9),(9,.int .i64 vB10)] a∧St w0 Nil [H] [sla 3 1 oaA3 vA2.length capA4 vsA5] w) (fun gh=>gh.1) (N,0,0) ⟨hm,hF.has ⟨rfl,rfl,rfl,rfl,trivial⟩,hS⟩ ?_
    clear hm hF hS
    rintro ⟨nn5,vB9,vB10⟩ a w ⟨hm,hF,hS⟩
    obtain _ | nn5:=nn5
    · simp [Z1n] at hm
    rw [Z1n] at hm
    refine th<|th<|?_
    refine rg<|?_
    refine ls<|q1 hF rfl (e_move hF rfl) fun a hF=>?_
    refine ls<|q1 hF rfl (e_move hF rfl) fun a hF=>?_
    refine ls<|q1 hF rfl (e_lenL (α:=Int) (xs:=vA2) hF Tryd.runUnderlying28 rfl) fun a hF=>?_
    refine ls<|q1 hF rfl (e_lss hF rfl rfl) fun a hF=>?_
    refine re<|?_
    rcases bdich (decide (vB10 < (vA2.length:Int))) with hb33 | hb33
    ·
      replace hm:=itp_t hm hb33
      refine tn<|ctv hF rfl hb33<|wk<|?_
      refine tn<|th<|wb<|th<|?_
      replace hm:=bind_some hm
      obtain ⟨r34,h35,hm⟩:=hm
      refine rg<|?_
      refine ls<|q1 hF rfl (e_move hF rfl) fun a hF=>?_
      refine ls<|q1 hF rfl (e_move hF rfl) fun a hF=>?_
      refine ls<|c1 hF rfl Tryd.call6 (Z7_c (hp_le _) h35) ⟨rfl,rfl,trivial⟩ (fun v w a hR hF=>?_)
      obtain ⟨rfl,hk⟩:=hR
      replace hS:=hS.pass hk
      clear hk
      refine ls<|q1 hF rfl (e_move hF rfl) fun a hF=>?_
      refine ls<|q1 hF rfl (e_ext hF rfl rfl) fun a hF=>?_
      refine ls<|q1 hF rfl (e_ext hF rfl rfl) fun a hF=>?_
      refine ls<|q1 hF rfl (e_ext hF rfl rfl) fun a hF=>?_
      refine ls<|q1 hF rfl (e_asg hF rfl) fun a hF=>?_
      refine ls<|q1 hF rfl (e_asg hF rfl) fun a hF=>?_
      refine ls<|q1 hF rfl (e_asg hF rfl) fun a hF=>?_
      refine re<|?_
      refine tn<|th<|th<|midK (fun a w=>∃ (vC2:Bool),(Z1l (Z1n N (Z1k N vA1) vA1 vA2 nn5) r34 vB10) vC2=some r∧Fr 96 [(3,strv vA1),(4,.slice oaA3 vA2.length capA4),(9,.int .i64 vB10),(11,.int .i64 r34.2.1),(87,.bool vC2)] a∧St w0 Nil [H] [sla 3 1 oaA3 vA2.length capA4 vsA5] w) ?_ ?_
      ·
        rcases bdich (decide (r34.2.2≠0)) with hb36 | hb36
        ·
          replace hm:=itp_t hm hb36
          refine rg<|?_
          refine ls<|q1 hF rfl (e_move hF rfl) fun a hF=>?_
          refine ls<|q1 hF rfl (e_neq hF rfl rfl) fun a hF=>?_
          refine ls<|q1 hF rfl (e_as (e_move hF rfl) (congrArg Value.bool hb36)) fun a hF=>?_
          refine ls<|gn hF rfl rfl rfl rfl fun a hF=>?_
          refine ls<|gn hF rfl rfl rfl rfl fun a hF=>?_
          refine ls<|gn hF rfl rfl rfl rfl fun a hF=>?_
          refine ls<|gn hF rfl rfl rfl rfl fun a hF=>?_
          refine ls<|gn hF rfl rfl rfl rfl fun a hF=>?_
          refine ls<|gn hF rfl rfl rfl rfl fun a hF=>?_
          refine ls<|q1 hF rfl (e_pickT hF rfl rfl) fun a hF=>?_
          refine ls<|q1 hF rfl (e_move hF rfl) fun a hF=>?_
          refine ls<|gn hF rfl rfl rfl rfl fun a hF=>?_
          refine ls<|gn hF rfl rfl rfl rfl fun a hF=>?_
          refine ls<|gn hF rfl rfl rfl rfl fun a hF=>?_
          refine ls<|q1 hF rfl (e_pickT hF rfl rfl) fun a hF=>?_
          refine re<|?_
          refine tn<|?_
          exact ⟨true,hm,hF.has ⟨rfl,rfl,rfl,rfl,rfl,trivial⟩,hS⟩
        ·
          replace hm:=itp_f hm hb36
          replace hm:=bind_some hm
          obtain ⟨x37,h38,hm⟩:=hm
          have ho39:=Rd.oaI (hS.rdO (.head _)) hvA6 (by decide) h38
          obtain ⟨c40,g41,hl42⟩:=Rows.getI hvA6 h38
          obtain rfl:c40=[.int .i64 x37]:=g41
          refine rg<|?_
          refine ls<|q1 hF rfl (e_move hF rfl) fun a hF=>?_
          refine ls<|q1 hF rfl (e_neq hF rfl rfl) fun a hF=>?_
          refine ls<|q1 hF rfl (e_as (e_move hF rfl) (congrArg Value.bool hb36)) fun a hF=>?_
          refine ls<|gy hF rfl rfl<|q1 hF rfl (e_move hF rfl) fun a hF=>?_
          refine ls<|gy hF rfl rfl<|q1 hF rfl (e_move hF rfl) fun a hF=>?_
          refine ls<|gy hF rfl rfl<|q1 hF rfl (e_move hF rfl) fun a hF=>?_
          refine ls<|gy hF rfl rfl<|q1 hF rfl (e_iaI hF Tryd.runUnderlying28 Tryd.sizeOf3 rfl rfl h38 ho39) fun a hF=>?_
          refine ls<|gy hF rfl rfl<|q1 hF rfl (e_ld hF Tryd.isAgg3 rfl ((St.ld hS).elO (.head _) (hl42 0 _ rfl))) fun a hF=>?_
          refine ls<|gy hF rfl rfl<|q1 hF rfl (e_neq hF rfl rfl) fun a hF=>?_
          refine ls<|q1 hF rfl (e_pickF hF rfl rfl) fun a hF=>?_
          refine ls<|q1 hF rfl (e_move hF rfl) fun a hF=>?_
          refine grp (N:=96) (Fk:=[(3,strv vA1),(4,.slice oaA3 vA2.length capA4),(9,.int .i64 vB10),(11,.int .i64 r34.2.1),(87,.bool ((decide (r34.1≠x37)) || (decide (r34.2.1≤vB9))))]) (b:=(decide (r34.1≠x37))) 4 hS ?_ ?_ ?_
          ·
            intro hb key
            replace hF:=Fr.as hF (t:=83) rfl (congrArg Value.bool hb)
            refine ls<|gn hF rfl rfl rfl rfl fun a hF=>?_
            refine ls<|gn hF rfl rfl rfl rfl fun a hF=>?_
            refine ls<|gn hF rfl rfl rfl rfl fun a hF=>?_
            refine ls<|q1 hF rfl (e_as (v':=.bool ((decide (r34.1≠x37)) || (decide (r34.2.1≤vB9)))) (e_pickT hF rfl rfl) (by rw [hb];rfl)) fun a hF=>?_
            exact key _ _ (hF.has ⟨rfl,rfl,rfl,rfl,rfl,trivial⟩) hS
          ·
            intro hb key
            replace hF:=Fr.as hF (t:=83) rfl (congrArg Value.bool hb)
            refine ls<|gy hF rfl rfl<|q1 hF rfl (e_move hF rfl) fun a hF=>?_
            refine ls<|gy hF rfl rfl<|q1 hF rfl (e_move hF rfl) fun a hF=>?_
            refine ls<|gy hF rfl rfl<|q1 hF rfl (e_leq hF rfl rfl) fun a hF=>?_
            refine ls<|q1 hF rfl (e_as (v':=.bool ((decide (r34.1≠x37)) || (decide (r34.2.1≤vB9)))) (e_pickF hF rfl rfl) (by rw [hb];rfl)) fun a hF=>?_
            exact key _ _ (hF.has ⟨rfl,rfl,rfl,rfl,rfl,trivial⟩) hS
          intro a w hF hS
          refine re<|?_
          refine tn<|?_
          exact ⟨((decide (r34.1≠x37)) || (decide (r34.2.1≤vB9))),hm,hF.has ⟨rfl,rfl,rfl,rfl,rfl,trivial⟩,hS⟩
      clear hm hF hS
      rintro a w ⟨vC2,hm,hF,hS⟩
      unfold Z1l at hm
      replace hm:=bind_some hm
      obtain ⟨_,hb43,hm⟩:=hm
      replace hb43:=bnt (sure_some hb43)
      refine cfv hF rfl hb43<|wk<|?_
      refine tn<|?_
      refine rg<|?_
      refine ls<|q1 hF rfl (e_move hF rfl) fun a hF=>?_
      refine ls<|q1 hF rfl (e_asg hF rfl) fun a hF=>?_
      refine re<|?_
      refine bn<|tn<|?_
      refine rg<|?_
      refine ls<|q1 hF rfl (e_move hF rfl) fun a hF=>?_
      refine ls<|q1 hF rfl (e_add hF rfl rfl) fun a hF=>?_
      refine ls<|q1 hF rfl (e_asg hF rfl) fun a hF=>?_
      refine re<|?_
      refine tn<|?_
      exact ⟨(nn5,r34.2.1,(IntKind.i64.wrap (vB10+1))),⟨hm,hF.has ⟨rfl,rfl,rfl,rfl,trivial⟩,hS⟩,Nat.lt_succ_self _⟩
    ·
      replace hm:=itp_f hm hb33
      refine tn<|cfv hF rfl hb33<|?_
      refine we<|tx<|tx<|bx<|?_
      refine tn<|?_
      replace hS:=hS.pickL .nil
      exact ⟨vB9,hm,hF.has ⟨rfl,rfl,trivial⟩,hS⟩
  clear hm hF hS
  rintro a w ⟨vA8,hm,hF,hS⟩
  unfold Z1k at hm
  refine th<|?_
  rcases bdich (decide (vA8=(vA1.length:Int))) with hb44 | hb44
  ·
    replace hm:=itp_t hm hb44
    replace hm:=bind_some hm
    obtain ⟨r45,h46,hm⟩:=hm
    refine rg<|?_
    refine ls<|q1 hF rfl (e_move hF rfl) fun a hF=>?_
    refine ls<|q1 hF rfl (e_move hF rfl) fun a hF=>?_
    refine ls<|q1 hF rfl (e_lenU (s:=vA1) hF Tryd.runUnderlying9 rfl) fun a hF=>?_
    refine ls<|q1 hF rfl (e_eql hF rfl rfl) fun a hF=>?_
    refine ls<|q1 hF rfl (e_as (e_move hF rfl) (congrArg Value.bool hb44)) fun a hF=>?_
    refine ls<|gy hF rfl rfl<|c1 hF rfl Tryd.call10 (Z1o_c (hp_le _) (Tab.mono hT (St.up hS)) h46) trivial (fun v w a hR hF=>?_)
    obtain ⟨rfl,hk⟩:=hR
    replace hS:=hS.pass hk
    clear hk
    refine ls<|q1 hF rfl (e_pickT hF rfl rfl) fun a hF=>?_
    refine ls<|q1 hF rfl (e_asg hF rfl) fun a hF=>?_
    refine re<|?_
    refine tn<|?_
    refine wr<|?_
    obtain rfl:=Option.some.inj hm
    exact r1 hF Tryd.results4 rfl ⟨rfl,hS.keep⟩
  ·
    replace hm:=itp_f hm hb44
    refine rg<|?_
    refine ls<|q1 hF rfl (e_move hF rfl) fun a hF=>?_
    refine ls<|q1 hF rfl (e_move hF rfl) fun a hF=>?_
    refine ls<|q1 hF rfl (e_lenU (s:=vA1) hF Tryd.runUnderlying9 rfl) fun a hF=>?_
    refine ls<|q1 hF rfl (e_eql hF rfl rfl) fun a hF=>?_
    refine ls<|q1 hF rfl (e_as (e_move hF rfl) (congrArg Value.bool hb44)) fun a hF=>?_
    refine ls<|gn hF rfl rfl rfl rfl fun a hF=>?_
    refine ls<|q1 hF rfl (e_pickF hF rfl rfl) fun a hF=>?_
    refine ls<|q1 hF rfl (e_asg hF rfl) fun a hF=>?_
    refine re<|?_
    refine tn<|?_
    refine wr<|?_
    obtain rfl:=Option.some.inj hm
    exact r1 hF Tryd.results4 rfl ⟨rfl,hS.keep⟩
end Go.LM.BIN
