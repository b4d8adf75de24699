/- What came in at the seat bin, and what its library reads. No condition: plain lemmas. -/
import Derived.Test.YtbblmeecfimnkaaGreatDoorLO
import Derived.Test.YtbblmeecfimnkaaGreatDoorLW
import Derived.Test.YtbblmeecfimnkaaGreatDoorBMB
import Derived.Test.YtbblmeecfimnkaaGreatDoorBMK
import Derived.Test.YtbblmeecfimnkaaGreatDoorRows
import Derived.LaidLaws
import Derived.Lay
import Derived.Shelf.Vars
namespace Go.LM.BINZ
open Go Go.LL Go.MD Go.LM Go.MD.BINZ Go.Proofs Go.ChangeShapes Go.WideShapes Go.ChangeAt Go.RowKit Go.WideElems
theorem op_api_Op:Op Tryz.prog 83 api_Op ok_api_Op:=fun {H enc W base sp held n cs y} h=>by
  obtain ⟨xs,n,_,_,hl,hlen,hf⟩:=DataW.trod_struct Tryz.underlying83 h
  have cT:Tryz.prog.cellsOf 83=2:=by kernel_rfl
  have c3:Tryz.prog.cellsOf 3=1:=by kernel_rfl
  rw [cT] at hl
  have h5:xs.length=2:=hlen
  have h_0:DataW.trod enc Tryz.prog W base sp held n 3 ((cs.drop 0).take (Tryz.prog.cellsOf 3))=xs[0]?:=hf 0 _ rfl
  have h_1:DataW.trod enc Tryz.prog W base sp held n 3 ((cs.drop 1).take (Tryz.prog.cellsOf 3))=xs[1]?:=hf 1 _ rfl
  rw [c3,List.getElem?_eq_getElem (by omega)] at h_0
  obtain ⟨x0,r0,o0⟩:=(op_int Tryz.underlying3) h_0
  rw [c3,List.getElem?_eq_getElem (by omega)] at h_1
  obtain ⟨x1,r1,o1⟩:=(op_int Tryz.underlying3) h_1
  refine ⟨⟨x0,x1⟩,?_,⟨o0,o1⟩⟩
  show Enc.rep (α:=Int×Int) (hp W) cs (x0,x1)
  rw [List.take_of_length_le (by rw [List.length_drop,hl];decide)] at r1
  exact ⟨_,_,(dropF (cs:=cs) (o:=0) (s:=1) rfl),r0,r1⟩
theorem op_api_Instr:Op Tryz.prog 85 api_Instr ok_api_Instr:=fun {H enc W base sp held n cs y} h=>by
  obtain ⟨xs,n,_,_,hl,hlen,hf⟩:=DataW.trod_struct Tryz.underlying85 h
  have cT:Tryz.prog.cellsOf 85=6:=by kernel_rfl
  have c3:Tryz.prog.cellsOf 3=1:=by kernel_rfl
  have c54:Tryz.prog.cellsOf 54=1:=by kernel_rfl
  rw [cT] at hl
  have h5:xs.length=6:=hlen
  have h_0:DataW.trod enc Tryz.prog W base sp held n 3 ((cs.drop 0).take (Tryz.prog.cellsOf 3))=xs[0]?:=hf 0 _ rfl
  have h_1:DataW.trod enc Tryz.prog W base sp held n 3 ((cs.drop 1).take (Tryz.prog.cellsOf 3))=xs[1]?:=hf 1 _ rfl
  have h_2:DataW.trod enc Tryz.prog W base sp held n 3 ((cs.drop 2).take (Tryz.prog.cellsOf 3))=xs[2]?:=hf 2 _ rfl
  have h_3:DataW.trod enc Tryz.prog W base sp held n 54 ((cs.drop 3).take (Tryz.prog.cellsOf 54))=xs[3]?:=hf 3 _ rfl
  have h_4:DataW.trod enc Tryz.prog W base sp held n 54 ((cs.drop 4).take (Tryz.prog.cellsOf 54))=xs[4]?:=hf 4 _ rfl
  have h_5:DataW.trod enc Tryz.prog W base sp held n 3 ((cs.drop 5).take (Tryz.prog.cellsOf 3))=xs[5]?:=hf 5 _ rfl
  rw [c3,List.getElem?_eq_getElem (by omega)] at h_0
  obtain ⟨x0,r0,o0⟩:=(op_int Tryz.underlying3) h_0
  rw [c3,List.getElem?_eq_getElem (by omega)] at h_1
  obtain ⟨x1,r1,o1⟩:=(op_int Tryz.underlying3) h_1
  rw [c3,List.getElem?_eq_getElem (by omega)] at h_2
  obtain ⟨x2,r2,o2⟩:=(op_int Tryz.underlying3) h_2
  rw [c54,List.getElem?_eq_getElem (by omega)] at h_3
  obtain ⟨x3,r3,o3⟩:=(op_slice (s:=2) Tryz.underlying54 (by kernel_rfl) rfl (by decide) op_api_Op) h_3
  rw [c54,List.getElem?_eq_getElem (by omega)] at h_4
  obtain ⟨x4,r4,o4⟩:=(op_slice (s:=2) Tryz.underlying54 (by kernel_rfl) rfl (by decide) op_api_Op) h_4
  rw [c3,List.getElem?_eq_getElem (by omega)] at h_5
  obtain ⟨x5,r5,o5⟩:=(op_int Tryz.underlying3) h_5
  refine ⟨⟨x0,x1,x2,x3,x4,x5⟩,?_,⟨o0,o1,o2,o3,o4,o5⟩⟩
  show Enc.rep (α:=Int×Int×Int×(List api_Op)×(List api_Op)×Int) (hp W) cs (x0,x1,x2,x3,x4,x5)
  rw [List.take_of_length_le (by rw [List.length_drop,hl];decide)] at r5
  exact ⟨_,_,(dropF (cs:=cs) (o:=0) (s:=1) rfl),r0,_,_,(dropF (cs:=cs) (o:=1) (s:=1) rfl),r1,_,_,(dropF (cs:=cs) (o:=2) (s:=1) rfl),r2,_,_,(dropF (cs:=cs) (o:=3) (s:=1) rfl),r3,_,_,(dropF (cs:=cs) (o:=4) (s:=1) rfl),r4,r5⟩
theorem op_api_Code:Op Tryz.prog 26 api_Code ok_api_Code:=fun {H enc W base sp held n cs y} h=>by
  obtain ⟨xs,n,_,_,hl,hlen,hf⟩:=DataW.trod_struct Tryz.underlying26 h
  have cT:Tryz.prog.cellsOf 26=3:=by kernel_rfl
  have c3:Tryz.prog.cellsOf 3=1:=by kernel_rfl
  have c24:Tryz.prog.cellsOf 24=1:=by kernel_rfl
  rw [cT] at hl
  have h5:xs.length=3:=hlen
  have h_0:DataW.trod enc Tryz.prog W base sp held n 3 ((cs.drop 0).take (Tryz.prog.cellsOf 3))=xs[0]?:=hf 0 _ rfl
  have h_1:DataW.trod enc Tryz.prog W base sp held n 3 ((cs.drop 1).take (Tryz.prog.cellsOf 3))=xs[1]?:=hf 1 _ rfl
  have h_2:DataW.trod enc Tryz.prog W base sp held n 24 ((cs.drop 2).take (Tryz.prog.cellsOf 24))=xs[2]?:=hf 2 _ rfl
  rw [c3,List.getElem?_eq_getElem (by omega)] at h_0
  obtain ⟨x0,r0,o0⟩:=(op_int Tryz.underlying3) h_0
  rw [c3,List.getElem?_eq_getElem (by omega)] at h_1
  obtain ⟨x1,r1,o1⟩:=(op_int Tryz.underlying3) h_1
  rw [c24,List.getElem?_eq_getElem (by omega)] at h_2
  obtain ⟨x2,r2,o2⟩:=(op_slice (s:=6) Tryz.underlying24 (by kernel_rfl) rfl (by decide) op_api_Instr) h_2
  refine ⟨⟨x0,x1,x2⟩,?_,⟨o0,o1,o2⟩⟩
  show Enc.rep (α:=Int×Int×(List api_Instr)) (hp W) cs (x0,x1,x2)
  rw [List.take_of_length_le (by rw [List.length_drop,hl];decide)] at r2
  exact ⟨_,_,(dropF (cs:=cs) (o:=0) (s:=1) rfl),r0,_,_,(dropF (cs:=cs) (o:=1) (s:=1) rfl),r1,r2⟩
theorem op_api_Unit:Op Tryz.prog 29 api_Unit ok_api_Unit:=fun {H enc W base sp held n cs y} h=>by
  obtain ⟨xs,n,_,_,hl,hlen,hf⟩:=DataW.trod_struct Tryz.underlying29 h
  have cT:Tryz.prog.cellsOf 29=9:=by kernel_rfl
  have c3:Tryz.prog.cellsOf 3=1:=by kernel_rfl
  have c22:Tryz.prog.cellsOf 22=1:=by kernel_rfl
  have c23:Tryz.prog.cellsOf 23=1:=by kernel_rfl
  have c26:Tryz.prog.cellsOf 26=3:=by kernel_rfl
  have c27:Tryz.prog.cellsOf 27=1:=by kernel_rfl
  rw [cT] at hl
  have h5:xs.length=7:=hlen
  have h_0:DataW.trod enc Tryz.prog W base sp held n 22 ((cs.drop 0).take (Tryz.prog.cellsOf 22))=xs[0]?:=hf 0 _ rfl
  have h_1:DataW.trod enc Tryz.prog W base sp held n 3 ((cs.drop 1).take (Tryz.prog.cellsOf 3))=xs[1]?:=hf 1 _ rfl
  have h_2:DataW.trod enc Tryz.prog W base sp held n 22 ((cs.drop 2).take (Tryz.prog.cellsOf 22))=xs[2]?:=hf 2 _ rfl
  have h_3:DataW.trod enc Tryz.prog W base sp held n 3 ((cs.drop 3).take (Tryz.prog.cellsOf 3))=xs[3]?:=hf 3 _ rfl
  have h_4:DataW.trod enc Tryz.prog W base sp held n 23 ((cs.drop 4).take (Tryz.prog.cellsOf 23))=xs[4]?:=hf 4 _ rfl
  have h_5:DataW.trod enc Tryz.prog W base sp held n 26 ((cs.drop 5).take (Tryz.prog.cellsOf 26))=xs[5]?:=hf 5 _ rfl
  have h_6:DataW.trod enc Tryz.prog W base sp held n 27 ((cs.drop 8).take (Tryz.prog.cellsOf 27))=xs[6]?:=hf 6 _ rfl
  rw [c22,List.getElem?_eq_getElem (by omega)] at h_0
  obtain ⟨x0,r0,o0⟩:=(op_slice (s:=1) Tryz.underlying22 (by kernel_rfl) rfl (by decide) (op_int Tryz.underlying3)) h_0
  rw [c3,List.getElem?_eq_getElem (by omega)] at h_1
  obtain ⟨x1,r1,o1⟩:=(op_int Tryz.underlying3) h_1
  rw [c22,List.getElem?_eq_getElem (by omega)] at h_2
  obtain ⟨x2,r2,o2⟩:=(op_slice (s:=1) Tryz.underlying22 (by kernel_rfl) rfl (by decide) (op_int Tryz.underlying3)) h_2
  rw [c3,List.getElem?_eq_getElem (by omega)] at h_3
  obtain ⟨x3,r3,o3⟩:=(op_int Tryz.underlying3) h_3
  rw [c23,List.getElem?_eq_getElem (by omega)] at h_4
  obtain ⟨x4,r4,o4⟩:=(op_slice (s:=3) Tryz.underlying23 (by kernel_rfl) rfl (by decide) op_api_Code) h_4
  rw [c26,List.getElem?_eq_getElem (by omega)] at h_5
  obtain ⟨x5,r5,o5⟩:=op_api_Code h_5
  rw [c27,List.getElem?_eq_getElem (by omega)] at h_6
  obtain ⟨x6,r6,o6⟩:=(op_slice (s:=1) Tryz.underlying27 (by kernel_rfl) rfl (by decide) (op_slice (s:=2) Tryz.underlying54 (by kernel_rfl) rfl (by decide) op_api_Op)) h_6
  refine ⟨⟨x0,x1,x2,x3,x4,x5,x6⟩,?_,⟨o0,o1,o2,o3,o4,o5,o6⟩⟩
  show Enc.rep (α:=(List Int)×Int×(List Int)×Int×(List api_Code)×api_Code×(List (List api_Op))) (hp W) cs (x0,x1,x2,x3,x4,x5,x6)
  rw [List.take_of_length_le (by rw [List.length_drop,hl];decide)] at r6
  exact ⟨_,_,(dropF (cs:=cs) (o:=0) (s:=1) rfl),r0,_,_,(dropF (cs:=cs) (o:=1) (s:=1) rfl),r1,_,_,(dropF (cs:=cs) (o:=2) (s:=1) rfl),r2,_,_,(dropF (cs:=cs) (o:=3) (s:=1) rfl),r3,_,_,(dropF (cs:=cs) (o:=4) (s:=1) rfl),r4,_,_,(dropF (cs:=cs) (o:=5) (s:=3) rfl),r5,r6⟩
theorem own:ownKnob Tryz.prog.godebug=none:=by kernel_rfl
theorem laid:laidOutB Tryz.prog=true:=by kernel_rfl
def laidL : List (String × DataW Unit) := [("math/bits.deBruijn32tab", Go.Proofs.YtbblmeecfimnkaaGreatDoor.Rows.laid_math_bits_deBruijn32tab), ("math/bits.deBruijn64tab", Go.Proofs.YtbblmeecfimnkaaGreatDoor.Rows.laid_math_bits_deBruijn64tab), ("internal/strconv.uint64pow10", Go.Proofs.YtbblmeecfimnkaaGreatDoor.Rows.laid_internal_strconv_uint64pow10), ("unicode.White_Space", Go.Proofs.YtbblmeecfimnkaaGreatDoor.Rows.laid_unicode_White_Space), ("strings.asciiSpace", Go.Proofs.YtbblmeecfimnkaaGreatDoor.Rows.laid_strings_asciiSpace)]
theorem tabP_eq:(Go.Proofs.YtbblmeecfimnkaaGreatDoor.Rows.laid_internal_strconv_uint64pow10:DataW Unit)=Lib.tabData .u64 Lib.pow10Tab:=by rfl
theorem tabA_eq:(Go.Proofs.YtbblmeecfimnkaaGreatDoor.Rows.laid_strings_asciiSpace:DataW Unit)=Lib.tabData .u8 Lib.asciiSpaceTab:=by kernel_rfl
theorem globP : Tryz.prog.globalNamed "internal/strconv.uint64pow10" = some 2 := by kernel_rfl
theorem globA : Tryz.prog.globalNamed "strings.asciiSpace" = some 0 := by kernel_rfl
theorem tab_of_laid {W:World} (h:laidMet Tryz.prog laidL W):Tab (hp W):=by
  have h1:=h.tail.tail
  have h3:=h1.tail.tail
  rw [tabP_eq] at h1
  rw [tabA_eq] at h3
  have h2:=Lib.tabIs_of_head (g:=2) (t:=213) (e:=203) (n:=20) globP (by kernel_rfl) (by kernel_rfl) (by kernel_rfl) (by kernel_rfl) (by kernel_rfl) h1
  have h4:=Lib.tabIs_of_head (g:=0) (t:=126) (e:=5) (n:=256) globA (by kernel_rfl) (by kernel_rfl) (by kernel_rfl) (by kernel_rfl) (by kernel_rfl) h3
  intro w hle
  constructor
  · unfold Lib.TabIs World.var? at h2 ⊢
    rw [globP] at h2 ⊢
    simp only [Option.bind_some] at h2 ⊢
    split at h2
    · rename_i cs t fr hc
      rw [show w.heap[2]? = some (.cells cs t fr) from hle 2 _ hc]
      exact h2
    · cases h2
  · unfold Lib.TabIs World.var? at h4 ⊢
    rw [globA] at h4 ⊢
    simp only [Option.bind_some] at h4 ⊢
    split at h4
    · rename_i cs t fr hc
      rw [show w.heap[0]? = some (.cells cs t fr) from hle 0 _ hc]
      exact h4
    · cases h4
noncomputable def laidWorld (os:Os):World:=World.laidAll Tryz.prog os laidL
theorem laid_met (os:Os) (args:Array Value):laidMet Tryz.prog laidL ((laidWorld os).forCall (fun _ _=>0) ⟨#[],args,[]⟩).memory:=
  laidMet_laidAll args (by kernel_rfl) (by kernel_rfl)
theorem top_strL {H:Type} {enc:TypeId×Value→H} {P:Program} {t:TypeId} {W:World} {r:Reach} {b0 base:Nat} {v:Value} {d:DataW H} {ps:List MemPlace} {sp:Nat→Bool} {held:Bool} (ht:P.underlying t=some .string) (hval:Value.okWide P W r b0 t v) (hd:DataW.Trod enc P W base sp held t v d ps):∃ x:Str,v=strv x∧x.length≤maxLen:=by
  obtain ⟨s,rfl⟩:=okWide_string ht hval
  obtain ⟨fuel,hf⟩:=hd
  obtain ⟨s',h,hx,hs⟩:=DataW.trod_string ht hf
  simp [Value.cells] at h
  subst h
  exact ⟨s.data.toList,rfl,by rw [Array.length_toList];exact hs⟩
end Go.LM.BINZ
