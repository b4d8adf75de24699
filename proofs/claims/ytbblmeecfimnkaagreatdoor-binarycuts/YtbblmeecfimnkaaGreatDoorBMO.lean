/- What came in at the seat bin, and He its library reads. No condition: plain lemmas. -/
import Derived.Test.YtbblmeecfimnkaaGreatDoorLO
import Derived.Test.YtbblmeecfimnkaaGreatDoorLW
import Derived.Test.YtbblmeecfimnkaaGreatDoorBMB
import Derived.Test.YtbblmeecfimnkaaGreatDoorBMK
import Derived.Test.YtbblmeecfimnkaaGreatDoorRows
import Derived.LaidLaws
import Derived.Lay
import Derived.Shelf.Vars
namespace Go.LM.BINZ
open Go Go.LL Go.MD Go.LM Go.MD.BINZ Go.Proofs Go.ChangeShapes Go.WideShapes Go.ChangeAt Go.RowKit Go.WideElems
theorem Ia:Op Tryz.prog 130 api_Cell Gv:=fun {H enc W base sp held n cs y} h=>by
  obtain ⟨xs,n,_,_,hl,hlen,hf⟩:=DataW.trod_struct Tryz.underlying130 h
  have cT:Tryz.prog.cellsOf 130=3:=by kernel_rfl
  have c3:Tryz.prog.cellsOf 3=1:=by kernel_rfl
  have c9:Tryz.prog.cellsOf 9=1:=by kernel_rfl
  rw [cT] at hl
  have h5:xs.length=3:=hlen
  have h_0:DataW.trod enc Tryz.prog W base sp held n 9 ((cs.drop 0).take (Tryz.prog.cellsOf 9))=xs[0]?:=hf 0 _ rfl
  have h_1:DataW.trod enc Tryz.prog W base sp held n 3 ((cs.drop 1).take (Tryz.prog.cellsOf 3))=xs[1]?:=hf 1 _ rfl
  have h_2:DataW.trod enc Tryz.prog W base sp held n 3 ((cs.drop 2).take (Tryz.prog.cellsOf 3))=xs[2]?:=hf 2 _ rfl
  rw [c9,List.getElem?_eq_getElem (by omega)] at h_0
  obtain ⟨x0,r0,o0⟩:=(Ki Tryz.underlying9) h_0
  rw [c3,List.getElem?_eq_getElem (by omega)] at h_1
  obtain ⟨x1,r1,o1⟩:=(Fb Tryz.underlying3) h_1
  rw [c3,List.getElem?_eq_getElem (by omega)] at h_2
  obtain ⟨x2,r2,o2⟩:=(Fb Tryz.underlying3) h_2
  refine ⟨⟨x0,x1,x2⟩,?_,⟨o0,o1,o2⟩⟩
  show Enc.rep (α:=(List UInt8)×Int×Int) (hp W) cs (x0,x1,x2)
  rw [List.take_of_length_le (by rw [List.length_drop,hl];decide)] at r2
  exact ⟨_,_,(Du (cs:=cs) (o:=0) (s:=1) rfl),r0,_,_,(Du (cs:=cs) (o:=1) (s:=1) rfl),r1,r2⟩
theorem H8:Op Tryz.prog 133 api_Node Gr:=fun {H enc W base sp held n cs y} h=>by
  obtain ⟨xs,n,_,_,hl,hlen,hf⟩:=DataW.trod_struct Tryz.underlying133 h
  have cT:Tryz.prog.cellsOf 133=4:=by kernel_rfl
  have c3:Tryz.prog.cellsOf 3=1:=by kernel_rfl
  have c9:Tryz.prog.cellsOf 9=1:=by kernel_rfl
  rw [cT] at hl
  have h5:xs.length=4:=hlen
  have h_0:DataW.trod enc Tryz.prog W base sp held n 3 ((cs.drop 0).take (Tryz.prog.cellsOf 3))=xs[0]?:=hf 0 _ rfl
  have h_1:DataW.trod enc Tryz.prog W base sp held n 3 ((cs.drop 1).take (Tryz.prog.cellsOf 3))=xs[1]?:=hf 1 _ rfl
  have h_2:DataW.trod enc Tryz.prog W base sp held n 9 ((cs.drop 2).take (Tryz.prog.cellsOf 9))=xs[2]?:=hf 2 _ rfl
  have h_3:DataW.trod enc Tryz.prog W base sp held n 3 ((cs.drop 3).take (Tryz.prog.cellsOf 3))=xs[3]?:=hf 3 _ rfl
  rw [c3,List.getElem?_eq_getElem (by omega)] at h_0
  obtain ⟨x0,r0,o0⟩:=(Fb Tryz.underlying3) h_0
  rw [c3,List.getElem?_eq_getElem (by omega)] at h_1
  obtain ⟨x1,r1,o1⟩:=(Fb Tryz.underlying3) h_1
  rw [c9,List.getElem?_eq_getElem (by omega)] at h_2
  obtain ⟨x2,r2,o2⟩:=(Ki Tryz.underlying9) h_2
  rw [c3,List.getElem?_eq_getElem (by omega)] at h_3
  obtain ⟨x3,r3,o3⟩:=(Fb Tryz.underlying3) h_3
  refine ⟨⟨x0,x1,x2,x3⟩,?_,⟨o0,o1,o2,o3⟩⟩
  show Enc.rep (α:=Int×Int×(List UInt8)×Int) (hp W) cs (x0,x1,x2,x3)
  rw [List.take_of_length_le (by rw [List.length_drop,hl];decide)] at r3
  exact ⟨_,_,(Du (cs:=cs) (o:=0) (s:=1) rfl),r0,_,_,(Du (cs:=cs) (o:=1) (s:=1) rfl),r1,_,_,(Du (cs:=cs) (o:=2) (s:=1) rfl),r2,r3⟩
theorem Rt:Op Tryz.prog 140 api_Stmt Lg:=fun {H enc W base sp held n cs y} h=>by
  obtain ⟨xs,n,_,_,hl,hlen,hf⟩:=DataW.trod_struct Tryz.underlying140 h
  have cT:Tryz.prog.cellsOf 140=9:=by kernel_rfl
  have c3:Tryz.prog.cellsOf 3=1:=by kernel_rfl
  have c9:Tryz.prog.cellsOf 9=1:=by kernel_rfl
  have c96:Tryz.prog.cellsOf 96=1:=by kernel_rfl
  rw [cT] at hl
  have h5:xs.length=9:=hlen
  have h_0:DataW.trod enc Tryz.prog W base sp held n 3 ((cs.drop 0).take (Tryz.prog.cellsOf 3))=xs[0]?:=hf 0 _ rfl
  have h_1:DataW.trod enc Tryz.prog W base sp held n 9 ((cs.drop 1).take (Tryz.prog.cellsOf 9))=xs[1]?:=hf 1 _ rfl
  have h_2:DataW.trod enc Tryz.prog W base sp held n 9 ((cs.drop 2).take (Tryz.prog.cellsOf 9))=xs[2]?:=hf 2 _ rfl
  have h_3:DataW.trod enc Tryz.prog W base sp held n 96 ((cs.drop 3).take (Tryz.prog.cellsOf 96))=xs[3]?:=hf 3 _ rfl
  have h_4:DataW.trod enc Tryz.prog W base sp held n 96 ((cs.drop 4).take (Tryz.prog.cellsOf 96))=xs[4]?:=hf 4 _ rfl
  have h_5:DataW.trod enc Tryz.prog W base sp held n 3 ((cs.drop 5).take (Tryz.prog.cellsOf 3))=xs[5]?:=hf 5 _ rfl
  have h_6:DataW.trod enc Tryz.prog W base sp held n 3 ((cs.drop 6).take (Tryz.prog.cellsOf 3))=xs[6]?:=hf 6 _ rfl
  have h_7:DataW.trod enc Tryz.prog W base sp held n 3 ((cs.drop 7).take (Tryz.prog.cellsOf 3))=xs[7]?:=hf 7 _ rfl
  have h_8:DataW.trod enc Tryz.prog W base sp held n 3 ((cs.drop 8).take (Tryz.prog.cellsOf 3))=xs[8]?:=hf 8 _ rfl
  rw [c3,List.getElem?_eq_getElem (by omega)] at h_0
  obtain ⟨x0,r0,o0⟩:=(Fb Tryz.underlying3) h_0
  rw [c9,List.getElem?_eq_getElem (by omega)] at h_1
  obtain ⟨x1,r1,o1⟩:=(Ki Tryz.underlying9) h_1
  rw [c9,List.getElem?_eq_getElem (by omega)] at h_2
  obtain ⟨x2,r2,o2⟩:=(Ki Tryz.underlying9) h_2
  rw [c96,List.getElem?_eq_getElem (by omega)] at h_3
  obtain ⟨x3,r3,o3⟩:=(Db (s:=4) Tryz.underlying96 (by kernel_rfl) rfl (by decide) H8) h_3
  rw [c96,List.getElem?_eq_getElem (by omega)] at h_4
  obtain ⟨x4,r4,o4⟩:=(Db (s:=4) Tryz.underlying96 (by kernel_rfl) rfl (by decide) H8) h_4
  rw [c3,List.getElem?_eq_getElem (by omega)] at h_5
  obtain ⟨x5,r5,o5⟩:=(Fb Tryz.underlying3) h_5
  rw [c3,List.getElem?_eq_getElem (by omega)] at h_6
  obtain ⟨x6,r6,o6⟩:=(Fb Tryz.underlying3) h_6
  rw [c3,List.getElem?_eq_getElem (by omega)] at h_7
  obtain ⟨x7,r7,o7⟩:=(Fb Tryz.underlying3) h_7
  rw [c3,List.getElem?_eq_getElem (by omega)] at h_8
  obtain ⟨x8,r8,o8⟩:=(Fb Tryz.underlying3) h_8
  refine ⟨⟨x0,x1,x2,x3,x4,x5,x6,x7,x8⟩,?_,⟨o0,o1,o2,o3,o4,o5,o6,o7,o8⟩⟩
  show Enc.rep (α:=Int×(List UInt8)×(List UInt8)×(List api_Node)×(List api_Node)×Int×Int×Int×Int) (hp W) cs (x0,x1,x2,x3,x4,x5,x6,x7,x8)
  rw [List.take_of_length_le (by rw [List.length_drop,hl];decide)] at r8
  exact ⟨_,_,(Du (cs:=cs) (o:=0) (s:=1) rfl),r0,_,_,(Du (cs:=cs) (o:=1) (s:=1) rfl),r1,_,_,(Du (cs:=cs) (o:=2) (s:=1) rfl),r2,_,_,(Du (cs:=cs) (o:=3) (s:=1) rfl),r3,_,_,(Du (cs:=cs) (o:=4) (s:=1) rfl),r4,_,_,(Du (cs:=cs) (o:=5) (s:=1) rfl),r5,_,_,(Du (cs:=cs) (o:=6) (s:=1) rfl),r6,_,_,(Du (cs:=cs) (o:=7) (s:=1) rfl),r7,r8⟩
theorem Jc:Op Tryz.prog 108 api_Thread Gx:=fun {H enc W base sp held n cs y} h=>by
  obtain ⟨xs,n,_,_,hl,hlen,hf⟩:=DataW.trod_struct Tryz.underlying108 h
  have cT:Tryz.prog.cellsOf 108=4:=by kernel_rfl
  have c3:Tryz.prog.cellsOf 3=1:=by kernel_rfl
  have c9:Tryz.prog.cellsOf 9=1:=by kernel_rfl
  have c92:Tryz.prog.cellsOf 92=1:=by kernel_rfl
  have c106:Tryz.prog.cellsOf 106=1:=by kernel_rfl
  rw [cT] at hl
  have h5:xs.length=4:=hlen
  have h_0:DataW.trod enc Tryz.prog W base sp held n 9 ((cs.drop 0).take (Tryz.prog.cellsOf 9))=xs[0]?:=hf 0 _ rfl
  have h_1:DataW.trod enc Tryz.prog W base sp held n 92 ((cs.drop 1).take (Tryz.prog.cellsOf 92))=xs[1]?:=hf 1 _ rfl
  have h_2:DataW.trod enc Tryz.prog W base sp held n 106 ((cs.drop 2).take (Tryz.prog.cellsOf 106))=xs[2]?:=hf 2 _ rfl
  have h_3:DataW.trod enc Tryz.prog W base sp held n 3 ((cs.drop 3).take (Tryz.prog.cellsOf 3))=xs[3]?:=hf 3 _ rfl
  rw [c9,List.getElem?_eq_getElem (by omega)] at h_0
  obtain ⟨x0,r0,o0⟩:=(Ki Tryz.underlying9) h_0
  rw [c92,List.getElem?_eq_getElem (by omega)] at h_1
  obtain ⟨x1,r1,o1⟩:=(Db (s:=1) Tryz.underlying92 (by kernel_rfl) rfl (by decide) (Ki Tryz.underlying9)) h_1
  rw [c106,List.getElem?_eq_getElem (by omega)] at h_2
  obtain ⟨x2,r2,o2⟩:=(Db (s:=9) Tryz.underlying106 (by kernel_rfl) rfl (by decide) Rt) h_2
  rw [c3,List.getElem?_eq_getElem (by omega)] at h_3
  obtain ⟨x3,r3,o3⟩:=(Fb Tryz.underlying3) h_3
  refine ⟨⟨x0,x1,x2,x3⟩,?_,⟨o0,o1,o2,o3⟩⟩
  show Enc.rep (α:=(List UInt8)×(List (List UInt8))×(List api_Stmt)×Int) (hp W) cs (x0,x1,x2,x3)
  rw [List.take_of_length_le (by rw [List.length_drop,hl];decide)] at r3
  exact ⟨_,_,(Du (cs:=cs) (o:=0) (s:=1) rfl),r0,_,_,(Du (cs:=cs) (o:=1) (s:=1) rfl),r1,_,_,(Du (cs:=cs) (o:=2) (s:=1) rfl),r2,r3⟩
theorem Oe:Op Tryz.prog 99 api_Claim Jn:=fun {H enc W base sp held n cs y} h=>by
  obtain ⟨xs,n,_,_,hl,hlen,hf⟩:=DataW.trod_struct Tryz.underlying99 h
  have cT:Tryz.prog.cellsOf 99=2:=by kernel_rfl
  have c3:Tryz.prog.cellsOf 3=1:=by kernel_rfl
  have c96:Tryz.prog.cellsOf 96=1:=by kernel_rfl
  rw [cT] at hl
  have h5:xs.length=2:=hlen
  have h_0:DataW.trod enc Tryz.prog W base sp held n 96 ((cs.drop 0).take (Tryz.prog.cellsOf 96))=xs[0]?:=hf 0 _ rfl
  have h_1:DataW.trod enc Tryz.prog W base sp held n 3 ((cs.drop 1).take (Tryz.prog.cellsOf 3))=xs[1]?:=hf 1 _ rfl
  rw [c96,List.getElem?_eq_getElem (by omega)] at h_0
  obtain ⟨x0,r0,o0⟩:=(Db (s:=4) Tryz.underlying96 (by kernel_rfl) rfl (by decide) H8) h_0
  rw [c3,List.getElem?_eq_getElem (by omega)] at h_1
  obtain ⟨x1,r1,o1⟩:=(Fb Tryz.underlying3) h_1
  refine ⟨⟨x0,x1⟩,?_,⟨o0,o1⟩⟩
  show Enc.rep (α:=(List api_Node)×Int) (hp W) cs (x0,x1)
  rw [List.take_of_length_le (by rw [List.length_drop,hl];decide)] at r1
  exact ⟨_,_,(Du (cs:=cs) (o:=0) (s:=1) rfl),r0,r1⟩
theorem Rc:Op Tryz.prog 48 api_Prog Ri:=fun {H enc W base sp held n cs y} h=>by
  obtain ⟨xs,n,_,_,hl,hlen,hf⟩:=DataW.trod_struct Tryz.underlying48 h
  have cT:Tryz.prog.cellsOf 48=6:=by kernel_rfl
  have c43:Tryz.prog.cellsOf 43=1:=by kernel_rfl
  have c44:Tryz.prog.cellsOf 44=1:=by kernel_rfl
  have c45:Tryz.prog.cellsOf 45=1:=by kernel_rfl
  have c46:Tryz.prog.cellsOf 46=1:=by kernel_rfl
  rw [cT] at hl
  have h5:xs.length=6:=hlen
  have h_0:DataW.trod enc Tryz.prog W base sp held n 43 ((cs.drop 0).take (Tryz.prog.cellsOf 43))=xs[0]?:=hf 0 _ rfl
  have h_1:DataW.trod enc Tryz.prog W base sp held n 44 ((cs.drop 1).take (Tryz.prog.cellsOf 44))=xs[1]?:=hf 1 _ rfl
  have h_2:DataW.trod enc Tryz.prog W base sp held n 44 ((cs.drop 2).take (Tryz.prog.cellsOf 44))=xs[2]?:=hf 2 _ rfl
  have h_3:DataW.trod enc Tryz.prog W base sp held n 45 ((cs.drop 3).take (Tryz.prog.cellsOf 45))=xs[3]?:=hf 3 _ rfl
  have h_4:DataW.trod enc Tryz.prog W base sp held n 45 ((cs.drop 4).take (Tryz.prog.cellsOf 45))=xs[4]?:=hf 4 _ rfl
  have h_5:DataW.trod enc Tryz.prog W base sp held n 46 ((cs.drop 5).take (Tryz.prog.cellsOf 46))=xs[5]?:=hf 5 _ rfl
  rw [c43,List.getElem?_eq_getElem (by omega)] at h_0
  obtain ⟨x0,r0,o0⟩:=(Db (s:=1) Tryz.underlying43 (by kernel_rfl) rfl (by decide) (Db (s:=3) Tryz.underlying44 (by kernel_rfl) rfl (by decide) Ia)) h_0
  rw [c44,List.getElem?_eq_getElem (by omega)] at h_1
  obtain ⟨x1,r1,o1⟩:=(Db (s:=3) Tryz.underlying44 (by kernel_rfl) rfl (by decide) Ia) h_1
  rw [c44,List.getElem?_eq_getElem (by omega)] at h_2
  obtain ⟨x2,r2,o2⟩:=(Db (s:=3) Tryz.underlying44 (by kernel_rfl) rfl (by decide) Ia) h_2
  rw [c45,List.getElem?_eq_getElem (by omega)] at h_3
  obtain ⟨x3,r3,o3⟩:=(Db (s:=4) Tryz.underlying45 (by kernel_rfl) rfl (by decide) Jc) h_3
  rw [c45,List.getElem?_eq_getElem (by omega)] at h_4
  obtain ⟨x4,r4,o4⟩:=(Db (s:=4) Tryz.underlying45 (by kernel_rfl) rfl (by decide) Jc) h_4
  rw [c46,List.getElem?_eq_getElem (by omega)] at h_5
  obtain ⟨x5,r5,o5⟩:=(Db (s:=2) Tryz.underlying46 (by kernel_rfl) rfl (by decide) Oe) h_5
  refine ⟨⟨x0,x1,x2,x3,x4,x5⟩,?_,⟨o0,o1,o2,o3,o4,o5⟩⟩
  show Enc.rep (α:=(List (List api_Cell))×(List api_Cell)×(List api_Cell)×(List api_Thread)×(List api_Thread)×(List api_Claim)) (hp W) cs (x0,x1,x2,x3,x4,x5)
  rw [List.take_of_length_le (by rw [List.length_drop,hl];decide)] at r5
  exact ⟨_,_,(Du (cs:=cs) (o:=0) (s:=1) rfl),r0,_,_,(Du (cs:=cs) (o:=1) (s:=1) rfl),r1,_,_,(Du (cs:=cs) (o:=2) (s:=1) rfl),r2,_,_,(Du (cs:=cs) (o:=3) (s:=1) rfl),r3,_,_,(Du (cs:=cs) (o:=4) (s:=1) rfl),r4,r5⟩
theorem own:ownKnob Tryz.prog.godebug=none:=by kernel_rfl
theorem laid:laidOutB Tryz.prog=true:=by kernel_rfl
def N9 : List (String × DataW Unit) := [("math/bits.deBruijn32tab", Go.Proofs.YtbblmeecfimnkaaGreatDoor.Rows.laid_math_bits_deBruijn32tab), ("math/bits.deBruijn64tab", Go.Proofs.YtbblmeecfimnkaaGreatDoor.Rows.laid_math_bits_deBruijn64tab), ("internal/strconv.uint64pow10", Go.Proofs.YtbblmeecfimnkaaGreatDoor.Rows.laid_internal_strconv_uint64pow10), ("unicode.White_Space", Go.Proofs.YtbblmeecfimnkaaGreatDoor.Rows.laid_unicode_White_Space), ("strings.asciiSpace", Go.Proofs.YtbblmeecfimnkaaGreatDoor.Rows.laid_strings_asciiSpace)]
theorem JaU:(Go.Proofs.YtbblmeecfimnkaaGreatDoor.Rows.laid_internal_strconv_uint64pow10:DataW Unit)=Lib.tabData .u64 Lib.pow10Tab:=by rfl
theorem Jaz:(Go.Proofs.YtbblmeecfimnkaaGreatDoor.Rows.laid_strings_asciiSpace:DataW Unit)=Lib.tabData .u8 Lib.asciiSpaceTab:=by kernel_rfl
theorem Jbv : Tryz.prog.globalNamed "internal/strconv.uint64pow10" = some 2 := by kernel_rfl
theorem Jbj : Tryz.prog.globalNamed "strings.asciiSpace" = some 0 := by kernel_rfl
theorem Rs {W:World} (h:laidMet Tryz.prog N9 W):Tab (hp W):=by
  have h1:=h.tail.tail
  have h3:=h1.tail.tail
  rw [JaU] at h1
  rw [Jaz] at h3
  have h2:=Lib.tabIs_of_head (g:=2) (t:=213) (e:=203) (n:=20) Jbv (by kernel_rfl) (by kernel_rfl) (by kernel_rfl) (by kernel_rfl) (by kernel_rfl) h1
  have h4:=Lib.tabIs_of_head (g:=0) (t:=126) (e:=5) (n:=256) Jbj (by kernel_rfl) (by kernel_rfl) (by kernel_rfl) (by kernel_rfl) (by kernel_rfl) h3
  intro w hle
  constructor
  · unfold Lib.TabIs World.var? at h2 ⊢
    rw [Jbv] at h2 ⊢
    simp only [Option.bind_some] at h2 ⊢
    split at h2
    · rename_i cs t fr hc
      rw [show w.heap[2]? = some (.cells cs t fr) from hle 2 _ hc]
      exact h2
    · cases h2
  · unfold Lib.TabIs World.var? at h4 ⊢
    rw [Jbj] at h4 ⊢
    simp only [Option.bind_some] at h4 ⊢
    split at h4
    · rename_i cs t fr hc
      rw [show w.heap[0]? = some (.cells cs t fr) from hle 0 _ hc]
      exact h4
    · cases h4
noncomputable def N4 (os:Os):World:=World.laidAll Tryz.prog os N9
theorem Yw (os:Os) (args:Array Value):laidMet Tryz.prog N9 ((N4 os).forCall (fun _ _=>0) ⟨#[],args,[]⟩).memory:=
  laidMet_laidAll args (by kernel_rfl) (by kernel_rfl)
end Go.LM.BINZ
