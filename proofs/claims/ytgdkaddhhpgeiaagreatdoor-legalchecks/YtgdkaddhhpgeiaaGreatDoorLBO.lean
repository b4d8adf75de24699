/- What came in at the seat lb, and Hw its library reads. No condition: plain lemmas. -/
import Derived.Test.YtgdkaddhhpgeiaaGreatDoorLO
import Derived.Test.YtgdkaddhhpgeiaaGreatDoorLW
import Derived.Test.YtgdkaddhhpgeiaaGreatDoorLBB
import Derived.Test.YtgdkaddhhpgeiaaGreatDoorRows
import Derived.LaidLaws
import Derived.Shelf.Vars
namespace Go.LM.LB
open Go Go.LL Go.MD Go.LM Go.MD.LB Go.Proofs Go.ChangeShapes Go.WideShapes Go.ChangeAt Go.RowKit Go.WideElems
theorem Ha:Op Tryz.prog 53 api_Cell (fun _=>True):=fun {H enc W base sp held n cs y} h=>by
  obtain ⟨xs,n,_,_,hl,hlen,hf⟩:=DataW.trod_struct Tryz.underlying53 h
  have cT:Tryz.prog.cellsOf 53=3:=by kernel_rfl
  have c3:Tryz.prog.cellsOf 3=1:=by kernel_rfl
  have c9:Tryz.prog.cellsOf 9=1:=by kernel_rfl
  rw [cT] at hl
  have h5:xs.length=3:=hlen
  have h_0:DataW.trod enc Tryz.prog W base sp held n 9 ((cs.drop 0).take (Tryz.prog.cellsOf 9))=xs[0]?:=hf 0 _ rfl
  have h_1:DataW.trod enc Tryz.prog W base sp held n 3 ((cs.drop 1).take (Tryz.prog.cellsOf 3))=xs[1]?:=hf 1 _ rfl
  have h_2:DataW.trod enc Tryz.prog W base sp held n 3 ((cs.drop 2).take (Tryz.prog.cellsOf 3))=xs[2]?:=hf 2 _ rfl
  rw [c9,List.getElem?_eq_getElem (by omega)] at h_0
  obtain ⟨x0,r0,o0⟩:=(Jo Tryz.underlying9) h_0
  rw [c3,List.getElem?_eq_getElem (by omega)] at h_1
  obtain ⟨x1,r1,o1⟩:=(Er Tryz.underlying3) h_1
  rw [c3,List.getElem?_eq_getElem (by omega)] at h_2
  obtain ⟨x2,r2,o2⟩:=(Er Tryz.underlying3) h_2
  refine ⟨⟨x0,x1,x2⟩,?_,trivial⟩
  show Enc.rep (α:=List UInt8×Int×Int) (hp W) cs (x0,x1,x2)
  rw [Mw (by rw [hl])] at r2
  exact ⟨_,_,(Dj (cs:=cs) (o:=0) (s:=1) rfl),r0,_,_,(Dj (cs:=cs) (o:=1) (s:=1) rfl),r1,r2⟩
theorem Hg:Op Tryz.prog 90 api_Node (fun _=>True):=fun {H enc W base sp held n cs y} h=>by
  obtain ⟨xs,n,_,_,hl,hlen,hf⟩:=DataW.trod_struct Tryz.underlying90 h
  have cT:Tryz.prog.cellsOf 90=4:=by kernel_rfl
  have c3:Tryz.prog.cellsOf 3=1:=by kernel_rfl
  have c9:Tryz.prog.cellsOf 9=1:=by kernel_rfl
  rw [cT] at hl
  have h5:xs.length=4:=hlen
  have h_0:DataW.trod enc Tryz.prog W base sp held n 3 ((cs.drop 0).take (Tryz.prog.cellsOf 3))=xs[0]?:=hf 0 _ rfl
  have h_1:DataW.trod enc Tryz.prog W base sp held n 3 ((cs.drop 1).take (Tryz.prog.cellsOf 3))=xs[1]?:=hf 1 _ rfl
  have h_2:DataW.trod enc Tryz.prog W base sp held n 9 ((cs.drop 2).take (Tryz.prog.cellsOf 9))=xs[2]?:=hf 2 _ rfl
  have h_3:DataW.trod enc Tryz.prog W base sp held n 3 ((cs.drop 3).take (Tryz.prog.cellsOf 3))=xs[3]?:=hf 3 _ rfl
  rw [c3,List.getElem?_eq_getElem (by omega)] at h_0
  obtain ⟨x0,r0,o0⟩:=(Er Tryz.underlying3) h_0
  rw [c3,List.getElem?_eq_getElem (by omega)] at h_1
  obtain ⟨x1,r1,o1⟩:=(Er Tryz.underlying3) h_1
  rw [c9,List.getElem?_eq_getElem (by omega)] at h_2
  obtain ⟨x2,r2,o2⟩:=(Jo Tryz.underlying9) h_2
  rw [c3,List.getElem?_eq_getElem (by omega)] at h_3
  obtain ⟨x3,r3,o3⟩:=(Er Tryz.underlying3) h_3
  refine ⟨⟨x0,x1,x2,x3⟩,?_,trivial⟩
  show Enc.rep (α:=Int×Int×List UInt8×Int) (hp W) cs (x0,x1,x2,x3)
  rw [Mw (by rw [hl])] at r3
  exact ⟨_,_,(Dj (cs:=cs) (o:=0) (s:=1) rfl),r0,_,_,(Dj (cs:=cs) (o:=1) (s:=1) rfl),r1,_,_,(Dj (cs:=cs) (o:=2) (s:=1) rfl),r2,r3⟩
theorem Pn:Op Tryz.prog 51 api_Stmt (fun _=>True):=fun {H enc W base sp held n cs y} h=>by
  obtain ⟨xs,n,_,_,hl,hlen,hf⟩:=DataW.trod_struct Tryz.underlying51 h
  have cT:Tryz.prog.cellsOf 51=9:=by kernel_rfl
  have c3:Tryz.prog.cellsOf 3=1:=by kernel_rfl
  have c9:Tryz.prog.cellsOf 9=1:=by kernel_rfl
  have c49:Tryz.prog.cellsOf 49=1:=by kernel_rfl
  rw [cT] at hl
  have h5:xs.length=9:=hlen
  have h_0:DataW.trod enc Tryz.prog W base sp held n 3 ((cs.drop 0).take (Tryz.prog.cellsOf 3))=xs[0]?:=hf 0 _ rfl
  have h_1:DataW.trod enc Tryz.prog W base sp held n 9 ((cs.drop 1).take (Tryz.prog.cellsOf 9))=xs[1]?:=hf 1 _ rfl
  have h_2:DataW.trod enc Tryz.prog W base sp held n 9 ((cs.drop 2).take (Tryz.prog.cellsOf 9))=xs[2]?:=hf 2 _ rfl
  have h_3:DataW.trod enc Tryz.prog W base sp held n 49 ((cs.drop 3).take (Tryz.prog.cellsOf 49))=xs[3]?:=hf 3 _ rfl
  have h_4:DataW.trod enc Tryz.prog W base sp held n 49 ((cs.drop 4).take (Tryz.prog.cellsOf 49))=xs[4]?:=hf 4 _ rfl
  have h_5:DataW.trod enc Tryz.prog W base sp held n 3 ((cs.drop 5).take (Tryz.prog.cellsOf 3))=xs[5]?:=hf 5 _ rfl
  have h_6:DataW.trod enc Tryz.prog W base sp held n 3 ((cs.drop 6).take (Tryz.prog.cellsOf 3))=xs[6]?:=hf 6 _ rfl
  have h_7:DataW.trod enc Tryz.prog W base sp held n 3 ((cs.drop 7).take (Tryz.prog.cellsOf 3))=xs[7]?:=hf 7 _ rfl
  have h_8:DataW.trod enc Tryz.prog W base sp held n 3 ((cs.drop 8).take (Tryz.prog.cellsOf 3))=xs[8]?:=hf 8 _ rfl
  rw [c3,List.getElem?_eq_getElem (by omega)] at h_0
  obtain ⟨x0,r0,o0⟩:=(Er Tryz.underlying3) h_0
  rw [c9,List.getElem?_eq_getElem (by omega)] at h_1
  obtain ⟨x1,r1,o1⟩:=(Jo Tryz.underlying9) h_1
  rw [c9,List.getElem?_eq_getElem (by omega)] at h_2
  obtain ⟨x2,r2,o2⟩:=(Jo Tryz.underlying9) h_2
  rw [c49,List.getElem?_eq_getElem (by omega)] at h_3
  obtain ⟨x3,r3,o3⟩:=(Cu (s:=4) Tryz.underlying49 (by kernel_rfl) rfl (by decide) Hg) h_3
  rw [c49,List.getElem?_eq_getElem (by omega)] at h_4
  obtain ⟨x4,r4,o4⟩:=(Cu (s:=4) Tryz.underlying49 (by kernel_rfl) rfl (by decide) Hg) h_4
  rw [c3,List.getElem?_eq_getElem (by omega)] at h_5
  obtain ⟨x5,r5,o5⟩:=(Er Tryz.underlying3) h_5
  rw [c3,List.getElem?_eq_getElem (by omega)] at h_6
  obtain ⟨x6,r6,o6⟩:=(Er Tryz.underlying3) h_6
  rw [c3,List.getElem?_eq_getElem (by omega)] at h_7
  obtain ⟨x7,r7,o7⟩:=(Er Tryz.underlying3) h_7
  rw [c3,List.getElem?_eq_getElem (by omega)] at h_8
  obtain ⟨x8,r8,o8⟩:=(Er Tryz.underlying3) h_8
  refine ⟨⟨x0,x1,x2,x3,x4,x5,x6,x7,x8⟩,?_,trivial⟩
  show Enc.rep (α:=Int×List UInt8×List UInt8×List api_Node×List api_Node×Int×Int×Int×Int) (hp W) cs (x0,x1,x2,x3,x4,x5,x6,x7,x8)
  rw [Mw (by rw [hl])] at r8
  exact ⟨_,_,(Dj (cs:=cs) (o:=0) (s:=1) rfl),r0,_,_,(Dj (cs:=cs) (o:=1) (s:=1) rfl),r1,_,_,(Dj (cs:=cs) (o:=2) (s:=1) rfl),r2,_,_,(Dj (cs:=cs) (o:=3) (s:=1) rfl),r3,_,_,(Dj (cs:=cs) (o:=4) (s:=1) rfl),r4,_,_,(Dj (cs:=cs) (o:=5) (s:=1) rfl),r5,_,_,(Dj (cs:=cs) (o:=6) (s:=1) rfl),r6,_,_,(Dj (cs:=cs) (o:=7) (s:=1) rfl),r7,r8⟩
theorem Ia:Op Tryz.prog 48 api_Thread (fun _=>True):=fun {H enc W base sp held n cs y} h=>by
  obtain ⟨xs,n,_,_,hl,hlen,hf⟩:=DataW.trod_struct Tryz.underlying48 h
  have cT:Tryz.prog.cellsOf 48=4:=by kernel_rfl
  have c3:Tryz.prog.cellsOf 3=1:=by kernel_rfl
  have c9:Tryz.prog.cellsOf 9=1:=by kernel_rfl
  have c36:Tryz.prog.cellsOf 36=1:=by kernel_rfl
  have c46:Tryz.prog.cellsOf 46=1:=by kernel_rfl
  rw [cT] at hl
  have h5:xs.length=4:=hlen
  have h_0:DataW.trod enc Tryz.prog W base sp held n 9 ((cs.drop 0).take (Tryz.prog.cellsOf 9))=xs[0]?:=hf 0 _ rfl
  have h_1:DataW.trod enc Tryz.prog W base sp held n 36 ((cs.drop 1).take (Tryz.prog.cellsOf 36))=xs[1]?:=hf 1 _ rfl
  have h_2:DataW.trod enc Tryz.prog W base sp held n 46 ((cs.drop 2).take (Tryz.prog.cellsOf 46))=xs[2]?:=hf 2 _ rfl
  have h_3:DataW.trod enc Tryz.prog W base sp held n 3 ((cs.drop 3).take (Tryz.prog.cellsOf 3))=xs[3]?:=hf 3 _ rfl
  rw [c9,List.getElem?_eq_getElem (by omega)] at h_0
  obtain ⟨x0,r0,o0⟩:=(Jo Tryz.underlying9) h_0
  rw [c36,List.getElem?_eq_getElem (by omega)] at h_1
  obtain ⟨x1,r1,o1⟩:=(Cu (s:=1) Tryz.underlying36 (by kernel_rfl) rfl (by decide) (Jo Tryz.underlying9)) h_1
  rw [c46,List.getElem?_eq_getElem (by omega)] at h_2
  obtain ⟨x2,r2,o2⟩:=(Cu (s:=9) Tryz.underlying46 (by kernel_rfl) rfl (by decide) Pn) h_2
  rw [c3,List.getElem?_eq_getElem (by omega)] at h_3
  obtain ⟨x3,r3,o3⟩:=(Er Tryz.underlying3) h_3
  refine ⟨⟨x0,x1,x2,x3⟩,?_,trivial⟩
  show Enc.rep (α:=List UInt8×List (List UInt8)×List api_Stmt×Int) (hp W) cs (x0,x1,x2,x3)
  rw [Mw (by rw [hl])] at r3
  exact ⟨_,_,(Dj (cs:=cs) (o:=0) (s:=1) rfl),r0,_,_,(Dj (cs:=cs) (o:=1) (s:=1) rfl),r1,_,_,(Dj (cs:=cs) (o:=2) (s:=1) rfl),r2,r3⟩
theorem Ni:Op Tryz.prog 74 api_Claim (fun _=>True):=fun {H enc W base sp held n cs y} h=>by
  obtain ⟨xs,n,_,_,hl,hlen,hf⟩:=DataW.trod_struct Tryz.underlying74 h
  have cT:Tryz.prog.cellsOf 74=2:=by kernel_rfl
  have c3:Tryz.prog.cellsOf 3=1:=by kernel_rfl
  have c49:Tryz.prog.cellsOf 49=1:=by kernel_rfl
  rw [cT] at hl
  have h5:xs.length=2:=hlen
  have h_0:DataW.trod enc Tryz.prog W base sp held n 49 ((cs.drop 0).take (Tryz.prog.cellsOf 49))=xs[0]?:=hf 0 _ rfl
  have h_1:DataW.trod enc Tryz.prog W base sp held n 3 ((cs.drop 1).take (Tryz.prog.cellsOf 3))=xs[1]?:=hf 1 _ rfl
  rw [c49,List.getElem?_eq_getElem (by omega)] at h_0
  obtain ⟨x0,r0,o0⟩:=(Cu (s:=4) Tryz.underlying49 (by kernel_rfl) rfl (by decide) Hg) h_0
  rw [c3,List.getElem?_eq_getElem (by omega)] at h_1
  obtain ⟨x1,r1,o1⟩:=(Er Tryz.underlying3) h_1
  refine ⟨⟨x0,x1⟩,?_,trivial⟩
  show Enc.rep (α:=List api_Node×Int) (hp W) cs (x0,x1)
  rw [Mw (by rw [hl])] at r1
  exact ⟨_,_,(Dj (cs:=cs) (o:=0) (s:=1) rfl),r0,r1⟩
theorem Oe:Op Tryz.prog 27 api_Prog (fun _=>True):=fun {H enc W base sp held n cs y} h=>by
  obtain ⟨xs,n,_,_,hl,hlen,hf⟩:=DataW.trod_struct Tryz.underlying27 h
  have cT:Tryz.prog.cellsOf 27=6:=by kernel_rfl
  have c22:Tryz.prog.cellsOf 22=1:=by kernel_rfl
  have c23:Tryz.prog.cellsOf 23=1:=by kernel_rfl
  have c24:Tryz.prog.cellsOf 24=1:=by kernel_rfl
  have c25:Tryz.prog.cellsOf 25=1:=by kernel_rfl
  rw [cT] at hl
  have h5:xs.length=6:=hlen
  have h_0:DataW.trod enc Tryz.prog W base sp held n 22 ((cs.drop 0).take (Tryz.prog.cellsOf 22))=xs[0]?:=hf 0 _ rfl
  have h_1:DataW.trod enc Tryz.prog W base sp held n 23 ((cs.drop 1).take (Tryz.prog.cellsOf 23))=xs[1]?:=hf 1 _ rfl
  have h_2:DataW.trod enc Tryz.prog W base sp held n 23 ((cs.drop 2).take (Tryz.prog.cellsOf 23))=xs[2]?:=hf 2 _ rfl
  have h_3:DataW.trod enc Tryz.prog W base sp held n 24 ((cs.drop 3).take (Tryz.prog.cellsOf 24))=xs[3]?:=hf 3 _ rfl
  have h_4:DataW.trod enc Tryz.prog W base sp held n 24 ((cs.drop 4).take (Tryz.prog.cellsOf 24))=xs[4]?:=hf 4 _ rfl
  have h_5:DataW.trod enc Tryz.prog W base sp held n 25 ((cs.drop 5).take (Tryz.prog.cellsOf 25))=xs[5]?:=hf 5 _ rfl
  rw [c22,List.getElem?_eq_getElem (by omega)] at h_0
  obtain ⟨x0,r0,o0⟩:=(Cu (s:=1) Tryz.underlying22 (by kernel_rfl) rfl (by decide) (Cu (s:=3) Tryz.underlying23 (by kernel_rfl) rfl (by decide) Ha)) h_0
  rw [c23,List.getElem?_eq_getElem (by omega)] at h_1
  obtain ⟨x1,r1,o1⟩:=(Cu (s:=3) Tryz.underlying23 (by kernel_rfl) rfl (by decide) Ha) h_1
  rw [c23,List.getElem?_eq_getElem (by omega)] at h_2
  obtain ⟨x2,r2,o2⟩:=(Cu (s:=3) Tryz.underlying23 (by kernel_rfl) rfl (by decide) Ha) h_2
  rw [c24,List.getElem?_eq_getElem (by omega)] at h_3
  obtain ⟨x3,r3,o3⟩:=(Cu (s:=4) Tryz.underlying24 (by kernel_rfl) rfl (by decide) Ia) h_3
  rw [c24,List.getElem?_eq_getElem (by omega)] at h_4
  obtain ⟨x4,r4,o4⟩:=(Cu (s:=4) Tryz.underlying24 (by kernel_rfl) rfl (by decide) Ia) h_4
  rw [c25,List.getElem?_eq_getElem (by omega)] at h_5
  obtain ⟨x5,r5,o5⟩:=(Cu (s:=2) Tryz.underlying25 (by kernel_rfl) rfl (by decide) Ni) h_5
  refine ⟨⟨x0,x1,x2,x3,x4,x5⟩,?_,trivial⟩
  show Enc.rep (α:=List (List api_Cell)×List api_Cell×List api_Cell×List api_Thread×List api_Thread×List api_Claim) (hp W) cs (x0,x1,x2,x3,x4,x5)
  rw [Mw (by rw [hl])] at r5
  exact ⟨_,_,(Dj (cs:=cs) (o:=0) (s:=1) rfl),r0,_,_,(Dj (cs:=cs) (o:=1) (s:=1) rfl),r1,_,_,(Dj (cs:=cs) (o:=2) (s:=1) rfl),r2,_,_,(Dj (cs:=cs) (o:=3) (s:=1) rfl),r3,_,_,(Dj (cs:=cs) (o:=4) (s:=1) rfl),r4,r5⟩
theorem own:ownKnob Tryz.prog.godebug=none:=by kernel_rfl
theorem laid:laidOutB Tryz.prog=true:=by kernel_rfl
def Rx : List (String × DataW Unit) := [("unicode/utf8.acceptRanges", Go.Proofs.YtgdkaddhhpgeiaaGreatDoor.Rows.laid_unicode_utf8_acceptRanges), ("unicode/utf8.first", Go.Proofs.YtgdkaddhhpgeiaaGreatDoor.Rows.laid_unicode_utf8_first)]
theorem Nl {W:World} (h:W.ShapedOpen Tryz.prog):Tab (hp W):=by
  obtain ⟨m,hm⟩:=cell_of_shapedOpen_int (g:=0) (t:=3) (k:=.i64) (zero:=#[.int .i64 0]) h (Nat.le_of_ble_eq_true (by kernel_rfl)) (by kernel_rfl) rfl (by kernel_rfl) (by kernel_rfl) Tryz.underlying3
  intro w hle
  refine ⟨m,?_⟩
  rw [← Hu] at hm
  exact hle.cell hm
def Tn:DataW Unit→List Value
  | .agg ds=>ds.map fun | .lit (.int k z)=>.int k z | _=>.bool false
  | .lit (.int k z)=>[.int k z]
  | _=>[]
def Jac:DataW Unit→List Value
  | .agg ds=>ds.flatMap Tn
  | _=>[]
noncomputable def Mq (os:Os):World:=
  let w0:=World.holding Tryz.prog os ⟨#[],#[],[]⟩
  { w0 with heap:=((w0.heap.modify 1 fun
      | .cells _ t frozen=>.cells (Tn Go.Proofs.YtgdkaddhhpgeiaaGreatDoor.Rows.laid_unicode_utf8_first).toArray t frozen
      | o=>o).modify 2 fun
      | .cells _ t frozen=>.cells (Jac Go.Proofs.YtgdkaddhhpgeiaaGreatDoor.Rows.laid_unicode_utf8_acceptRanges).toArray t frozen
      | o=>o) }
theorem Vh (os:Os) (args:Array Value):laidMet Tryz.prog Rx ((Mq os).forCall (fun _ _=>0) ⟨#[],args,[]⟩).memory:=
  laidMet_of_run' 8 (by kernel_rfl) (by kernel_rfl)
end Go.LM.LB
