/- What came in at the seat swaps, and Jb its library reads. No condition: plain lemmas. -/
import Derived.Test.YtchhelkhllkpkaaGreatDoorLM
import Derived.Test.YtchhelkhllkpkaaGreatDoorSWP
import Derived.Test.YtchhelkhllkpkaaGreatDoorRows
import Derived.LaidLaws
import Derived.Lay
import Derived.Shelf.Vars
set_option linter.unusedSectionVars false
namespace Go.LM.SWAPS
open Go Go.LL Go.MD Go.LM Go.MD.SWAPS Go.Proofs Go.ChangeShapes Go.WideShapes Go.ChangeAt Go.RowKit Go.WideElems
theorem Gc {P:Program} {t:TypeId} {α:Type} [Enc α] {ok:α→Prop} (hop:Op P t α ok) {H:Type} {enc:TypeId×Value→H} {W:World} {base:Nat} {sp:Nat→Bool} {held:Bool} {n:Nat} {cs:List Value} {xs:List (DataW H×List MemPlace)} {o i s:Nat}
    (h:DataW.trod enc P W base sp held n t ((cs.drop o).take (P.cellsOf t))=xs[i]?) (hi:i < xs.length) (hc:P.cellsOf t=s):∃ x:α,Enc.rep (hp W) ((cs.drop o).take s) x:=by
  rw [hc,kxq hi] at h
  exact (hop h).imp fun _ q=>q.1
theorem Kl:Op Tryz.prog 134 api_Cell fun _=>True:=fun {H enc W base sp held n cs y} h=>by
  obtain ⟨xs,n,_,_,hl,hlen,hf⟩:=DataW.trod_struct Tryz.underlying134 h
  rw [show Tryz.prog.cellsOf 134=3 by kernel_rfl] at hl
  have h5:xs.length=3:=hlen
  obtain ⟨x0,r0⟩:=Gc (Ol Tryz.underlying9) (hf 0 _ rfl) (by omega) (s:=1) (by kernel_rfl)
  obtain ⟨x1,r1⟩:=Gc (Fv Tryz.underlying3) (hf 1 _ rfl) (by omega) (s:=1) (by kernel_rfl)
  obtain ⟨x2,r2⟩:=Gc (Fv Tryz.underlying3) (hf 2 _ rfl) (by omega) (s:=1) (by kernel_rfl)
  refine ⟨⟨x0,x1,x2⟩,?_,trivial⟩
  show Enc.rep (α:=(List UInt8)×Int×Int) (hp W) cs (x0,x1,x2)
  rw [Tf hl] at r2
  exact ⟨_,_,Ep (cs:=cs) (o:=0) (s:=1) rfl,r0,_,_,Ep (s:=1) rfl,r1,r2⟩
theorem Kv:Op Tryz.prog 141 api_Node fun _=>True:=fun {H enc W base sp held n cs y} h=>by
  obtain ⟨xs,n,_,_,hl,hlen,hf⟩:=DataW.trod_struct Tryz.underlying141 h
  rw [show Tryz.prog.cellsOf 141=4 by kernel_rfl] at hl
  have h5:xs.length=4:=hlen
  obtain ⟨x0,r0⟩:=Gc (Fv Tryz.underlying3) (hf 0 _ rfl) (by omega) (s:=1) (by kernel_rfl)
  obtain ⟨x1,r1⟩:=Gc (Fv Tryz.underlying3) (hf 1 _ rfl) (by omega) (s:=1) (by kernel_rfl)
  obtain ⟨x2,r2⟩:=Gc (Ol Tryz.underlying9) (hf 2 _ rfl) (by omega) (s:=1) (by kernel_rfl)
  obtain ⟨x3,r3⟩:=Gc (Fv Tryz.underlying3) (hf 3 _ rfl) (by omega) (s:=1) (by kernel_rfl)
  refine ⟨⟨x0,x1,x2,x3⟩,?_,trivial⟩
  show Enc.rep (α:=Int×Int×(List UInt8)×Int) (hp W) cs (x0,x1,x2,x3)
  rw [Tf hl] at r3
  exact ⟨_,_,Ep (cs:=cs) (o:=0) (s:=1) rfl,r0,_,_,Ep (s:=1) rfl,r1,_,_,Ep (s:=1) rfl,r2,r3⟩
theorem Wh:Op Tryz.prog 130 api_Stmt fun _=>True:=fun {H enc W base sp held n cs y} h=>by
  obtain ⟨xs,n,_,_,hl,hlen,hf⟩:=DataW.trod_struct Tryz.underlying130 h
  rw [show Tryz.prog.cellsOf 130=9 by kernel_rfl] at hl
  have h5:xs.length=9:=hlen
  obtain ⟨x0,r0⟩:=Gc (Fv Tryz.underlying3) (hf 0 _ rfl) (by omega) (s:=1) (by kernel_rfl)
  obtain ⟨x1,r1⟩:=Gc (Ol Tryz.underlying9) (hf 1 _ rfl) (by omega) (s:=1) (by kernel_rfl)
  obtain ⟨x2,r2⟩:=Gc (Ol Tryz.underlying9) (hf 2 _ rfl) (by omega) (s:=1) (by kernel_rfl)
  obtain ⟨x3,r3⟩:=Gc (Dn (s:=4) Tryz.underlying82 (by kernel_rfl) rfl (by decide) Kv) (hf 3 _ rfl) (by omega) (s:=1) (by kernel_rfl)
  obtain ⟨x4,r4⟩:=Gc (Dn (s:=4) Tryz.underlying82 (by kernel_rfl) rfl (by decide) Kv) (hf 4 _ rfl) (by omega) (s:=1) (by kernel_rfl)
  obtain ⟨x5,r5⟩:=Gc (Fv Tryz.underlying3) (hf 5 _ rfl) (by omega) (s:=1) (by kernel_rfl)
  obtain ⟨x6,r6⟩:=Gc (Fv Tryz.underlying3) (hf 6 _ rfl) (by omega) (s:=1) (by kernel_rfl)
  obtain ⟨x7,r7⟩:=Gc (Fv Tryz.underlying3) (hf 7 _ rfl) (by omega) (s:=1) (by kernel_rfl)
  obtain ⟨x8,r8⟩:=Gc (Fv Tryz.underlying3) (hf 8 _ rfl) (by omega) (s:=1) (by kernel_rfl)
  refine ⟨⟨x0,x1,x2,x3,x4,x5,x6,x7,x8⟩,?_,trivial⟩
  show Enc.rep (α:=Int×(List UInt8)×(List UInt8)×(List api_Node)×(List api_Node)×Int×Int×Int×Int) (hp W) cs (x0,x1,x2,x3,x4,x5,x6,x7,x8)
  rw [Tf hl] at r8
  exact ⟨_,_,Ep (cs:=cs) (o:=0) (s:=1) rfl,r0,_,_,Ep (s:=1) rfl,r1,_,_,Ep (s:=1) rfl,r2,_,_,Ep (s:=1) rfl,r3,_,_,Ep (s:=1) rfl,r4,_,_,Ep (s:=1) rfl,r5,_,_,Ep (s:=1) rfl,r6,_,_,Ep (s:=1) rfl,r7,r8⟩
theorem Mf:Op Tryz.prog 78 api_Thread fun _=>True:=fun {H enc W base sp held n cs y} h=>by
  obtain ⟨xs,n,_,_,hl,hlen,hf⟩:=DataW.trod_struct Tryz.underlying78 h
  rw [show Tryz.prog.cellsOf 78=4 by kernel_rfl] at hl
  have h5:xs.length=4:=hlen
  obtain ⟨x0,r0⟩:=Gc (Ol Tryz.underlying9) (hf 0 _ rfl) (by omega) (s:=1) (by kernel_rfl)
  obtain ⟨x1,r1⟩:=Gc (Dn (s:=1) Tryz.underlying75 (by kernel_rfl) rfl (by decide) (Ol Tryz.underlying9)) (hf 1 _ rfl) (by omega) (s:=1) (by kernel_rfl)
  obtain ⟨x2,r2⟩:=Gc (Dn (s:=9) Tryz.underlying76 (by kernel_rfl) rfl (by decide) Wh) (hf 2 _ rfl) (by omega) (s:=1) (by kernel_rfl)
  obtain ⟨x3,r3⟩:=Gc (Fv Tryz.underlying3) (hf 3 _ rfl) (by omega) (s:=1) (by kernel_rfl)
  refine ⟨⟨x0,x1,x2,x3⟩,?_,trivial⟩
  show Enc.rep (α:=(List UInt8)×(List (List UInt8))×(List api_Stmt)×Int) (hp W) cs (x0,x1,x2,x3)
  rw [Tf hl] at r3
  exact ⟨_,_,Ep (cs:=cs) (o:=0) (s:=1) rfl,r0,_,_,Ep (s:=1) rfl,r1,_,_,Ep (s:=1) rfl,r2,r3⟩
theorem Uc:Op Tryz.prog 84 api_Claim fun _=>True:=fun {H enc W base sp held n cs y} h=>by
  obtain ⟨xs,n,_,_,hl,hlen,hf⟩:=DataW.trod_struct Tryz.underlying84 h
  rw [show Tryz.prog.cellsOf 84=2 by kernel_rfl] at hl
  have h5:xs.length=2:=hlen
  obtain ⟨x0,r0⟩:=Gc (Dn (s:=4) Tryz.underlying82 (by kernel_rfl) rfl (by decide) Kv) (hf 0 _ rfl) (by omega) (s:=1) (by kernel_rfl)
  obtain ⟨x1,r1⟩:=Gc (Fv Tryz.underlying3) (hf 1 _ rfl) (by omega) (s:=1) (by kernel_rfl)
  refine ⟨⟨x0,x1⟩,?_,trivial⟩
  show Enc.rep (α:=(List api_Node)×Int) (hp W) cs (x0,x1)
  rw [Tf hl] at r1
  exact ⟨_,_,Ep (cs:=cs) (o:=0) (s:=1) rfl,r0,r1⟩
theorem V9:Op Tryz.prog 27 api_Prog fun _=>True:=fun {H enc W base sp held n cs y} h=>by
  obtain ⟨xs,n,_,_,hl,hlen,hf⟩:=DataW.trod_struct Tryz.underlying27 h
  rw [show Tryz.prog.cellsOf 27=6 by kernel_rfl] at hl
  have h5:xs.length=6:=hlen
  obtain ⟨x0,r0⟩:=Gc (Dn (s:=1) Tryz.underlying22 (by kernel_rfl) rfl (by decide) (Dn (s:=3) Tryz.underlying23 (by kernel_rfl) rfl (by decide) Kl)) (hf 0 _ rfl) (by omega) (s:=1) (by kernel_rfl)
  obtain ⟨x1,r1⟩:=Gc (Dn (s:=3) Tryz.underlying23 (by kernel_rfl) rfl (by decide) Kl) (hf 1 _ rfl) (by omega) (s:=1) (by kernel_rfl)
  obtain ⟨x2,r2⟩:=Gc (Dn (s:=3) Tryz.underlying23 (by kernel_rfl) rfl (by decide) Kl) (hf 2 _ rfl) (by omega) (s:=1) (by kernel_rfl)
  obtain ⟨x3,r3⟩:=Gc (Dn (s:=4) Tryz.underlying24 (by kernel_rfl) rfl (by decide) Mf) (hf 3 _ rfl) (by omega) (s:=1) (by kernel_rfl)
  obtain ⟨x4,r4⟩:=Gc (Dn (s:=4) Tryz.underlying24 (by kernel_rfl) rfl (by decide) Mf) (hf 4 _ rfl) (by omega) (s:=1) (by kernel_rfl)
  obtain ⟨x5,r5⟩:=Gc (Dn (s:=2) Tryz.underlying25 (by kernel_rfl) rfl (by decide) Uc) (hf 5 _ rfl) (by omega) (s:=1) (by kernel_rfl)
  refine ⟨⟨x0,x1,x2,x3,x4,x5⟩,?_,trivial⟩
  show Enc.rep (α:=(List (List api_Cell))×(List api_Cell)×(List api_Cell)×(List api_Thread)×(List api_Thread)×(List api_Claim)) (hp W) cs (x0,x1,x2,x3,x4,x5)
  rw [Tf hl] at r5
  exact ⟨_,_,Ep (cs:=cs) (o:=0) (s:=1) rfl,r0,_,_,Ep (s:=1) rfl,r1,_,_,Ep (s:=1) rfl,r2,_,_,Ep (s:=1) rfl,r3,_,_,Ep (s:=1) rfl,r4,r5⟩
theorem JcW {h:PH} {cs:List Value} {x:Arr 2 Int} (hr:Enc.rep h cs x):∃ y1 y2:Int,cs=[.int .i64 y1,.int .i64 y2]:=by
  obtain ⟨l,hl⟩:=x
  have hr:Rows h cs l:=hr
  match l,hl with
  | [y1, y2], _ =>
    refine ⟨y1,y2,?_⟩
    cases hr with
    | cons h1 hr =>
      cases hr with
      | cons h2 hr =>
        cases hr
        rw [show _=_ from h1,show _=_ from h2]
        rfl
theorem own:ownKnob Tryz.prog.godebug=none:=by kernel_rfl
theorem laid:laidOutB Tryz.prog=true:=by kernel_rfl
def Ta : List (String × DataW Unit) := [("math/bits.deBruijn32tab", Go.Proofs.YtchhelkhllkpkaaGreatDoor.Rows.laid_math_bits_deBruijn32tab), ("math/bits.deBruijn64tab", Go.Proofs.YtchhelkhllkpkaaGreatDoor.Rows.laid_math_bits_deBruijn64tab), ("internal/strconv.uint64pow10", Go.Proofs.YtchhelkhllkpkaaGreatDoor.Rows.laid_internal_strconv_uint64pow10)]
theorem Jds:(Go.Proofs.YtchhelkhllkpkaaGreatDoor.Rows.laid_internal_strconv_uint64pow10:DataW Unit)=Lib.tabData .u64 Lib.pow10Tab:=by rfl
theorem Jer : Tryz.prog.globalNamed "internal/strconv.uint64pow10" = some 0 := by kernel_rfl
theorem Vq {W:World} (h:laidMet Tryz.prog Ta W):Tab (hp W):=by
  have h1:=h.tail.tail
  rw [Jds] at h1
  have h2:=Lib.tabIs_of_head (g:=0) (t:=202) (e:=196) (n:=20) Jer (by kernel_rfl) (by kernel_rfl) (by kernel_rfl) (by kernel_rfl) (by kernel_rfl) h1
  intro w hle
  unfold Lib.TabIs World.var? at h2 ⊢
  rw [Jer] at h2 ⊢
  simp only [kxa] at h2 ⊢
  split at h2
  · rename_i cs t fr hc
    rw [show w.heap[0]? = some (.cells cs t fr) from hle 0 _ hc]
    exact h2
  · cases h2
noncomputable def Sx (os:Os):World:=World.laidAll Tryz.prog os Ta
theorem Jda (os:Os) (args:Array Value):laidMet Tryz.prog Ta ((Sx os).forCall (fun _ _=>0) ⟨#[],args,[]⟩).memory:=
  laidMet_laidAll args (by kernel_rfl) (by kernel_rfl)
end Go.LM.SWAPS
namespace Go.MD.SWM
structure W where
  n:Nat
  isA:Nat→Bool
  isC:Nat→Bool
  rg:Nat→Nat
  st:Nat→Nat
structure W.Ok (c:W):Prop where
  lt:∀ j,c.isA j=true→c.st j < j
  cnt:∀ j,c.isA j=true→c.isC (c.st j)=true∧c.rg (c.st j)=c.rg j
  none:∀ j,c.isA j=true→∀ q,c.st j < q→q < j→c.isC q=true→c.rg q≠c.rg j
  apart:∀ i j,c.isA i=true→c.isA j=true→j < i→c.st i≤c.st j∨j < c.st i
  one:∀ i j,c.isA i=true→c.isA j=true→i≠j→c.st i≠c.st j
  dis:∀ j,c.isA j=true→c.isC j=false
variable {c:W}
def T:Nat:=9223372036854775810
def v (x:Int):Nat:=if 0 < x then x.toNat else 9223372036854775808
def ej (c:W) (cs:List Int) (p j:Nat):Nat:=if c.isA j=true then (if p≤c.st j then 9223372036854775809 else if p≤j then v (cs.getD (c.rg j) 0) else 0) else 0
def ms (c:W) (cs:List Int) (p:Nat):Nat→Nat
  | 0=>0
  | k+1=>ms c cs p k+ej c cs p k * T ^ k
def mu (c:W) (cs:List Int) (p:Nat):Nat:=ms c cs p c.n * (c.n+1)+(c.n - p)
def InB (cs:List Int):Prop:=∀ r,cs.getD r 0≤9223372036854775807
theorem Jg2 {x:Int} (h:x≤9223372036854775807):v x≤9223372036854775808:=by unfold v;split <;> omega
theorem JfQ {cs:List Int} (h:InB cs) (p j:Nat):ej c cs p j≤9223372036854775809:=by
  have:=Jg2 (h (c.rg j))
  unfold ej
  split
  · split
    · exact kxb _
    · split <;> omega
  · omega
theorem Vs {cs:List Int} (h:InB cs) (p:Nat):∀ k,ms c cs p k < T ^ k
  | 0=>by simp [ms]
  | k + 1 => by
    have h1:=Vs h p k
    have h2:=JfQ (c:=c) h p k
    rw [ms,Nat.pow_succ]
    have h3:ej c cs p k * T ^ k≤9223372036854775809 * T ^ k:=kyx _ h2
    have h4:T ^ k * T=9223372036854775809 * T ^ k+T ^ k:=by
      rw [Nat.mul_comm]
      show 9223372036854775810 * T ^ k=_
      rw [show (9223372036854775810:Nat)=9223372036854775809+1 from rfl,Nat.add_mul,Nat.one_mul]
    omega
theorem Je4 {cs cs':List Int} {p q:Nat}:∀ k,(∀ j,j < k→ej c cs' q j≤ej c cs p j)→ms c cs' q k≤ms c cs p k
  | 0,_=>kxb _
  | k + 1, h => by
    rw [ms,ms]
    exact Nat.add_le_add (Je4 k fun j hj=>h j (by omega)) (kyx _ (h k (by omega)))
theorem JeE {cs cs':List Int} {p q i:Nat} (hb:InB cs') (hi:ej c cs' q i < ej c cs p i):∀ k,i < k→(∀ j,i < j→j < k→ej c cs' q j≤ej c cs p j)→ms c cs' q k < ms c cs p k
  | 0,hk,_=>absurd hk (kzv _)
  | k + 1, hk, h => by
    rw [ms,ms]
    rcases Nat.lt_or_ge i k with h1 | h1
    · exact Nat.add_lt_add_of_lt_of_le (JeE hb hi k h1 fun j hj hj2=>h j hj (by omega)) (kyx _ (h k h1 (by omega)))
    · obtain rfl : i = k := by omega
      have h2:=Vs (c:=c) hb q i
      have h3:(ej c cs' q i+1) * T ^ i≤ej c cs p i * T ^ i:=kyx _ hi
      rw [Nat.add_mul,Nat.one_mul] at h3
      omega
theorem fwd (ok:c.Ok) {cs cs':List Int} {p q:Nat} (hq:p < q) (hb:InB cs') (hcs:∀ r,r≠c.rg p→cs'.getD r 0=cs.getD r 0) (hk:cs'=cs∨c.isC p=true∨(c.isA p=true∧q=p+1)) (j:Nat):ej c cs' q j≤ej c cs p j:=by
  by_cases ha:c.isA j=true
  · unfold ej
    rw [if_pos ha,if_pos ha]
    have hv:=Jg2 (hb (c.rg j))
    by_cases h1:p≤c.st j
    · rw [if_pos h1]
      split
      · exact kxb _
      · split <;> omega
    · rw [if_neg h1]
      by_cases h2:p≤j
      · rw [if_pos h2, if_neg (by omega)]
        by_cases h3:q≤j
        · rw [if_pos h3]
          have e:cs'.getD (c.rg j) 0=cs.getD (c.rg j) 0:=by
            rcases hk with rfl | hk | ⟨hk,rfl⟩
            · rfl
            · refine hcs _ fun e => ?_
              exact ok.none j ha p (by omega) (by omega) hk e.symm
            · refine hcs _ fun e => ?_
              have hpj:p < j:=by omega
              rcases ok.apart j p ha hk hpj with h4 | h4
              · have h5 := ok.one j p ha hk (by omega)
                have h6:=ok.cnt p hk
                have h7:=ok.lt p hk
                exact ok.none j ha (c.st p) (by omega) (by omega) h6.1 (by rw [h6.2];exact e.symm)
              · omega
          rw [e];exact kxb _
        · rw [if_neg h3];omega
      · rw [if_neg h2,if_neg (by omega),if_neg (by omega)];exact kxb _
  · unfold ej
    rw [if_neg ha];omega
theorem mu_fwd (ok:c.Ok) {cs cs':List Int} {p q:Nat} (hq:p < q) (hn:q≤c.n) (hb:InB cs') (hcs:∀ r,r≠c.rg p→cs'.getD r 0=cs.getD r 0) (hk:cs'=cs∨c.isC p=true∨(c.isA p=true∧q=p+1)):mu c cs' q < mu c cs p:=by
  have h1:=Je4 c.n fun j _=>fwd ok hq hb hcs hk j
  have h2:=kyx (c.n+1) h1
  unfold mu
  omega
theorem mu_back (ok:c.Ok) {cs cs':List Int} {p:Nat} (hp:c.isA p=true) (hn:p < c.n) (hb:InB cs') (hcs:∀ r,r≠c.rg p→cs'.getD r 0=cs.getD r 0) (hv:v (cs'.getD (c.rg p) 0) < v (cs.getD (c.rg p) 0)):mu c cs' (c.st p+1) < mu c cs p:=by
  have hl:=ok.lt p hp
  have h0:ej c cs' (c.st p+1) p < ej c cs p p:=by
    unfold ej
    rw [if_pos hp,if_pos hp,if_neg (by omega),if_pos (by omega),if_neg (by omega),if_pos (by omega)]
    exact hv
  have h1:ms c cs' (c.st p+1) c.n < ms c cs p c.n:=JeE hb h0 c.n hn fun j hj hj2=>by
    by_cases ha:c.isA j=true
    · unfold ej
      rw [if_pos ha,if_pos ha]
      by_cases h1:p≤c.st j
      · rw [if_pos h1,if_pos (by omega)];exact kxb _
      · rw [if_neg h1]
        have h5:=ok.one j p ha hp (by omega)
        rcases ok.apart j p ha hp hj with h4 | h4
        · rw [if_neg (by omega), if_pos (by omega), if_pos (by omega)]
          have e:cs'.getD (c.rg j) 0=cs.getD (c.rg j) 0:=by
            refine hcs _ fun e=>?_
            have h6:=ok.cnt p hp
            exact ok.none j ha (c.st p) (by omega) (by omega) h6.1 (by rw [h6.2];exact e.symm)
          rw [e];exact kxb _
        · omega
    · unfold ej
      rw [if_neg ha];omega
  have h2:(ms c cs' (c.st p+1) c.n+1) * (c.n+1)≤ms c cs p c.n * (c.n+1):=kyx _ h1
  rw [Nat.add_mul,Nat.one_mul] at h2
  unfold mu
  omega
end Go.MD.SWM
namespace Go.MD.SWAPS
open Go Go.MD
open Go.IntKind (i64)
end Go.MD.SWAPS
namespace Go.MD.SWAPS
open Go Go.MD
open Go.IntKind (i64)
def wN (k:Int):Nat:=if k=3∨k=4 then 1 else if 5≤k∧k≤15 then 2 else 0
theorem Jgv (k:Int):wN k≤2:=by unfold wN;split <;> (try split) <;> omega
def hts:List api_Op→Nat→Nat→Option (Nat×Nat)
  | [],n,h=>some (n,h)
  | x :: l,n,h=>if n < wN x.Kind then none else hts l (n - wN x.Kind+1) (max h (n - wN x.Kind+1))
def Rh (many:Int) (x:api_Op):Bool:=if x.Kind=1 then decide (0≤x.N∧x.N≤4294967296) else if x.Kind=2 then decide (0≤x.N∧x.N < many) else decide (x.N=0∧1≤x.Kind∧x.Kind≤15)
def Cg (l:List api_Op) (many:Int):Bool:=decide (l.length≤40) && (match hts l 0 0 with | some q=>decide (q.1=1) | none=>false) && l.all (Rh many)
theorem Jb2 {N:Nat} {l:List api_Op} (hl:l.length≤300000):∀ (d j n a b:Nat),j+d=l.length→d < n→a≤j→
    Z50 N Z4x l (l.length:Int) n (a:Int) (j:Int)=some (match hts (l.drop j) a b with | some q=>(q.1:Int) | none=>-1):=by
  intro d
  induction d with
  | zero =>
    intro j n a b hj hn _
    obtain ⟨n,rfl⟩:∃ m,n=m+1:=⟨n - 1,by omega⟩
    rw [Z50,if_neg (by omega),kxh (by omega)]
    rfl
  | succ d ih =>
    intro j n a b hj hn ha
    obtain ⟨n,rfl⟩:∃ m,n=m+1:=⟨n - 1,by omega⟩
    have h1:j < l.length:=by omega
    rw [Z50,if_pos (by omega),Al rfl h1]
    simp only [kxa]
    rw [kxe h1,hts]
    have fin:∀ c:Int,c=(a:Int) - (wN l[j].Kind:Int)→Z4z (Z50 N Z4x l (l.length:Int) n) (j:Int) c=some (match (if a < wN l[j].Kind then none else hts (l.drop (j+1)) (a - wN l[j].Kind+1) (max b (a - wN l[j].Kind+1))) with | some q=>(q.1:Int) | none=>-1):=by
      intro c hc
      subst hc
      have hw:=Jgv l[j].Kind
      rw [Z4z]
      by_cases hc:a < wN l[j].Kind
      · rw [if_pos (by omega),if_pos hc]
      · rw [if_neg (by omega), if_neg hc, w64 (by omega) (by omega), Bf h1 (by omega), show ((a : Int) - (wN l[j].Kind : Int) + 1) = ((a - wN l[j].Kind + 1 : Nat) : Int) by omega]
        exact ih (j+1) n _ _ (by omega) (by omega) (by omega)
    by_cases k1:l[j].Kind=3∨l[j].Kind=4
    · have hw : wN l[j].Kind = 1 := by unfold wN; rw [if_pos k1]
      rw [if_pos (by simpa using k1),Z4y,if_neg (by simp;omega),w64 (by omega) (by omega)]
      exact fin _ (by rw [hw];rfl)
    · rw [if_neg (by simpa using k1), Z4y]
      by_cases k2:5≤l[j].Kind∧l[j].Kind≤15
      · have hw : wN l[j].Kind = 2 := by unfold wN; rw [if_neg k1, if_pos k2]
        rw [if_pos (by simpa using k2),w64 (by omega) (by omega)]
        exact fin _ (by rw [hw];rfl)
      · have hw : wN l[j].Kind = 0 := by unfold wN; rw [if_neg k1, if_neg k2]
        rw [if_neg (by simpa using k2)]
        exact fin _ (by rw [hw];simp)
theorem JdU {N:Nat} {l:List api_Op} {many:Int} {q:Option Bool} (hl:l.length≤300000):∀ (d j n:Nat),j+d=l.length→d < n→
    Z4r N q l many n (j:Int)=if (l.drop j).all (Rh many)=true then q else some false:=by
  intro d
  induction d with
  | zero =>
    intro j n hj hn
    obtain ⟨n,rfl⟩:∃ m,n=m+1:=⟨n - 1,by omega⟩
    rw [Z4r,if_neg (by omega),kxh (by omega)]
    rfl
  | succ d ih =>
    intro j n hj hn
    obtain ⟨n,rfl⟩:∃ m,n=m+1:=⟨n - 1,by omega⟩
    have h1:j < l.length:=by omega
    rw [Z4r,if_pos (by omega),Al rfl h1]
    simp only [kxa]
    rw [kxe h1,kxv]
    have hc:(((((decide (l[j].Kind < 1)) || (decide (15 < l[j].Kind))) || ((decide (l[j].Kind=1)) && ((decide (l[j].N < 0)) || (decide (4294967296 < l[j].N))))) || ((decide (l[j].Kind=2)) && ((decide (l[j].N < 0)) || (decide (many≤l[j].N))))) || ((decide (2 < l[j].Kind)) && (decide (l[j].N≠0)))) = !Rh many l[j]:=by
      unfold Rh
      rw [kzi]
      by_cases e1:l[j].Kind=1
      · rw [if_pos e1];simp [e1] <;> omega
      · rw [if_neg e1]
        by_cases e2:l[j].Kind=2
        · rw [if_pos e2];simp [e2] <;> omega
        · rw [if_neg e2];simp [e1,e2] <;> omega
    rw [hc]
    cases hk:Rh many l[j] with
    | false=>simp
    | true =>
      rw [if_neg (by simp),Bf h1 (by omega),ih (j+1) n (by omega) (by omega),kyf]
theorem Jz {N:Nat} {l:List api_Op} (hl:l.length≤300000) (hN:l.length < N) (many:Int):Z4p N l many=some (Cg l many):=by
  unfold Z4p
  have h0:=JdU (N:=N) (many:=many) (q:=Z4q N l) hl l.length 0 N (by omega) hN
  rw [show ((0:Nat):Int)=0 from rfl,kxf] at h0
  rw [h0]
  unfold Cg
  cases ha:l.all (Rh many) with
  | false=>simp
  | true =>
    rw [if_pos rfl,Z4q]
    have hh:=Jb2 (N:=N) hl l.length 0 N 0 0 (by omega) hN (kxb _)
    rw [show ((0:Nat):Int)=0 from rfl,kxf] at hh
    by_cases e:1≤l.length∧l.length≤40
    · rw [if_pos (by simp; omega), Z4w, hh]
      simp only [kxa,kyy]
      congr 1
      cases hts l 0 0 with
      | none=>simp
      | some q=>simp [e.2];omega
    · rw [if_neg (by simp; omega)]
      by_cases e1:l.length=0
      · have : l = [] := kwh.1 e1
        subst this;rfl
      · have e2 : ¬ l.length ≤ 40 := by omega
        simp [e2]
end Go.MD.SWAPS
namespace Go.MD.SWAPS
open Go Go.MD
open Go.IntKind (i64)
def inB (a n:Int):Bool:=decide (0≤a) && decide (a < n)
def fA (x:api_Instr) (R C:Int):Bool:=if x.Kind=13∨x.Kind=14 then inB x.A C else if x.Kind=1∨x.Kind=2∨x.Kind=4 then inB x.A R else decide (x.A=0)
def fB (x:api_Instr) (p4 p5 p6:Int):Bool:=if x.Kind=2∨x.Kind=3∨x.Kind=4 then inB x.B p4 else if x.Kind=5∨x.Kind=6 then inB x.B p5 else if x.Kind=9∨x.Kind=10 then inB x.B p6 else if x.Kind=13 then decide (1≤x.B) && decide (x.B≤8) else decide (x.B=0)
def fE (x:api_Instr) (R:Int):Bool:=if x.Kind=1∨x.Kind=3∨x.Kind=4∨x.Kind=12∨x.Kind=15 then Cg x.E R else decide ((x.E.length:Int)=0)
def fF (x:api_Instr) (R:Int):Bool:=if x.Kind=4 then Cg x.F R else decide ((x.F.length:Int)=0)
def Ck (x:api_Instr) (R C p4 p5 p6:Int):Bool:=(decide (1≤x.Kind) && decide (x.Kind≤15)) && (fA x R C && (fB x p4 p5 p6 && (fE x R && fF x R)))
theorem Jgj {α:Type} (l:List α):decide (0 < (l.length:Int)) = !decide ((l.length:Int)=0):=by
  rcases kyz l.length with h | h
  · rw [h];rfl
  · rw [decide_eq_true (by omega),decide_eq_false (by omega)];rfl
theorem Oq {N:Nat} (hN:300000 < N) (x:api_Instr) (p:api_Code) (hE:x.E.length≤300000) (hF:x.F.length≤300000) (u v:Bool):Z6c N x p u v=some ((decide (1≤x.Kind) && decide (x.Kind≤15)) && (u && (v && (fE x p.Regs && fF x p.Regs)))):=by
  have hf:∀ b:Bool,Z6g x u v b=some ((decide (1≤x.Kind) && decide (x.Kind≤15)) && (u && (v && !b))):=by
    intro b;unfold Z6g
    cases b <;> cases u <;> cases v <;> simp
  have hk:(((((decide (x.Kind=1)) || (decide (x.Kind=3))) || (decide (x.Kind=4))) || (decide (x.Kind=12))) || (decide (x.Kind=15)))=decide (x.Kind=1∨x.Kind=3∨x.Kind=4∨x.Kind=12∨x.Kind=15):=by
    rw [kzi];simp only [kyb,decide_eq_true_eq];omega
  unfold Z6c fE fF
  rw [hk,Jz hE (by omega),Jz hF (by omega),Jgj,Jgj]
  simp only [hf]
  by_cases h1:x.Kind=1∨x.Kind=3∨x.Kind=4∨x.Kind=12∨x.Kind=15
  · by_cases h4 : x.Kind = 4
    · simp [h4];cases Cg x.E p.Regs <;> cases Cg x.F p.Regs <;> simp
    · simp only [h1,h4];cases Cg x.E p.Regs <;> cases hz:decide ((x.F.length:Int)=0) <;> simp_all
  · have h4 : ¬ x.Kind = 4 := fun h => h1 (by omega)
    simp only [h1,h4];cases hy:decide ((x.E.length:Int)=0) <;> cases hz:decide ((x.F.length:Int)=0) <;> simp_all
theorem Oh {N:Nat} (x:api_Instr) (p4 p5 p6:Int) (q:Bool→Option Bool) (b:Bool) (hb:b=decide (x.Kind=2∨x.Kind=3∨x.Kind=4)):Z6d N q x p4 p5 p6 b=q (fB x p4 p5 p6):=by
  subst hb
  unfold Z6d Z6e Z6f Z6h fB inB
  by_cases h1:x.Kind=2∨x.Kind=3∨x.Kind=4
  · simp [h1]
  · simp only [h1]
    by_cases h5:x.Kind=5
    · simp [h5]
    · by_cases h6 : x.Kind = 6
      · simp [h6]
      · by_cases h9 : x.Kind = 9
        · simp [h9]
        · by_cases h10 : x.Kind = 10
          · simp [h10]
          · by_cases h13 : x.Kind = 13
            · simp [h13]
            · simp [h5,h6,h9,h10,h13]
theorem Jbr {N:Nat} (hN:300000 < N) (x:api_Instr) (p:api_Code) (p4 p5 p6:Int) (hE:x.E.length≤300000) (hF:x.F.length≤300000):Z69 N x p p4 p5 p6=some (Ck x p.Regs p.Counts p4 p5 p6):=by
  have h2:∀ a:Bool,Z6b N x p p4 p5 p6 a=some ((decide (1≤x.Kind) && decide (x.Kind≤15)) && (a && (fB x p4 p5 p6 && (fE x p.Regs && fF x p.Regs)))):=by
    intro a
    unfold Z6b
    by_cases k2:x.Kind=2
    · rw [if_pos k2,Oh _ _ _ _ _ _ (by simp [k2]),Oq hN x p hE hF]
    · rw [if_neg k2]
      by_cases k3:x.Kind=3
      · rw [if_pos k3,Oh _ _ _ _ _ _ (by simp [k3]),Oq hN x p hE hF]
      · rw [if_neg k3,Oh _ _ _ _ _ _ (by simp [k2,k3]),Oq hN x p hE hF]
  unfold Z69 Z6a Z6h Ck fA
  simp only [h2,kxa]
  by_cases h1:x.Kind=13∨x.Kind=14
  · have : ¬ (x.Kind = 1 ∨ x.Kind = 2 ∨ x.Kind = 4) := by omega
    rcases h1 with h | h <;> simp [h,inB]
  · by_cases h3 : x.Kind = 1 ∨ x.Kind = 2 ∨ x.Kind = 4
    · rcases h3 with h | h | h <;> simp [h,inB]
    · have e1 : ((decide (x.Kind = 13)) || (decide (x.Kind = 14))) = false := by simp; omega
      have e2:(((decide (x.Kind=1)) || (decide (x.Kind=2))) || (decide (x.Kind=4)))=false:=by simp;omega
      rw [e1,e2,if_neg h1,if_neg h3];simp
end Go.MD.SWAPS
namespace Go.MD.SWAPS
open Go Go.MD
open Go.IntKind (i64)
def toB (l:List api_Instr) (i:Nat) (x:api_Instr):Bool:=
  if x.Kind=11∨x.Kind=12 then decide ((i:Int) < x.To) && decide (x.To≤(l.length:Int))
  else if x.Kind=14 then
    if x.To < 1∨(i:Int) < x.To then false
    else (match l[(x.To - 1).toNat]? with | some y=>decide (y.Kind=13) && decide (y.A=x.A) | none=>false) && !((l.take i).drop x.To.toNat).any fun y=>decide (y.Kind=13) && decide (y.A=x.A)
  else decide (x.To=0)
theorem JgQ {N:Nat} {l:List api_Instr} {i:Nat} {x:api_Instr} (hl:l.length≤300000) (hi:i≤l.length):∀ (d j n:Nat),j+d=i→d < n→Z6p N Z6o l (i:Int) x n (j:Int)=some (!((l.take i).drop j).any fun y=>decide (y.Kind=13) && decide (y.A=x.A)):=by
  intro d
  induction d with
  | zero =>
    intro j n hj hn
    obtain ⟨n,rfl⟩:∃ m,n=m+1:=⟨n - 1,by omega⟩
    rw [Z6p,if_neg (by omega),kxh (by rw [kyg];omega)]
    rfl
  | succ d ih =>
    intro j n hj hn
    obtain ⟨n,rfl⟩:∃ m,n=m+1:=⟨n - 1,by omega⟩
    have hjl:j < l.length:=by omega
    have hjt:j < (l.take i).length:=by rw [kyg];omega
    rw [Z6p,if_pos (by omega),Al rfl hjl]
    simp only [kxa]
    rw [kxe hjt,List.any_cons,List.getElem_take]
    cases hb:(decide (l[j].Kind=13) && decide (l[j].A=x.A)) with
    | true=>rfl
    | false =>
      rw [if_neg (by simp),Bf hjl (by omega),ih (j+1) n (by omega) (by omega)]
      rfl
theorem Jhk {N:Nat} {l:List api_Instr} {i:Nat} {x:api_Instr} (hl:l.length≤300000) (hN:300000 < N) (hi:l[i]? = some x):Z6m N l (i:Int)=some (toB l i x):=by
  have hil:i < l.length:=(kxn.1 hi).1
  unfold Z6m toB
  rw [Gr,hi]
  simp only [kxa]
  by_cases h0:x.Kind=11∨x.Kind=12
  · rw [if_pos (by simpa using h0),if_pos h0]
  · rw [if_neg (by simpa using h0), if_neg h0]
    by_cases hk:x.Kind=14
    · rw [if_neg (by omega), if_pos hk]
      by_cases h:x.To < 1∨(i:Int) < x.To
      · rw [if_pos (by simp;omega),if_pos h];rfl
      · rw [if_neg (by simp; omega), if_neg h]
        obtain ⟨t,ht⟩:∃ t:Nat,x.To=(t:Int)+1:=⟨(x.To - 1).toNat,by omega⟩
        have htl:t < l.length:=by omega
        rw [w64 (by omega) (by omega),ht,show (t:Int)+1 - 1=(t:Int) from by omega,Gr,kya,kxq htl]
        simp only [kxa]
        unfold Z6n
        have hc:((decide (l[t].Kind≠13)) || (decide (l[t].A≠x.A))) = !(decide (l[t].Kind=13) && decide (l[t].A=x.A)):=by simp
        rw [hc]
        cases hb:(decide (l[t].Kind=13) && decide (l[t].A=x.A)) with
        | false=>rfl
        | true =>
          rw [if_neg (by simp),ht,show ((t:Int)+1)=((t+1:Nat):Int) from by omega,JgQ hl (by omega) (i - (t+1)) (t+1) N (by omega) (by omega),kya]
          rfl
    · rw [if_pos hk,if_neg hk]
end Go.MD.SWAPS
namespace Go.MD.SWAPS
open Go Go.MD
open Go.IntKind (i64)
section
variable {k:Int} (h1:1≤k) (h2:k≤15)
include h1 h2
end
section
variable {N:Nat} (hN:300000 < N) {x:api_Instr} (h1:1≤x.Kind) (h2:x.Kind≤15) {p:api_Code} (hl:p.L.length≤300000) {j:Nat} (hx:p.L[j]? = some x) (hE:x.E.length≤300000) (hF:x.F.length≤300000)
end
theorem Jgq {N:Nat} (hN:300000 < N) {q:Option Bool} {p:api_Code} {p4 p5 p6:Int} {j n:Nat} {x:api_Instr} (hl:p.L.length≤300000) (hx:p.L[j]? = some x) (hE:x.E.length≤300000) (hF:x.F.length≤300000) :
    Z5c N q p p4 p5 p6 (n+1) (j:Int)=if (Ck x p.Regs p.Counts p4 p5 p6 && toB p.L j x)=true then Z5c N q p p4 p5 p6 n ((j+1:Nat):Int) else some false:=by
  have hjl:j < p.L.length:=(kxn.1 hx).1
  rw [Z5c,if_pos (by omega),Gr,hx]
  simp only [kxa]
  rw [Jbr hN x p p4 p5 p6 hE hF]
  simp only [kxa]
  have hj:∀ b:Bool,Z57 (Z5c N q p p4 p5 p6 n) (j:Int) b=if (!b)=true then Z5c N q p p4 p5 p6 n ((j+1:Nat):Int) else some false:=by
    intro b;unfold Z57;rw [Bf hjl (by omega)];cases b <;> rfl
  cases Ck x p.Regs p.Counts p4 p5 p6 with
  | false=>rw [if_neg (by decide),hj];rfl
  | true =>
    rw [if_pos rfl,Jhk hl hN hx]
    simp only [kxa]
    rw [hj];cases toB p.L j x <;> rfl
end Go.MD.SWAPS
namespace Go.MD.SWAPS
open Go Go.MD
open Go.IntKind (i64)
def Ko (L:List api_Instr) (j:Nat):Bool:=match L[j]? with | some y=>decide (y.Kind=14) | none=>false
def g14 (L:List api_Instr) (a j:Nat):Bool:=match L[a]?,L[j]? with | some x,some y=>!(decide (y.To - 1 < x.To - 1) && decide (x.To - 1≤(j:Int))) | _,_=>true
def Jaw (L:List api_Instr) (a:Nat):Bool:=!Ko L a || ((List.range a).filter (Ko L)).all (g14 L a)
def JfI (L:List api_Instr):Prop:=∀ (i:Nat) (x:api_Instr),L[i]? = some x→x.Kind=14→1≤x.To∧x.To≤(i:Int)
theorem Jd4 {N:Nat} {p:api_Code} {q:Option Bool} (hT:JfI p.L) (hl:p.L.length≤300000) {a:Nat} (ha:a < p.L.length):∀ (d j n:Nat),j+d=a→d < n→
    Z5e N q p (a:Int) n (j:Int)=if ((List.range' j d).all fun j=>!(Ko p.L a && Ko p.L j) || g14 p.L a j)=true then q else some false:=by
  intro d
  induction d with
  | zero =>
    intro j n hj hn
    obtain ⟨n,rfl⟩:∃ m,n=m+1:=⟨n - 1,by omega⟩
    rw [Z5e,if_neg (by omega)]
    rfl
  | succ d ih =>
    intro j n hj hn
    obtain ⟨n,rfl⟩:∃ m,n=m+1:=⟨n - 1,by omega⟩
    have h1:j < p.L.length:=by omega
    have hx:p.L[a]? = some p.L[a]:=kxq ha
    have hy:p.L[j]? = some p.L[j]:=kxq h1
    have rc:=ih (j+1) n (by omega) (by omega)
    rw [Z5e,if_pos (by omega),Al rfl ha]
    simp only [kxa]
    rw [Al rfl h1]
    simp only [kxa]
    rw [kzw,kxv]
    have h9:∀ b:Bool,Z5b (Z5e N q p (a:Int) n) (j:Int) b=if (!b)=true then Z5e N q p (a:Int) n ((j+1:Nat):Int) else some false:=by
      intro b;unfold Z5b;rw [Bf h1 (by omega)];cases b <;> rfl
    have ea:Ko p.L a=decide (p.L[a].Kind=14):=by unfold Ko;rw [hx]
    have ej:Ko p.L j=decide (p.L[j].Kind=14):=by unfold Ko;rw [hy]
    rw [Z5a,ea,ej]
    by_cases k:p.L[a].Kind=14∧p.L[j].Kind=14
    · obtain ⟨t1, t2⟩ := hT _ _ hx k.1
      obtain ⟨t3,t4⟩:=hT _ _ hy k.2
      have eg:g14 p.L a j = !(decide (p.L[j].To - 1 < p.L[a].To - 1) && decide (p.L[a].To - 1≤(j:Int))):=by unfold g14;rw [hx,hy]
      have hap:Z66 N (p.L[a].To - 1) (a:Int) (p.L[j].To - 1) (j:Int)=some (g14 p.L a j):=by
        unfold Z66
        rw [eg]
        congr 1
        rw [kzi]
        simp only [kyb,kxc,decide_eq_true_eq,kyc,kwi,decide_eq_false_iff_not]
        omega
      rw [if_pos (by simp [k.1,k.2]),w64 (by omega) (by omega),w64 (by omega) (by omega),hap]
      simp only [kxa]
      rw [h9,rc,ea,decide_eq_true k.1,decide_eq_true k.2]
      cases g14 p.L a j <;> rfl
    · have hk : (decide (p.L[a].Kind = 14) && decide (p.L[j].Kind = 14)) = false := by simp; omega
      rw [hk,if_neg (by decide),h9,rc,ea]
      rfl
theorem Jei {N:Nat} (hN:300000 < N) {p:api_Code} (hT:JfI p.L) (hl:p.L.length≤300000):∀ (d i n:Nat),i+d=p.L.length→d < n→
    Z5d N Z58 p n (i:Int)=some ((List.range' i d).all (Jaw p.L)):=by
  intro d
  induction d with
  | zero =>
    intro i n hi hn
    obtain ⟨n,rfl⟩:∃ m,n=m+1:=⟨n - 1,by omega⟩
    rw [Z5d,if_neg (by omega)]
    rfl
  | succ d ih =>
    intro i n hi hn
    obtain ⟨n,rfl⟩:∃ m,n=m+1:=⟨n - 1,by omega⟩
    have h1:i < p.L.length:=by omega
    have rc:=ih (i+1) n (by omega) (by omega)
    rw [Z5d,if_pos (by omega),kzw,kxv]
    have h7:=Jd4 (N:=N) (q:=Z59 (Z5d N Z58 p n) (i:Int)) hT hl h1 i 0 N (by omega) (by omega)
    refine Eq.trans h7 ?_
    have ho:((List.range' 0 i).all fun j=>!(Ko p.L i && Ko p.L j) || g14 p.L i j)=Jaw p.L i:=by
      unfold Jaw
      rw [← kzj,List.all_filter]
      cases Ko p.L i with
      | false=>simp
      | true =>
        simp only [kyf,kyl,kzk]
    rw [ho]
    cases Jaw p.L i with
    | false=>rfl
    | true=>rw [if_pos rfl,Z59,Bf h1 (by omega),rc];rfl
def Uo (p:api_Code) (p4 p5 p6:Int) (j:Nat):Bool:=match p.L[j]? with | some x=>Ck x p.Regs p.Counts p4 p5 p6 && toB p.L j x | none=>true
def small (p:api_Code):Prop:=p.L.length≤300000∧∀ x∈p.L,x.E.length≤300000∧x.F.length≤300000
theorem Jdk {N:Nat} (hN:300000 < N) {q:Option Bool} {p:api_Code} {p4 p5 p6:Int} (hs:small p):∀ (d j n:Nat),j+d=p.L.length→d < n→
    Z5c N q p p4 p5 p6 n (j:Int)=if ((List.range' j d).all (Uo p p4 p5 p6))=true then q else some false:=by
  intro d
  induction d with
  | zero =>
    intro j n hj hn
    obtain ⟨n,rfl⟩:∃ m,n=m+1:=⟨n - 1,by omega⟩
    rw [Z5c,if_neg (by omega)];rfl
  | succ d ih =>
    intro j n hj hn
    obtain ⟨n,rfl⟩:∃ m,n=m+1:=⟨n - 1,by omega⟩
    have h1:j < p.L.length:=by omega
    have hx:p.L[j]? = some p.L[j]:=kxq h1
    have hm:=hs.2 _ (kxj h1)
    rw [Jgq hN hs.1 hx hm.1 hm.2,ih (j+1) n (by omega) (by omega),kzw,kxv]
    have:Uo p p4 p5 p6 j=(Ck p.L[j] p.Regs p.Counts p4 p5 p6 && toB p.L j p.L[j]):=by unfold Uo;rw [hx]
    rw [this]
    cases (Ck p.L[j] p.Regs p.Counts p4 p5 p6 && toB p.L j p.L[j]) <;> rfl
theorem Jdx {p:api_Code} {p4 p5 p6:Int} (h:(List.range' 0 p.L.length).all (Uo p p4 p5 p6)=true):JfI p.L:=by
  intro i x hx hk
  have hi:i < p.L.length:=(kxn.1 hx).1
  have h1:=kxp.1 h i (by rw [← kzj];exact kzl.2 hi)
  unfold Uo at h1
  rw [hx] at h1
  simp only [kxc] at h1
  have h2:=h1.2
  unfold toB at h2
  rw [if_neg (by omega),if_pos hk] at h2
  by_cases hc:x.To < 1∨(i:Int) < x.To
  · rw [if_pos hc] at h2;cases h2
  · omega
def Df (p:api_Code) (p4 p5 p6:Int):Bool:=
  !((((decide (p.Regs < 0)) || (decide (4 < p.Regs))) || (decide (p.Counts < 0))) || (decide (12 < p.Counts))) && ((List.range' 0 p.L.length).all (Uo p p4 p5 p6) && (List.range' 0 p.L.length).all (Jaw p.L))
theorem Ya {N:Nat} (hN:300000 < N) {p:api_Code} (p4 p5 p6:Int) (hs:small p):Z55 N p p4 p5 p6=some (Df p p4 p5 p6):=by
  unfold Z55 Df
  have h2:=Jdk hN (q:=Z56 N p) (p4:=p4) (p5:=p5) (p6:=p6) hs p.L.length 0 N (by omega) (by have:=hs.1;omega)
  rw [show ((0:Nat):Int)=0 from rfl] at h2
  rw [h2]
  cases ((((decide (p.Regs < 0)) || (decide (4 < p.Regs))) || (decide (p.Counts < 0))) || (decide (12 < p.Counts))) with
  | true=>rfl
  | false =>
    rw [if_neg (by decide)]
    cases ha:(List.range' 0 p.L.length).all (Uo p p4 p5 p6) with
    | false=>rfl
    | true =>
      have h5:=Jei hN (p:=p) (Jdx ha) hs.1 p.L.length 0 N (by omega) (by have:=hs.1;omega)
      rw [if_pos rfl,Z56]
      refine Eq.trans h5 ?_
      rfl
end Go.MD.SWAPS
namespace Go.MD.SWAPS
open Go Go.MD
open Go.IntKind (i64)
def Ir (st:Int):Nat→Int→List Int→Bool
  | _,_,[]=>true
  | j,pv,x :: r=>(decide (x=pv+1) || (decide (0 < j) && (decide ((j:Int) < st) && decide (x=pv)))) && Ir st (j+1) x r
def lnI (u:api_Unit):Int:=if 1≤u.Stays∧u.Stays≤(u.Lines.length:Int) then i64.wrap (((u.Lines[(u.Stays - 1).toNat]?).getD 0)+1) else 0
theorem Ti (N:Nat) {u:api_Unit} (hl:u.Lines.length≤300000):Z5o N u=some (lnI u):=by
  unfold Z5o lnI
  by_cases h:1≤u.Stays∧u.Stays≤(u.Lines.length:Int)
  · obtain ⟨t, ht⟩ : ∃ t : Nat, u.Stays = (t : Int) + 1 := ⟨(u.Stays - 1).toNat, by omega⟩
    rw [if_pos (by simp;omega),if_pos h,w64 (by omega) (by omega),ht,show (t:Int)+1 - 1=(t:Int) from by omega,Gr,kya]
    have:t < u.Lines.length:=by omega
    rw [kxq this];rfl
  · rw [if_neg (by simp;omega),if_neg h]
def Mu (u:api_Unit):Prop:=u.Lines.length≤300000∧u.Firsts.length≤300000∧u.Threads.length≤300000∧u.Claims.length≤300000∧(∀ c∈u.Threads,small c)∧small u.Recover∧∀ c∈u.Claims,c.length≤300000
def okF (x:Int):Bool:=!((decide (x < 0)) || (decide (4294967296 < x)))
def cB (u:api_Unit) (c:api_Code):Bool:=Df c (u.Lines.length:Int) (lnI u) u.Locks
def Jbx (u:api_Unit):Bool:=(((((((decide (20 < (u.Lines.length:Int))) || (decide (u.Stays < 0))) || (decide ((u.Lines.length:Int) < u.Stays))) || (decide ((u.Firsts.length:Int)≠(u.Lines.length:Int)))) || (decide (u.Locks < 0))) || (decide (2 < u.Locks))) || (decide ((u.Threads.length:Int) < 1))) || (decide (3 < (u.Threads.length:Int)))
def Pk (u:api_Unit):Bool:=!Jbx u && (Ir u.Stays 0 (-1) u.Lines && (u.Firsts.all okF && (u.Threads.all (cB u) && (cB u u.Recover && u.Claims.all fun c=>Cg c u.Stays))))
theorem JfZ {N:Nat} {q:Option Bool} {u:api_Unit} (hl:u.Lines.length≤300000) (hF:u.Firsts.length=u.Lines.length):∀ (d j n:Nat) (pv:Int),j+d=u.Lines.length→d < n→-1≤pv→pv < (j:Int)→(∀ i,j=i+1→u.Lines[i]? = some pv)→(j=0→pv = -1)→
    Z5u N q u n (j:Int)=if (Ir u.Stays j pv (u.Lines.drop j) && (u.Firsts.drop j).all okF)=true then q else some false:=by
  intro d
  induction d with
  | zero =>
    intro j n pv hj hn _ _ _ _
    obtain ⟨n,rfl⟩:∃ m,n=m+1:=⟨n - 1,by omega⟩
    rw [Z5u,if_neg (by omega),kxh (by omega),kxh (by omega)];rfl
  | succ d ih =>
    intro j n pv hj hn h1 h2 h3 h4
    obtain ⟨n,rfl⟩:∃ m,n=m+1:=⟨n - 1,by omega⟩
    have hjl:j < u.Lines.length:=by omega
    have hjf:j < u.Firsts.length:=by omega
    have fin:Z5r (Z5u N q u n) u (j:Int) (pv+1)=if (Ir u.Stays j pv (u.Lines.drop j) && (u.Firsts.drop (j+1)).all okF)=true then q else some false:=by
      unfold Z5r
      rw [Al rfl hjl]
      simp only [kxa]
      rw [w64 (n:=pv+1 - 1) (by omega) (by omega),kxe hjl,Ir]
      by_cases h:u.Lines[j]=pv+1∨(0 < j∧(j:Int) < u.Stays∧u.Lines[j]=pv)
      · have hb : (decide (u.Lines[j] = pv + 1) || (decide (0 < j) && (decide ((j : Int) < u.Stays) && decide (u.Lines[j] = pv)))) = true := by simpa using h
        rw [hb,kyf,if_neg (by simp;omega),Bf hjl (by omega),ih (j+1) n u.Lines[j] (by omega) (by omega) (by omega) (by omega) (fun i hi=>by rw [show i=j from by omega];exact kxq hjl) (by omega)]
      · have hb : (decide (u.Lines[j] = pv + 1) || (decide (0 < j) && (decide ((j : Int) < u.Stays) && decide (u.Lines[j] = pv)))) = false := by rw [Bool.eq_false_iff]; intro hh; exact h (by simpa using hh)
        rw [hb,if_pos (by simp;omega)];rfl
    rw [Z5u,if_pos (by omega),Al rfl hjf]
    simp only [kxa]
    rw [kxe hjf,kxv]
    have ho:okF u.Firsts[j] = !((decide (u.Firsts[j] < 0)) || (decide (4294967296 < u.Firsts[j]))):=rfl
    rw [ho]
    cases ((decide (u.Firsts[j] < 0)) || (decide (4294967296 < u.Firsts[j]))) with
    | true=>rw [if_pos rfl];simp
    | false =>
      rw [if_neg (by decide),kzm,kyf]
      by_cases h0:0 < j
      · obtain ⟨i, rfl⟩ : ∃ i, j = i + 1 := ⟨j - 1, by omega⟩
        rw [if_pos (by omega),w64 (by omega) (by omega),show (((i+1:Nat):Int) - 1)=(i:Int) from by omega,Gr,h3 i rfl]
        simp only [kxa]
        rw [w64 (n:=pv+1) (by omega) (by omega)]
        exact fin
      · rw [if_neg (by omega)]
        have:=h4 (by omega)
        subst this
        exact fin
theorem r5u {N:Nat} (hN:300000 < N) {q:Option Bool} {u:api_Unit} (hs:Mu u):∀ (d j n:Nat),j+d=u.Threads.length→d < n→
    Z5v N q u n (j:Int)=if (u.Threads.drop j).all (cB u)=true then q else some false:=by
  intro d
  induction d with
  | zero =>
    intro j n hj hn
    obtain ⟨n,rfl⟩:∃ m,n=m+1:=⟨n - 1,by omega⟩
    rw [Z5v,if_neg (by omega),kxh (by omega)];rfl
  | succ d ih =>
    intro j n hj hn
    obtain ⟨n,rfl⟩:∃ m,n=m+1:=⟨n - 1,by omega⟩
    have hjl:j < u.Threads.length:=by omega
    rw [Z5v,if_pos (by omega),Al rfl hjl]
    simp only [kxa]
    rw [Ti N hs.1]
    simp only [kxa]
    rw [Ya hN _ _ _ (hs.2.2.2.2.1 _ (kxj hjl)),kxe hjl,kxv]
    simp only [kxa]
    rw [Bf hjl (by have:=hs.2.2.1;omega),ih (j+1) n (by omega) (by omega)]
    show _=if (Df _ _ _ _ && _)=true then _ else _
    cases Df u.Threads[j] (u.Lines.length:Int) (lnI u) u.Locks <;> rfl
theorem r7u {N:Nat} (hN:300000 < N) {q:Option Bool} {u:api_Unit} (hs:Mu u):∀ (d j n:Nat),j+d=u.Claims.length→d < n→
    Z5w N q u n (j:Int)=if ((u.Claims.drop j).all fun c=>Cg c u.Stays)=true then q else some false:=by
  intro d
  induction d with
  | zero =>
    intro j n hj hn
    obtain ⟨n,rfl⟩:∃ m,n=m+1:=⟨n - 1,by omega⟩
    rw [Z5w,if_neg (by omega),kxh (by omega)];rfl
  | succ d ih =>
    intro j n hj hn
    obtain ⟨n,rfl⟩:∃ m,n=m+1:=⟨n - 1,by omega⟩
    have hjl:j < u.Claims.length:=by omega
    have hc:=hs.2.2.2.2.2.2 _ (kxj hjl)
    rw [Z5w,if_pos (by omega),Al rfl hjl]
    simp only [kxa]
    rw [Jz hc (by omega),kxe hjl,kxv]
    simp only [kxa]
    rw [Bf hjl (by have:=hs.2.2.2.1;omega),ih (j+1) n (by omega) (by omega)]
    cases Cg u.Claims[j] u.Stays <;> rfl
theorem Jbo {N:Nat} (hN:300000 < N) {u:api_Unit} (hs:Mu u):Z5p N u=some (Pk u):=by
  unfold Z5p Pk
  obtain ⟨s1,s2,s3,s4,s5,s6,s7⟩:=hs
  have hs:Mu u:=⟨s1,s2,s3,s4,s5,s6,s7⟩
  show (if Jbx u=true then _ else _)=_
  cases ho:Jbx u with
  | true=>rfl
  | false =>
    have hF:u.Firsts.length=u.Lines.length:=by
      unfold Jbx at ho
      simp only [kym,decide_eq_false_iff_not] at ho
      omega
    have h2:=JfZ (N:=N) (q:=Z5q N u) s1 hF u.Lines.length 0 N (-1) (by omega) (by omega) (by omega) (by omega) (by intro i hi;omega) (by intro _;rfl)
    rw [kxf,kxf,show ((0:Nat):Int)=0 from rfl] at h2
    rw [if_neg (by decide),h2,kzm,kyf]
    cases Ir u.Stays 0 (-1) u.Lines with
    | false=>rfl
    | true =>
      rw [kyf]
      cases u.Firsts.all okF with
      | false=>rfl
      | true =>
        have h5:=r5u hN (q:=Z5s N u) hs u.Threads.length 0 N (by omega) (by omega)
        rw [kxf,show ((0:Nat):Int)=0 from rfl] at h5
        rw [if_pos rfl,Z5q,h5]
        cases u.Threads.all (cB u) with
        | false=>rfl
        | true =>
          have h7:=r7u hN (q:=Z5t N u) hs u.Claims.length 0 N (by omega) (by omega)
          rw [kxf,show ((0:Nat):Int)=0 from rfl] at h7
          rw [if_pos rfl,Z5s,h7,Z5t,Ti N s1]
          simp only [kxa]
          rw [Ya hN _ _ _ s6]
          show _=some (true && (true && (cB u u.Recover && _)))
          unfold cB
          cases Df u.Recover (u.Lines.length:Int) (lnI u) u.Locks <;> cases (u.Claims.all fun c=>Cg c u.Stays) <;> rfl
end Go.MD.SWAPS
namespace Go.MD.SWAPS
open Go Go.MD
open Go.IntKind (i64)
theorem flat_len {α:Type} {f:α→Str} {m:Nat}:∀ {l:List α},(∀ x∈l,(f x).length≤m)→(l.flatMap f).length≤m * l.length
  | [],_=>by simp
  | x :: r, h => by
    have h1:=h x (by simp)
    have h2:=flat_len (l:=r) (fun y hy=>h y (List.mem_cons_of_mem _ hy))
    rw [List.flatMap_cons,kxk,kxz,Nat.mul_succ];omega
section
variable {N:Nat} (hN:300001 < N)
include hN
end
end Go.MD.SWAPS
namespace Go.MD.SWAPS
open Go Go.MD
open Go.IntKind (i64)
theorem Jbc {l:List api_Op} {m:Int} (h:Cg l m=true):l.length≤40:=by
  unfold Cg at h
  simp only [kxc,decide_eq_true_eq] at h
  exact h.1.1
section
variable {N:Nat} (hN:300001 < N)
include hN
end
end Go.MD.SWAPS
namespace Go.MD.SWAPS
open Go Go.MD
open Go.IntKind (i64)
section
variable {N:Nat} (hN:300001 < N) {s:Str} (hs:s.length≤250000)
include hN hs
def rdL (l:List api_Instr):Prop:=l.length≤250000∧∀ x∈l,x.E.length≤250000∧x.F.length≤250000
end
end Go.MD.SWAPS
namespace Go.MD.SWAPS
open Go Go.MD
open Go.IntKind (i64)
section
variable {N:Nat} (hN:300001 < N) {s:Str} (hs:s.length≤250000)
end
end Go.MD.SWAPS
