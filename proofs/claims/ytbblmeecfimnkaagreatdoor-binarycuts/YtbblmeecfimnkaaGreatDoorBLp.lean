/- A byte written to a builder that the call owns. No condition: plain lemmas. -/
import Derived.Test.YtbblmeecfimnkaaGreatDoorBLm
import Derived.Test.YtbblmeecfimnkaaGreatDoorMDp
namespace Go.LM
open Go Go.LL Go.MD
section
variable {P:Program} {ops:Array Oper} {Q:Exit→Act→World→Prop} {a:Act} {w:World} {N:FN} {F:List (Nat×Value)}
  {w0:World} {M:Nat→Prop} {H:PH} {L L':List HA} {K:Act→World→Prop}
  {d:Nat} {ty:TypeId} {pos:String} {af:Array Edge}
theorem Jcw {Hs:List PH} {t e:TypeId} {x y:Operand} {oa ob:Option Addr} {cap c:Nat} {xs zs:Str} {n:Int}
    (hF:Fr N F a) (hN:Nat.blt d N.n=true) (hS:St w0 M Hs L w)
    (ht:P.underlying t=some (.slice e)) (hinfo:(P.info? e).map (fun i=>(i.zero,i.size,i.bytes))=some (some (.int .u8 0),1,1))
    (hx:opv F x=some (.slice oa xs.length cap)) (hy:opv F y=some (.slice ob 1 c)) (hmem:sla e 1 oa xs.length cap (Lib.byteCells xs)∈L) (hrd:Rd (hp w) ob [.int .u8 n]) (hg:Pj xs n=some zs)
    (k:∀ oa' cap' w a,(∀ L',Repl (sla e 1 oa xs.length cap (Lib.byteCells xs)) (sla e 1 oa' zs.length cap' (Lib.byteCells zs)) L L'→St w0 M Hs L' w)→Fr N ((d,.slice oa' zs.length cap') :: F) a→K a w) :
    stp P ops Q ⟨some d,.call ⟨.builtin .append,#[x,y],#[t,t]⟩,ty,pos,af,none⟩ a w K:=by
  obtain ⟨h1,h2,rfl⟩:=Vg hg
  have e1:Lib.byteCells (xs ++ [UInt8.ofNat n.toNat])=Lib.byteCells xs ++ [.int .u8 n]:=by
    rw [Iz]
    congr 1
    show [Value.int .u8 ((UInt8.ofNat n.toNat).toNat:Int)]=_
    congr 2
    have:(UInt8.ofNat n.toNat).toNat=n.toNat % 256:=UInt8.toNat_ofNat' ..
    rw [this];omega
  have e2:(xs ++ [UInt8.ofNat n.toNat]).length=xs.length+1:=by simp
  rw [e1,e2] at k
  exact apI hF hN hS ht hinfo rfl (by decide) hx hy hmem rfl hrd (fun u hu=>by
    simp only [List.mem_singleton] at hu;subst hu;rfl) (by omega) (by unfold maxLen;omega) k
end
end Go.LM
