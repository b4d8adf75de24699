/- The engine's eighth part: numbers that are known to be natural. No condition: plain lemmas. -/
import Derived.Test.YtgdkaddhhpgeiaaGreatDoorLLg
import Derived.Laws.BitsLemmas
namespace Go.LL
open Go
def lo (n:Nat) (m:Int):Nat:=(BitVec.ofInt 64 m &&& BitVec.ofInt 64 n).toNat
section
variable {P:Program} {a:Act} {w:World} {N:FN} {F:List (Nat×Value)} {d:Option Tmp} {ty:TypeId} {pos:String} {af:Array Edge} {g:Option (Nat×Bool)}
theorem Pu (hF:Fr N F a) {x y:Operand} {t e:TypeId} {k:IntKind} {j:Int} {sz n b i:Nat} (hu:∀ w,(underlying t).run P w=.ok (.array n e) w) (hz:∀ w,(sizeOf e).run P w=.ok sz w)
    (hx:opv F x=some (.pointer (some ⟨b,0,none⟩))) (hy:opv F y=some (.int k j)) (hj:j=(i:Int)) (hi:i < n) :
    (execOp a.eval ⟨d,.indexAddr t x y,ty,pos,af,g⟩).run P w=.ok (.value (.pointer (some ⟨b,0+i * sz,none⟩))) w:=by
  subst hj
  have h1:(i:Int) < (n:Int):=by omega
  have h2:(⟨b,0,none⟩:Addr).add (i * sz)=⟨b,0+i * sz,none⟩:=Ef _ _ _
  simp [execOp,hF.ev hx,hF.ev hy,Instr.indexAt,asIntOf,hu,hz,h1,h2,Instr.sureAddr]
  intro h;exact absurd h (by omega)
theorem Aq {o:Oper} {v v':Value} (h:(execOp a.eval o).run P w=.ok (.value v) w) (e:v=v'):(execOp a.eval o).run P w=.ok (.value v') w:=e ▸ h
end
end Go.LL
