/- Stores of parts of blocks; interface values. No condition: plain lemmas. -/
import Derived.Test.YtbblmeecfimnkaaGreatDoorLPn
namespace Go.LM
open Go Go.LL Go.MD
section
variable {P:Program} {Q:Exit→Act→World→Prop} {a:Act} {w w':World} {ops:Array Oper} {N:FN} {F:List (Nat×Value)} {w0:World} {M:Nat→Prop} {Hs:List PH} {L L':List HA} {K:Act→World→Prop}
  {d:Option Tmp} {ty:TypeId} {pos:String} {af:Array Edge} {g:Option (Nat×Bool)}
theorem Yf {t e:TypeId} {x y:Operand} {b o n:Nat} {c c':List Value} (pre old new post:List Value) (hF:Fr N F a) (hS:St w0 M Hs L w) (hz:∀ w,(sizeOf t).run P w=.ok n w)
    (hx:opv F x=some (.pointer (some ⟨b,o,none⟩))) (hy:opv F y=some (.agg new.toArray)) (ho:pre.length=o) (hl:old.length=n) (hl':new.length=n) (h1:∀ v∈new,v.oneCell'=true)
    (hc:c=pre ++ (old ++ post)) (hc':c'=pre ++ (new ++ post))
    (hr:Repl (blk b (.cells c.toArray e (0,0))) (blk b (.cells c'.toArray e (0,0))) L L')
    (k:∀ w,St w0 M Hs L' w→K a w):stp P ops Q ⟨none,.store t x y,ty,pos,af,none⟩ a w K:=by
  have hb:w.heap[b]? = some (.cells c.toArray e (0,0)):=hS.ok _ hr.memOld
  have hst:=run_storeCells_at P b o e new 0 c.toArray w hb (by rw [hc];simp;omega) h1
  have e1:(c.toArray.toList.take (o+0) ++ new ++ c.toArray.toList.drop (o+0+new.length))=c':=by
    have t1:c.toArray.toList.take (o+0)=pre:=by simp only [hc,Nat.add_zero,← ho,List.take_left]
    have t2:c.toArray.toList.drop (o+0+new.length)=post:=by
      have:o+0+new.length=(pre ++ old).length:=by simp;omega
      rw [this];simp only [hc,← List.append_assoc,List.drop_left]
    rw [t1,t2,hc',List.append_assoc]
  rw [e1] at hst
  refine m0 (w':=w.setRow b c'.toArray) ?_ (k _ ?_)
  · simp [execOp,hF.ev hx,hF.ev hy,Instr.storeAt,Instr.sureAddr,storeVar,hz,Value.cells,hl',hst]
  · refine hS.upd hr ⟨rfl,rfl,rfl,by simp,fun x _ hx=>setRow_other w b x _ (fun e=>hx e),fun a _=>Hd w b _ a⟩ (setRow_heap w b _ _ e _ hb) (fun b' hb'=>.inl hb')
theorem Yh (hF:Fr N F a) {t:TypeId} {x:Operand} {v:Value} (hi:∀ w,(Instr.makeInterface t v).run P w=.ok (.iface t v) w) (hx:opv F x=some v) :
    (execOp a.eval ⟨d,.makeInterface t x,ty,pos,af,g⟩).run P w=.ok (.value (.iface t v)) w:=by
  simp [execOp,hF.ev hx,hi]
end
end Go.LM
