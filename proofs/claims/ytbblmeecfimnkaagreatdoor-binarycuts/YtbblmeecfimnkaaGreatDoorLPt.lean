/- A text's bytes as a slice. No condition: plain lemmas. -/
import Derived.Test.YtbblmeecfimnkaaGreatDoorLPs
import Derived.Lib.ConvBytes
namespace Go.LM
open Go Go.LL Go.MD
section
variable {P:Program} {Q:Exit→Act→World→Prop} {a:Act} {w w':World} {ops:Array Oper} {N:FN} {F:List (Nat×Value)} {w0:World} {M:Nat→Prop} {H:PH} {L L':List HA} {K:Act→World→Prop}
  {d:Nat} {ty:TypeId} {pos:String} {af:Array Edge}
theorem R9 (w:World) (e:TypeId) (s:ByteArray):Keep Nil w (Lib.bytesWorld w e s):=by
  refine ⟨rfl,rfl,rfl,by rw [Lib.bytesWorld_size];omega,fun b hb _=>Lib.bytesWorld_at_old w e s b hb,fun ad ha=>?_⟩
  unfold World.frozen?
  rw [Lib.bytesWorld_at_old w e s _ ha]
theorem Mv (h:PH):∀ s:Str,Rows (α:=IntK .u8) h (s.map fun b=>Value.int .u8 (b.toNat:Int)) (Ga s)
  | []=>.nil
  | b :: s=>.cons (c:=[.int .u8 (b.toNat:Int)]) rfl (Mv h s)
theorem Jdo {src dst e:TypeId} {x:Operand} {s:Str} (hF:Fr N F a) (hN:Nat.blt d N.n=true) (hl:H.le w) (hs:P.underlying src=some .string) (hd:P.underlying dst=some (.slice e)) (he:P.underlying e=some (.int .u8))
    (hx:opv F x=some (Ag s))
    (k:∀ H' oa cap w' a,Ext w H H'→H'.le w'→(Ga s).length≤cap→SR H' oa (Ga s)→Keep Nil w w'→Fr N ((d,.slice oa (Ga s).length cap) :: F) a→K a w') :
    stp P ops Q ⟨some d,.convert src dst x,ty,pos,af,none⟩ a w K:=by
  have hr:=Lib.run_convert_string_bytes (P:=P) w src dst e ⟨s.toArray⟩ hs hd he
  have hlen:(Ga s).length=(⟨s.toArray⟩:ByteArray).size:=by simp [Ga,ByteArray.size]
  refine m1 (w':=Lib.bytesWorld w e ⟨s.toArray⟩) hF hN (v:=.slice (some ⟨w.heap.size,0,none⟩) (Ga s).length (grownCap w (⟨s.toArray⟩:ByteArray).size 0 e)) ?_ fun a hF=>?_
  · rw [hlen]
    simp [execOp,hF.ev hx,hr]
  · have hnew := Lib.bytesWorld_at_new w e ⟨s.toArray⟩
    refine k (fun b=>if b=w.heap.size then (Lib.bytesWorld w e ⟨s.toArray⟩).heap[b]? else H b) _ _ _ a ⟨fun b o hb=>?_,fun b hb=>?_⟩ (fun b o hb=>?_) ?_ ⟨s.map fun b=>Value.int .u8 (b.toNat:Int),⟨fun _=>rfl,fun j v hj=>?_⟩,Mv _ s⟩ (R9 w e _) hF
    · have hlt := hl.lt hb
      have:b≠w.heap.size:=by omega
      simp [this,hb]
    · by_cases h : b = w.heap.size
      · exact .inr (by omega)
      · simp only [h,if_false] at hb;exact .inl hb
    · by_cases h : b = w.heap.size
      · simp only [h,if_true] at hb ⊢;exact hb
      · simp only [h, if_false] at hb
        have hlt:=hl.lt hb
        rw [Lib.bytesWorld_at_old w e _ b hlt]
        exact hl b o hb
    · rw [hlen];exact grownCap_ge _ _ _ _
    · have hj':j < s.length:=by
        have:=(List.getElem?_eq_some_iff.1 hj).1
        simpa using this
      have hv:v=.int .u8 ((s[j]'hj').toNat:Int):=by
        have:(s.map fun b=>Value.int .u8 (b.toNat:Int))[j]? = some (.int .u8 ((s[j]'hj').toNat:Int)):=by simp [hj']
        rw [this] at hj;exact (Option.some.inj hj).symm
      subst hv
      simp only [adr,Option.getD_some,Nat.zero_add,PH.cell?,if_true,hnew]
      simp [Lib.bytesCells,Array.getElem?_append,hj']
end
end Go.LM
