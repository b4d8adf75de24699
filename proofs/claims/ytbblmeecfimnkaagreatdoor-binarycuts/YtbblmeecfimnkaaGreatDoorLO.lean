/- Opening He came in, for the lifter's plain data. No condition: plain lemmas. -/
import Derived.Test.YtbblmeecfimnkaaGreatDoorLM
import Derived.Test.YtbblmeecfimnkaaGreatDoorLLt
import Derived.Test.YtbblmeecfimnkaaGreatDoorPL
import Derived.OpenShut
import Derived.Lib.LaidTab
import Derived.Stop.LaidErr
namespace Go.LM
open Go Go.LL Go.MD Go.ChangeShapes Go.WideShapes Go.ChangeAt Go.RowKit Go.WideElems
def Op (P:Program) (t:TypeId) (α:Type) [Enc α] (ok:α→Prop):Prop:=
  ∀ {H : Type} {enc : TypeId × Value → H} {W : World} {base : Nat} {sp : Nat → Bool} {held : Bool} {n : Nat} {cs : List Value} {y : DataW H × List MemPlace},
    DataW.trod enc P W base sp held n t cs=some y→∃ x:α,Enc.rep (hp W) cs x∧ok x
section
variable {P:Program} {t e:TypeId} {α:Type} [Enc α] {ok:α→Prop}
theorem Xv {z:Int} (h:(Lit.int .i64 z).wf=true):InR z:=by
  simp [Lit.wf,IntKind.min,IntKind.max,IntKind.signed,IntKind.bits] at h
  exact ⟨by omega,by omega⟩
theorem Fb (ht:P.underlying t=some (.int .i64)):Op P t Int InR:=fun h=>by
  obtain ⟨z,rfl,-,hw⟩:=DataW.trod_int ht h
  exact ⟨z,rfl,Xv hw⟩
theorem Ki (ht:P.underlying t=some .string):Op P t (List UInt8) (fun s=>s.length≤maxLen):=fun h=>by
  obtain ⟨s,rfl,-,hw⟩:=DataW.trod_string ht h
  refine ⟨s.data.toList,rfl,?_⟩
  show s.data.toList.length≤maxLen
  rw [Array.length_toList];exact hw
theorem JaY {β:Type} {n:Nat} {p:Nat→β→Prop} (h:∀ i,i < n→∃ x,p i x):∃ l:List β,l.length=n∧∀ i (h:i < l.length),p i l[i]:=by
  induction n with
  | zero=>exact ⟨[],rfl,fun i hi=>by cases hi⟩
  | succ n ih =>
    obtain ⟨l,h1,h2⟩:=ih (fun i hi=>h i (by omega))
    obtain ⟨o,ho⟩:=h n (by omega)
    refine ⟨l ++ [o],by simp [h1],fun i hi=>?_⟩
    by_cases e:i < l.length
    · rw [List.getElem_append_left e];exact h2 i e
    · have e2 : i = n := by simp at hi; omega
      subst e2
      rw [List.getElem_append_right (by omega)]
      simp only [h1,Nat.sub_self,List.getElem_cons_zero]
      exact ho
theorem Ox {h:PH}:∀ {l:List (List Value×α)},(∀ q∈l,Enc.rep h q.1 q.2)→Rows h (l.flatMap (·.1)) (l.map (·.2))
  | [],_=>.nil
  | q :: l,hq=>.cons (hq q (.head _)) (Ox fun r hr=>hq r (.tail _ hr))
omit [Enc α] in
theorem Oc {sz:Nat}:∀ {l:List (List Value×α)},(∀ q∈l,q.1.length=sz)→∀ {k j:Nat} (hk:k < l.length) (_:j < sz),(l.flatMap (·.1))[k * sz+j]? = (l[k]).1[j]?
  | [],_,k,j,hk,_=>by simp at hk
  | x :: r, hf, k, j, hk, hj => by
    have hx:=hf x (.head _)
    rw [List.flatMap_cons]
    cases k with
    | zero =>
      rw [Nat.zero_mul,Nat.zero_add,List.getElem?_append_left (by rw [hx];exact hj)]
      rfl
    | succ k =>
      rw [List.getElem?_append_right (by rw [hx,Nat.succ_mul];omega),hx,show (k+1) * sz+j - sz=k * sz+j by rw [Nat.succ_mul];omega]
      have:=Oc (fun q hq=>hf q (.tail _ hq)) (k:=k) (j:=j) (by simpa using hk) hj
      rw [this]
      rfl
theorem Db {s:Nat} (ht:P.underlying t=some (.slice e)) (hc:P.cellsOf e=s) (hs:Enc.sz α=s) (h0:0 < s) (h:Op P e α ok):Op P t (List α) (fun xs=>∀ x∈xs,ok x):=fun {H enc W base sp held n cs y} hd=>by
  rcases DataW.trod_slice ht hd with ⟨rfl,_⟩ | ⟨a,len,cap,elems,rest,m,_,rfl,_,_,hlc,hcap,hlen,hel,_⟩
  · exact ⟨[],⟨none,0,rfl,Nat.le_refl _,SR.nil _ _⟩,fun x hx=>by cases hx⟩
  · rw [hc] at hel
    have each:∀ i,i < len→∃ q:List Value×α,(∀ j v,q.1[j]? = some v→W.cell? ((a.add (i * s)).add j)=some v)∧Enc.rep (hp W) q.1 q.2∧ok q.2∧q.1.length=s:=by
      intro i hi
      have h1:=hel i hi
      rw [List.getElem?_eq_getElem (by omega)] at h1
      obtain ⟨cs,hcs,hy⟩:=Option.bind_eq_some_iff.1 h1
      obtain ⟨_,hcl,hcell⟩:=World.cells?_some hcs
      obtain ⟨x,hx,hok⟩:=h hy
      refine ⟨(cs,x),fun j v hj=>?_,hx,hok,hcl⟩
      have hjl:j < cs.length:=(List.getElem?_eq_some_iff.1 hj).1
      rw [hcell j (by omega)]
      exact hj
    obtain ⟨l,hl,hp'⟩:=JaY each
    have hlen':∀ q∈l,q.1.length=s:=fun q hq=>by
      obtain ⟨i,hi,rfl⟩:=List.getElem_of_mem hq
      exact (hp' i hi).2.2.2
    have hrep:∀ q∈l,Enc.rep (hp W) q.1 q.2:=fun q hq=>by
      obtain ⟨i,hi,rfl⟩:=List.getElem_of_mem hq
      exact (hp' i hi).2.1
    refine ⟨l.map (·.2),⟨some a,cap,by rw [List.length_map,hl],by rw [List.length_map,hl];exact hlc,l.flatMap (·.1),?_,Ox hrep⟩,fun x hx=>?_⟩
    · have spot:0 < l.length→a=⟨a.block,a.off,none⟩:=fun hpos=>by
        have h1:=(hp' 0 hpos).2.2.2
        have h2:=(hp' 0 hpos).1 0 _ (List.getElem?_eq_getElem (by omega))
        rw [Nat.zero_mul] at h2
        refine Wb (w:=W) (a:=a) (v:=l[0].1[0]'(by omega)) ?_
        rw [← h2]
        obtain ⟨b,o,sp⟩:=a
        cases sp with
        | none=>rfl
        | some _=>rfl
      refine ⟨fun hne=>?_,fun j u hj=>?_⟩
      · have:0 < l.length:=by
          rcases Nat.eq_zero_or_pos l.length with h | h
          · rw [List.eq_nil_of_length_eq_zero h] at hne;simp at hne
          · exact h
        simp only [adr,Option.getD_some]
        rw [← spot this]
      · have hjl : j < (l.flatMap (·.1)).length := (List.getElem?_eq_some_iff.1 hj).1
        have hfl:(l.flatMap (·.1)).length=l.length * s:=by
          have:=(Ox hrep).len
          rw [List.length_map,hs] at this
          exact this
        have hk:j / s < l.length:=Nat.div_lt_of_lt_mul (by rw [Nat.mul_comm];omega)
        have hk0:0 < l.length:=Nat.lt_of_le_of_lt (Nat.zero_le _) hk
        have hm:j % s < s:=Nat.mod_lt _ h0
        have hdm:j / s * s+j % s=j:=by rw [Nat.mul_comm];exact Nat.div_add_mod j s
        rw [← hdm,Oc hlen' hk hm] at hj
        have h3:=(hp' (j / s) hk).1 (j % s) u hj
        rw [spot hk0,Df,Df] at h3
        rw [Gq]
        simp only [adr,Option.getD_some]
        rw [show a.off+j=a.off+j / s * s+j % s by omega]
        exact h3
    · obtain ⟨q, hq, rfl⟩ := List.mem_map.1 hx
      obtain ⟨i,hi,rfl⟩:=List.getElem_of_mem hq
      exact (hp' i hi).2.2.1
theorem Du {cs:List Value} {o s n:Nat} (h:o+s=n):cs.drop o=(cs.drop o).take s ++ cs.drop n:=by
  subst h
  rw [← List.drop_drop,List.take_append_drop]
end
section
variable {P:Program} {W:World} {t e:TypeId} {r:Reach} {b0 base:Nat} {v:Value} {H:Type} {enc:TypeId×Value→H} {d:DataW H} {ps:List MemPlace} {sp:Nat→Bool} {held:Bool} {α:Type} [Enc α] {ok:α→Prop}
theorem S2 {fs:Array Field} (ht:P.underlying t=some (.struct fs)) (hval:Value.okWide P W r b0 t v) (hd:DataW.Trod enc P W base sp held t v d ps) (h:Op P t α ok):∃ (cs:List Value) (x:α),v=.agg cs.toArray∧Enc.rep (hp W) cs x∧ok x:=by
  obtain ⟨cs,rfl,_⟩:=okWide_struct ht hval
  obtain ⟨fuel,hf⟩:=hd
  obtain ⟨x,h1,h2⟩:=h hf
  exact ⟨_,x,by simp [Value.cells],h1,h2⟩
theorem Ja5 (ht:P.underlying t=some (.int .i64)) (hval:Value.okWide P W r b0 t v) (hd:DataW.Trod enc P W base sp held t v d ps):∃ z:Int,v=.int .i64 z∧InR z:=by
  obtain ⟨z,rfl,_,_,hw⟩:=open_int ht hval hd
  exact ⟨z,rfl,Xv hw⟩
end
end Go.LM
