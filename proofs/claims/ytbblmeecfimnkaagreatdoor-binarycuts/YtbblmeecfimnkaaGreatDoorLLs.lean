/- append of a string to a slice of the call's own. No condition: plain lemmas. -/
import Derived.Test.YtbblmeecfimnkaaGreatDoorLLd
import Derived.Test.YtbblmeecfimnkaaGreatDoorLM
import Derived.Lib.AppendStr
namespace Go.LL
open Go
section
variable {P:Program} {w:World}
theorem JaQ {t u ty e:TypeId} {i:TypeInfo} {z:Value} (ht:P.underlying t=some (.slice e)) (hu:P.underlying u=some .string) (hi:P.info? e=some i) (hz:i.zero=some z)
    (hsize:i.size=1) (hzs:z.cells.size=1)
    {oa:Option Addr} {n cap:Nat} {xs:List Value} (hok:SlOk e 1 (.slice oa n cap) n xs (hp w))
    {m:Nat} {ys:List Value} {st:List UInt8} (hm:m=(⟨st.toArray⟩:ByteArray).size) (hys:ys=Lib.strCells ⟨st.toArray⟩)
    (hmb:(n+m) * i.bytes≤140737488355328) (h63:n+m≤maxLen) :
    ∃ oa' cap' w', (Builtin.append_ #[t, u] ty #[.slice oa n cap, .string ⟨st.toArray⟩]).run P w = .ok (.slice oa' (n + m) cap') w' ∧
      SlOk e 1 (.slice oa' (n+m) cap') (n+m) (xs ++ ys) (hp w')∧Keep (fun b=>Bu (.slice oa n cap)=some b) w w'∧
      (∀ b,Bu (.slice oa' (n+m) cap')=some b→Bu (.slice oa n cap)=some b∨w.heap.size≤b):=by
  have hl:ys.length=m * 1:=by rw [hys,Lib.strCells_length,hm,Nat.mul_one]
  have h1:∀ u∈ys,u.oneCell'=true:=by rw [hys];exact Lib.strCells_oneCell _
  have hmm:(⟨st.toArray⟩:ByteArray).size=m:=hm.symm
  rw [← hsize] at hok hl hzs ⊢
  have hlen:(xs ++ ys).length=(n+m) * i.size:=by rw [List.length_append,hok.1,hl,Nat.add_mul]
  have h63i : ¬ (9223372036854775807 < ((n:Int)+(m:Int))):=by unfold maxLen at h63;omega
  have hnew:∀ w1:World,(Builtin.firstCells i.size m (.string ⟨st.toArray⟩)).run P w1=.ok ys.toArray w1:=by
    intro w1
    rw [hys,hm]
    exact Lib.run_firstCells_string (P:=P) w1 i.size ⟨st.toArray⟩
  have grow:∀ (old:Nat) (xs':Array Value),xs'=xs.toArray → 
      SlOk e i.size (.slice (some ⟨w.heap.size,0,none⟩) (n+m) (grownCap w (n+m) old e)) (n+m) (xs ++ ys) (hp (w.drew.alloc (.cells (xs' ++ ys.toArray ++ Builtin.zeroCells z.cells (grownCap w (n+m) old e - (n+m))) e))):=by
    intro old xs' hx'
    subst hx'
    have hge:=grownCap_ge w (n+m) old e
    have hcm:grownCap w (n+m) old e≤maxLen:=grownCap_le_maxLen w (n+m) old e h63
    refine ⟨hlen,.inr ⟨w.heap.size,_,_,rfl,Ej w.drew _,hge,hcm,?_,?_⟩⟩
    · simp only [Array.size_append, List.size_toArray, size_zeroCells, hzs, hok.1, hl, ← Nat.add_mul]
      congr 1
      omega
    · simp only [Array.toList_append, List.append_assoc]
      rw [← List.append_assoc,← hlen]
      exact List.take_left
  have kgrow:∀ (c:Array Value) (t:TypeId),Keep (fun b=>Bu (.slice oa n cap)=some b) w (w.drew.alloc (.cells c t)):=fun c t=>(Keep.drew _ w).trans (Keep.alloc Nil w.drew _ (Eo c t)) (fun _ _ h=>h.elim)
  rcases hok.2 with ⟨hv,hn0⟩ | ⟨g,cap',cur,hv,hg,hnc,hcm,hcs,htake⟩
  · simp only [Value.slice.injEq] at hv
    obtain ⟨rfl,_,rfl⟩:=hv
    subst hn0
    have hx:xs=[]:=List.eq_nil_of_length_eq_zero (by simpa using hok.1)
    subst hx
    by_cases hm0:m=0
    · subst hm0
      have hy:ys=[]:=List.eq_nil_of_length_eq_zero (by simpa using hl)
      subst hy
      refine ⟨none,0,w,?_,⟨by simp,.inl ⟨rfl,rfl⟩⟩,.refl _ _,fun b hb=>by simp [Bu] at hb⟩
      have h0:=hnew w
      simp [Builtin.append_,run_underlying ht,run_underlying hu,sizeOf,typeInfo,hi,Builtin.lenOf,hmm,h0]
    · have hgr := grow 0 #[] rfl
      have h48' : ¬ (281474976710656 < Builtin.nextslicecap m 0 * i.bytes):=by
        rw [nextslicecap_zero (by omega)];simp only [Nat.zero_add] at hmb;omega
      have h0:=hnew w.drew
      have h63m : ¬ (9223372036854775807 < (m:Int)):=by omega
      simp only [Nat.zero_add] at hgr ⊢
      refine ⟨_,_,_,?_,hgr,kgrow _ _,fun b hb=>.inr (by simp [Bu] at hb;omega)⟩
      simp [Builtin.append_,run_underlying ht,run_underlying hu,sizeOf,typeInfo,zeroValue,hi,hz,Builtin.lenOf,hmm,hm0,h63m,h48',Question.forced,run_firstCells_none,h0,newRow,grownCap]
  · simp only [Value.slice.injEq] at hv
    obtain ⟨rfl,_,rfl⟩:=hv
    by_cases hroom:n+m≤cap
    · have hfit : n * i.size + ys.length ≤ cur.size := by rw [hl, hcs, ← Nat.add_mul]; exact Nat.mul_le_mul_right _ hroom
      have hst:=run_storeCells_at P g (n * i.size) e ys 0 cur w hg (by simpa using hfit) h1
      simp only [Nat.add_zero] at hst
      have h0:=hnew w
      refine ⟨some ⟨g,0,none⟩,cap,w.setRow g (cur.toList.take (n * i.size) ++ ys ++ cur.toList.drop (n * i.size+ys.length)).toArray,?_,⟨hlen,.inr ⟨g,cap,_,rfl,setRow_heap w g cur _ e _ hg,hroom,hcm,?_,?_⟩⟩,
        ⟨rfl,rfl,rfl,by simp,fun x _ hx=>setRow_other w g x _ (fun e=>hx (by simp [Bu,e])),fun a _=>Hd w g _ a⟩,fun b hb=>.inl hb⟩
      · simp [Builtin.append_,run_underlying ht,run_underlying hu,sizeOf,typeInfo,hi,Builtin.lenOf,hmm,hroom,h0,Df,hst]
      · simp only [List.size_toArray, List.length_append, List.length_take, List.length_drop, Array.length_toList]
        omega
      · rw [htake, ← hlen]
        exact List.take_left
    · have hgr := grow cap xs.toArray rfl
      have h48' : ¬ (281474976710656 < Builtin.nextslicecap (n+m) cap * i.bytes):=by
        have:=growslice_fits (need:=n+m) (old:=cap) (bytes:=i.bytes) (by omega) hmb
        omega
      have h0:=hnew w.drew
      have hold:(Builtin.firstCells i.size n (.slice (some ⟨g,0,none⟩) n cap)).run P w.drew=.ok xs.toArray w.drew:=by
        refine run_firstCells_some (P:=P) w.drew i.size n ⟨g,0,none⟩ n cap xs hok.1 (fun j v hj=>?_)
        rw [Df]
        have:=(SlOk.rd hok).cell j v hj
        rw [Gq] at this
        exact this
      refine ⟨_,_,_,?_,hgr,kgrow _ _,fun b hb=>.inr (by simp [Bu] at hb;omega)⟩
      simp [Builtin.append_,run_underlying ht,run_underlying hu,sizeOf,typeInfo,zeroValue,hi,hz,Builtin.lenOf,hmm,hroom,h63i,h48',Question.forced,hold,h0,newRow,grownCap]
      congr 2
      rw [← Array.append_assoc]
      congr 1
      simp
end
end Go.LL
