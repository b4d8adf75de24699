/- The engine's sixth part: copies, and arrays read as slices. No condition: plain lemmas. -/
import Derived.Test.YtbblmeecfimnkaaGreatDoorLLe
import Derived.Laws.CopyOwn
namespace Go.LL
open Go
section
variable {P:Program} {ops:Array Oper} {Q:Exit→Act→World→Prop} {a:Act} {w:World} {N:FN} {F:List (Nat×Value)}
  {w0:World} {M:Nat→Prop} {Hs:List PH} {L L':List HA} {K:Act→World→Prop}
  {d:Nat} {ty:TypeId} {pos:String} {af:Array Edge}
inductive PickL:List HA→List HA→Prop
  | nil {L:List HA}:PickL [] L
  | cons {A:HA} {L L1 L':List HA} (h:Pick A L L1) (t:PickL L' L1):PickL (A :: L') L
theorem Pick.mem2 {A:HA} {L L1:List HA} (h:Pick A L L1):A∈L∧∀ B∈L1,B∈L:=by
  induction h with
  | head=>exact ⟨.head _,fun B h=>.tail _ h⟩
  | tail _ ih =>
    refine ⟨.tail _ ih.1,fun B h=>?_⟩
    rcases List.mem_cons.1 h with rfl | h
    · exact .head _
    · exact .tail _ (ih.2 B h)
theorem Apart.symm {A B:HA} (h:Apart A B):Apart B A:=fun b h1 h2=>h b h2 h1
theorem Pick.disj {A:HA} {L L1:List HA} (h:Pick A L L1) (hd:L.Pairwise Apart):(∀ B∈L1,Apart A B)∧L1.Pairwise Apart:=by
  induction h with
  | head=>exact ⟨(List.pairwise_cons.1 hd).1,(List.pairwise_cons.1 hd).2⟩
  | tail h ih =>
    obtain ⟨h1,h2⟩:=List.pairwise_cons.1 hd
    obtain ⟨h3,h4⟩:=ih h2
    refine ⟨fun B hB=>?_,List.pairwise_cons.2 ⟨fun B hB=>h1 B (h.mem2.2 B hB),h4⟩⟩
    rcases List.mem_cons.1 hB with rfl | hB
    · exact (h1 _ h.mem2.1).symm
    · exact h3 B hB
theorem PickL.mem {L L':List HA} (h:PickL L' L):∀ B∈L',B∈L:=by
  induction h with
  | nil=>intro B h;cases h
  | cons h _ ih =>
    intro B hB
    rcases List.mem_cons.1 hB with rfl | hB
    · exact h.mem2.1
    · exact h.mem2.2 B (ih B hB)
theorem PickL.disj {L L':List HA} (h:PickL L' L) (hd:L.Pairwise Apart):L'.Pairwise Apart:=by
  induction h with
  | nil=>exact .nil
  | cons h t ih =>
    obtain ⟨h1,h2⟩:=h.disj hd
    exact List.pairwise_cons.2 ⟨fun B hB=>h1 B (t.mem B hB),ih h2⟩
theorem St.pickL (hS:St w0 M Hs L w) (h:PickL L' L):St w0 M Hs L' w:=
  ⟨hS.keep,hS.hs,fun A hA=>hS.ok A (h.mem A hA),fun A hA=>hS.own A (h.mem A hA),h.disj hS.disj⟩
theorem St.unsep {K:List HA} (hS:St w0 M Hs (sepA K :: L) w):St w0 M Hs (K ++ L) w:=by
  have h1:=sepA_ok.1 (hS.ok (sepA K) (.head _))
  obtain ⟨h2,h3⟩:=List.pairwise_cons.1 hS.disj
  refine ⟨hS.keep,hS.hs,fun A hA=>?_,fun A hA=>?_,List.pairwise_append.2 ⟨h1.2,h3,fun A hA B hB b hb=>h2 B hB b ⟨A,hA,hb⟩⟩⟩
  · rcases List.mem_append.1 hA with h | h
    · exact h1.1 A h
    · exact hS.ok A (.tail _ h)
  · rcases List.mem_append.1 hA with h | h
    · exact fun b hb=>hS.own (sepA K) (.head _) b ⟨A,h,hb⟩
    · exact hS.own A (.tail _ h)
end
end Go.LL
