/- What is done at worst. No condition: plain lemmas. -/
import Derived.Test.YtgdkaddhhpgeiaaGreatDoorLBM
namespace Go.MD.LB
open Go Go.MD
def rep (k:Nat) (l:List Int):List Int:=(List.replicate k l).flatten
theorem Ints_loop {N:Nat} {p q:List Int} (hl:p.length=q.length) (hp:p.length≤1000):∀ (d j n:Nat),j+d=p.length→d < n→
    Z4r N Z4q p q n (j:Int)=some (decide (p.drop j=q.drop j)):=by
  intro d
  induction d with
  | zero =>
    intro j n hj hn
    obtain ⟨n,rfl⟩:∃ m,n=m+1:=⟨n - 1,by omega⟩
    rw [Z4r,if_neg (by omega),List.drop_of_length_le (by omega),List.drop_of_length_le (by omega)]
    rfl
  | succ d ih =>
    intro j n hj hn
    obtain ⟨n,rfl⟩:∃ m,n=m+1:=⟨n - 1,by omega⟩
    have h1:j < p.length:=by omega
    have h2:j < q.length:=by omega
    rw [Z4r,if_pos (by omega),getI_at rfl h1]
    simp only [Option.bind_some]
    rw [getI_at rfl h2]
    simp only [Option.bind_some]
    rw [List.drop_eq_getElem_cons h1,List.drop_eq_getElem_cons h2]
    by_cases e:p[j]=q[j]
    · rw [if_neg (by simpa using e), wsucc h1 (by omega), ih (j + 1) n (by omega) (by omega)]
      simp only [List.cons.injEq,e,true_and]
    · rw [if_pos e]
      simp only [List.cons.injEq,e,false_and,decide_false]
theorem Ints_eq {N:Nat} {p q:List Int} (hp:p.length≤1000) (hN:p.length < N):Z4p N p q=some (decide (p=q)):=by
  unfold Z4p
  by_cases h:p.length=q.length
  · rw [if_neg (by omega), show (0 : Int) = ((0 : Nat) : Int) from rfl, Ints_loop h hp p.length 0 N (by omega) hN]
    rfl
  · rw [if_pos (by omega),decide_eq_false (fun e=>h (congrArg List.length e))]
end Go.MD.LB
