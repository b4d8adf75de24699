/- Cells as the document has them. No condition: plain lemmas. -/
import Derived.Test.YtgdkaddhhpgeiaaGreatDoorLBU
namespace Go.MD.LB
open Go Go.MD
theorem Qa {N:Nat} {p q:List Str} (hl:p.length=q.length) (hp:p.length≤1000):∀ (d j n:Nat),j+d=p.length→d < n→
    Z5f N Z5e p q n (j:Int)=some (decide (p.drop j=q.drop j)):=by
  intro d
  induction d with
  | zero =>
    intro j n hj hn
    obtain ⟨n,rfl⟩:∃ m,n=m+1:=⟨n - 1,by omega⟩
    rw [Z5f,if_neg (by omega),List.drop_of_length_le (by omega),List.drop_of_length_le (by omega)]
    rfl
  | succ d ih =>
    intro j n hj hn
    obtain ⟨n,rfl⟩:∃ m,n=m+1:=⟨n - 1,by omega⟩
    have h1:j < p.length:=by omega
    have h2:j < q.length:=by omega
    rw [Z5f,if_pos (by omega),Ax rfl h1]
    simp only [Option.bind_some]
    rw [Ax rfl h2]
    simp only [Option.bind_some]
    rw [List.drop_eq_getElem_cons h1,List.drop_eq_getElem_cons h2]
    by_cases e:p[j]=q[j]
    · rw [if_neg (by simpa using e), Bf h1 (by omega), ih (j + 1) n (by omega) (by omega)]
      simp only [List.cons.injEq,e,true_and]
    · rw [if_pos e]
      simp only [List.cons.injEq,e,false_and,decide_false]
theorem Tp {N:Nat} {p q:List Str} (hp:p.length≤1000) (hN:p.length < N):Z5d N p q=some (decide (p=q)):=by
  unfold Z5d
  by_cases h:p.length=q.length
  · rw [if_neg (by omega), show (0 : Int) = ((0 : Nat) : Int) from rfl, Qa h hp p.length 0 N (by omega) hN]
    rfl
  · rw [if_pos (by omega),decide_eq_false (fun e=>h (congrArg List.length e))]
theorem Ff {l:List Str} {s:Str} (hl:l.length≤1000):Z63 1001 l s=some (Fg l s 0):=by
  unfold Z63
  rw [Um hl (by omega)];rfl
end Go.MD.LB
