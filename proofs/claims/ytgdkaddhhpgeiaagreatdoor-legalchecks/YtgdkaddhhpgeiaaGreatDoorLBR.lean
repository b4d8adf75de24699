/- Walks through statements by choices. No condition: plain lemmas. -/
import Derived.Test.YtgdkaddhhpgeiaaGreatDoorLBN
namespace Go.MD.LB
open Go Go.MD
theorem Yr {l:List api_Stmt} {x:api_Stmt} {a c r:B} (hb:OKB (.cons x a c r)) (h:l=(B.cons x a c r).flat) :
    0 < l.length∧getI l 0=some x∧IntKind.i64.wrap (1+x.Body)=((1+a.size:Nat):Int)∧IntKind.i64.wrap (((1+a.size:Nat):Int)+x.Else)=((1+a.size+c.size:Nat):Int)∧
    Du l 1 ((1+a.size:Nat):Int)=some a.flat∧Du l ((1+a.size:Nat):Int) ((1+a.size+c.size:Nat):Int)=some c.flat∧
    Du l ((1+a.size+c.size:Nat):Int) (l.length:Int)=some r.flat:=by
  have hl:l.length≤40:=by rw [h,B.flat_len];exact hb.size
  obtain ⟨h1,h2,w1,w2,w3,s1,s2,s3,s4⟩:=parts (i:=0) hl hb (by rw [List.drop_zero];exact h)
  simp only [Nat.zero_add] at w1 w2 w3 s1 s2 s3 s4
  refine ⟨h1,h2,w2,w3,s1,s2,?_⟩
  rw [show (l.length:Int)=((1+a.size+c.size+r.size:Nat):Int) from by omega,Gb (by omega),s3,List.take_of_length_le (by rw [B.flat_len];exact Nat.le_refl _)]
end Go.MD.LB
