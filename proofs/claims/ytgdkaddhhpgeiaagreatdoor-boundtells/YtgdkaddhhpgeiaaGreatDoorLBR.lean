/- Walks through statements by choices. No condition: plain lemmas. -/
import Derived.Test.YtgdkaddhhpgeiaaGreatDoorLBN
namespace Go.MD.LB
open Go Go.MD
theorem Qm {l:List api_Stmt} {x:api_Stmt} {a c r:B} (hb:OKB (.cons x a c r)) (h:l=(B.cons x a c r).flat) :
    0 < l.length∧getI l 0=some x∧IntKind.i64.wrap (1+x.Body)=((1+a.size:Nat):Int)∧IntKind.i64.wrap (((1+a.size:Nat):Int)+x.Else)=((1+a.size+c.size:Nat):Int)∧
    Ci l 1 ((1+a.size:Nat):Int)=some a.flat∧Ci l ((1+a.size:Nat):Int) ((1+a.size+c.size:Nat):Int)=some c.flat∧
    Ci l ((1+a.size+c.size:Nat):Int) (l.length:Int)=some r.flat:=by
  have hl:l.length≤40:=by rw [h,B.flat_len];exact hb.size
  obtain ⟨h1,h2,w1,w2,w3,s1,s2,s3,s4⟩:=parts (i:=0) hl hb (by rw [List.drop_zero];exact h)
  simp only [Nat.zero_add] at w1 w2 w3 s1 s2 s3 s4
  refine ⟨h1,h2,w2,w3,s1,s2,?_⟩
  rw [show (l.length:Int)=((1+a.size+c.size+r.size:Nat):Int) from by omega,Gl (by omega),s3,List.take_of_length_le (by rw [B.flat_len];exact Nat.le_refl _)]
theorem N7:∀ (f:Nat) (b:B),OKB b→b.size+2≤f→Z7w f b.flat=some (b.steps:Int):=by
  intro f
  induction f with
  | zero=>intro b _ h;omega
  | succ f ih =>
    intro b hb hf
    cases b with
    | nil=>rfl
    | cons x a c r =>
      obtain ⟨h1,h2,w2,w3,s1,s2,s3⟩:=Qm hb rfl
      have bb:=hb.big
      simp only [B.size] at hf
      generalize hl:(B.cons x a c r).flat=l at h1 h2 s1 s2 s3
      rw [Z7w,if_neg (by omega),h2]
      simp only [Option.bind_some,Kt,w2,w3,s1,s2]
      rw [ih a hb.a (by omega),ih c hb.c (by omega)]
      simp only [Option.bind_some]
      simp only [B.steps] at bb ⊢
      unfold BIG at bb
      have j2:∀ u:Nat,u+r.steps≤5497558138880→Z7y (Z7w f) l x (u:Int)=some ((u+r.steps:Nat):Int):=by
        intro u hu
        rw [Z7y]
        simp only [w2,w3,s3,Option.bind_some]
        rw [ih r hb.r (by omega)]
        simp only [Option.bind_some]
        rw [w64 (by omega) (by omega)]
        rfl
      by_cases k1:x.Kind=11
      · rw [if_pos k1] at bb ⊢
        rw [if_pos k1,Z7x,if_neg (by omega),Vh,j2 _ (by omega)]
      · rw [if_neg k1] at bb ⊢
        rw [if_neg k1,Z7x]
        by_cases k2:x.Kind=12
        · rw [if_pos k2] at bb ⊢
          rw [if_pos k2]
          simp only [w2,s1,Option.bind_some]
          rw [ih a hb.a (by omega)]
          simp only [Option.bind_some]
          have hN:=hb.okN.1 k2
          obtain ⟨m,hm⟩:∃ m:Nat,x.N=(m:Int):=⟨x.N.toNat,by omega⟩
          rw [hm,Int.toNat_natCast] at bb ⊢
          rw [← Int.natCast_mul]
          generalize m * a.steps=q at bb
          rw [w64 (by omega) (by omega),j2 _ (by omega)]
        · rw [if_neg k2] at bb ⊢
          rw [if_neg k2,j2 _ (by omega)]
end Go.MD.LB
