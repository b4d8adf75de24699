/- What is done at worst. No condition: plain lemmas. -/
import Derived.Test.YtgdkaddhhpgeiaaGreatDoorLBM
namespace Go.MD.LB
open Go Go.MD
def rep (k:Nat) (l:List Int):List Int:=(List.replicate k l).flatten
theorem Pq (k:Nat) (l:List Int):rep (k+1) l=l ++ rep k l:=by simp [rep,List.replicate_succ]
def B.ws:B→List Int
  | .nil=>[]
  | .cons x a c r=>(if x.Kind=11 then (if a.steps < c.steps then c.ws else a.ws) else if x.Kind=12 then (if 0 < a.steps then rep x.N.toNat a.ws else []) else if 0 < cS x.Kind then [x.Kind] else []) ++ r.ws
theorem Kb {u b:List Int} (m:Nat):((u.take m) ++ b).take m=(u ++ b).take m:=by
  rw [List.take_append,List.take_append,List.take_take,Nat.min_self,List.length_take]
  congr 2
  omega
theorem Eh {u:List Int} {m:Nat}:(u.take m).length≤m:=by rw [List.length_take];omega
theorem Mq {u b:List Int} {m:Nat} (h:u.length=m):(u ++ b).take m=u:=by rw [← h,List.take_left]
theorem Jaq {u:List Int} {k:Int} (h:u.length≤1000):Cx 8 u [k]=some (u ++ [k]):=Cg (by simp;omega) (by decide)
abbrev WF:=Za
theorem Tz {rf:List api_Stmt→List Int→Int→Option (List Int)} {f:Nat} {k:List Int→Option (List Int)} {most:Int} {x:api_Stmt} {l:List api_Stmt} {ws:List Int} (hx:x.N≤8)
    (hr:∀ v:List Int,v.length≤most.toNat→rf l v most=some ((v ++ ws).take most.toNat)) :
    ∀ (d j n:Nat) (v:List Int),(j:Int)+d=x.N→d < n→v.length≤most.toNat→Zf rf f k most x l n v (j:Int)=k ((v ++ rep d ws).take most.toNat):=by
  intro d
  induction d with
  | zero =>
    intro j n v hj hn hv
    obtain ⟨n,rfl⟩:∃ m,n=m+1:=⟨n - 1,by omega⟩
    rw [Zf,if_neg (by omega)]
    simp [rep,List.take_of_length_le hv]
  | succ d ih =>
    intro j n v hj hn hv
    obtain ⟨n,rfl⟩:∃ m,n=m+1:=⟨n - 1,by omega⟩
    rw [Zf,if_pos (by omega),hr v hv]
    simp only [Option.bind_some]
    rw [Be (n:=8) (by omega) (by decide),ih (j+1) n _ (by omega) (by omega) Eh,Kb,Pq,List.append_assoc]
theorem Vx:∀ (f:Nat) (b:B),OKB b→b.size+12≤f→∀ (out:List Int) (most:Int),most≤1000→out.length≤most.toNat→WF f b.flat out most=some ((out ++ b.ws).take most.toNat):=by
  intro f
  induction f with
  | zero=>intro b _ h;omega
  | succ f ih =>
    intro b hb hf out most hmost hout
    have hl:b.flat.length≤40:=by rw [B.flat_len];exact hb.size
    have key:∀ (t:B) (i n:Nat) (v:List Int),OKB t→b.flat.drop i=t.flat→t.size < n→t.size≤b.size→v.length≤most.toNat→
        Ze (WF f) f b.flat most n v (i:Int)=some ((v ++ t.ws).take most.toNat):=by
      intro t
      induction t with
      | nil =>
        intro i n v ht hd hn _ hv
        obtain ⟨n,rfl⟩:∃ q,n=q+1:=⟨n - 1,by omega⟩
        have:b.flat.length≤i:=by have:=congrArg List.length hd;simp [B.flat] at this;omega
        rw [Ze,if_neg (by simp only [Bool.and_eq_true,decide_eq_true_eq];omega)]
        simp [B.ws,List.take_of_length_le hv]
      | cons x a c r iha ihc ihr =>
        intro i n v ht hd hn hsz hv
        obtain ⟨n,rfl⟩:∃ q,n=q+1:=⟨n - 1,by omega⟩
        obtain ⟨h1,h2,w1,w2,w3,s1,s2,s3,s4⟩:=parts hl ht hd
        simp only [B.size] at hn hsz
        rw [Ze]
        by_cases hlt:v.length < most.toNat
        rotate_left
        · rw [if_neg (by simp only [Bool.and_eq_true,decide_eq_true_eq];omega),Mq (by omega)]
        rw [if_pos (by simp only [Bool.and_eq_true,decide_eq_true_eq];omega),h2]
        simp only [Option.bind_some,w1,w2,w3,s1,s2]
        have sa:=Jh f a ht.a (by omega)
        have sc:=Jh f c ht.c (by omega)
        have ra:∀ u:List Int,u.length≤most.toNat→WF f a.flat u most=some ((u ++ a.ws).take most.toNat):=fun u hu=>ih a ht.a (by omega) u most hmost hu
        have rc:∀ u:List Int,u.length≤most.toNat→WF f c.flat u most=some ((u ++ c.ws).take most.toNat):=fun u hu=>ih c ht.c (by omega) u most hmost hu
        have next:∀ u:List Int,u.length≤most.toNat→Zb (Ze (WF f) f b.flat most n) x (i:Int) u=some ((u ++ r.ws).take most.toNat):=by
          intro u hu
          rw [Zb]
          simp only [w1,w2,w3]
          exact ihr _ n u ht.r s3 (by omega) (by omega) hu
        simp only [B.ws]
        by_cases k1:x.Kind=11
        · rw [if_pos k1, if_pos k1, sa, sc]
          simp only [Option.bind_some]
          rw [Zc]
          by_cases k2:a.steps < c.steps
          · rw [if_pos (by simpa using k2), if_pos k2, rc v hv]
            simp only [Option.bind_some]
            rw [next _ Eh,Kb,List.append_assoc]
          · rw [if_neg (by simpa using k2), if_neg k2, if_pos k1, ra v hv]
            simp only [Option.bind_some]
            rw [next _ Eh,Kb,List.append_assoc]
        · rw [if_neg k1, if_neg k1, Zc, if_neg (by decide), if_neg k1]
          by_cases k2:x.Kind=12
          · rw [if_pos k2, if_pos k2, sa]
            simp only [Option.bind_some]
            rw [Zd]
            have hN:=ht.okN.1 k2
            by_cases k3:0 < a.steps
            · rw [if_pos (by simp only [decide_eq_true_eq];omega),if_pos k3,show (0:Int)=((0:Nat):Int) from rfl,
                Tz (ws:=a.ws) hN.2 ra x.N.toNat 0 f v (by omega) (by omega) hv,next _ Eh,Kb,List.append_assoc]
            · rw [if_neg (by simp only [decide_eq_true_eq]; omega), if_neg k3, Kk, k2]
              simp only [Option.bind_some]
              rw [if_neg (by decide),next v hv];rfl
          · rw [if_neg k2, if_neg k2, Zd, if_neg (by decide), Kk]
            simp only [Option.bind_some]
            by_cases k3:0 < cS x.Kind
            · rw [if_pos (by omega), if_pos k3, Jaq (by omega)]
              simp only [Option.bind_some]
              rw [next _ (by simp;omega),List.append_assoc]
            · rw [if_neg (by omega),if_neg k3,next v hv];rfl
    rw [WF,Za]
    exact key b 0 f out hb List.drop_zero (by omega) (Nat.le_refl _) hout
theorem Tq {N:Nat} {p q:List Int} (hl:p.length=q.length) (hp:p.length≤1000):∀ (d j n:Nat),j+d=p.length→d < n→
    Z6r N Z6q p q n (j:Int)=some (decide (p.drop j=q.drop j)):=by
  intro d
  induction d with
  | zero =>
    intro j n hj hn
    obtain ⟨n,rfl⟩:∃ m,n=m+1:=⟨n - 1,by omega⟩
    rw [Z6r,if_neg (by omega),List.drop_of_length_le (by omega),List.drop_of_length_le (by omega)]
    rfl
  | succ d ih =>
    intro j n hj hn
    obtain ⟨n,rfl⟩:∃ m,n=m+1:=⟨n - 1,by omega⟩
    have h1:j < p.length:=by omega
    have h2:j < q.length:=by omega
    rw [Z6r,if_pos (by omega),As rfl h1]
    simp only [Option.bind_some]
    rw [As rfl h2]
    simp only [Option.bind_some]
    rw [List.drop_eq_getElem_cons h1,List.drop_eq_getElem_cons h2]
    by_cases e:p[j]=q[j]
    · rw [if_neg (by simpa using e), Be h1 (by omega), ih (j + 1) n (by omega) (by omega)]
      simp only [List.cons.injEq,e,true_and]
    · rw [if_pos e]
      simp only [List.cons.injEq,e,false_and,decide_false]
theorem Jab {N:Nat} {p q:List Int} (hp:p.length≤1000) (hN:p.length < N):Z6p N p q=some (decide (p=q)):=by
  unfold Z6p
  by_cases h:p.length=q.length
  · rw [if_neg (by omega), show (0 : Int) = ((0 : Nat) : Int) from rfl, Tq h hp p.length 0 N (by omega) hN]
    rfl
  · rw [if_pos (by omega),decide_eq_false (fun e=>h (congrArg List.length e))]
end Go.MD.LB
