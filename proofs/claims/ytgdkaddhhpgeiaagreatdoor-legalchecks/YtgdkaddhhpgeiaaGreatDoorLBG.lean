/- Expressions as trees. No condition: plain lemmas. -/
import Derived.Test.YtgdkaddhhpgeiaaGreatDoorLBP
import Derived.Test.YtgdkaddhhpgeiaaGreatDoorPL
namespace Go.MD.LB
open Go Go.MD
def ar (k:Int):Int:=if k=1∨k=2 then 0 else if k=3∨k=4 then 1 else if 5≤k∧k≤15 then 2 else -1
theorem Jf (N:Nat) (k:Int):Zb N k=some (ar k):=by
  unfold Zb ar
  simp only [Bool.or_eq_true,Bool.and_eq_true,decide_eq_true_eq]
  repeat' split
  all_goals rfl
theorem Fq (N:Nat) (k:Int):Z2d N k=some (ar k):=by
  unfold Z2d ar
  simp only [Bool.or_eq_true,Bool.and_eq_true,decide_eq_true_eq]
  repeat' split
  all_goals rfl
theorem Kf (k:Int):(ar k=0∧(k=1∨k=2))∨(ar k=1∧(k=3∨k=4))∨(ar k=2∧5≤k∧k≤15)∨(ar k = -1∧(k < 1∨15 < k)):=by
  unfold ar
  repeat' split
  all_goals omega
inductive T
  | leaf (x:api_Node)
  | un (x:api_Node) (a:T)
  | bin (x:api_Node) (a b:T)
def T.flat:T→List api_Node
  | .leaf x=>[x]
  | .un x a=>x :: a.flat
  | .bin x a b=>x :: (a.flat ++ b.flat)
def T.size:T→Nat
  | .leaf _=>1
  | .un _ a=>a.size+1
  | .bin _ a b=>a.size+b.size+1
def T.depth:T→Nat
  | .leaf _=>1
  | .un _ a=>a.depth+1
  | .bin _ a b=>max a.depth b.depth+1
def T.wk:T→Prop
  | .leaf x=>ar x.Op=0
  | .un x a=>ar x.Op=1∧a.wk
  | .bin x a b=>ar x.Op=2∧a.wk∧b.wk
theorem T.flat_len:∀ t:T,t.flat.length=t.size
  | .leaf _=>rfl
  | .un _ a=>by simp [T.flat,T.size,T.flat_len a]
  | .bin _ a b=>by simp [T.flat,T.size,T.flat_len a,T.flat_len b]
theorem T.depth_le:∀ t:T,t.depth≤t.size
  | .leaf _=>Nat.le_refl _
  | .un _ a=>by have:=T.depth_le a;simp [T.depth,T.size];omega
  | .bin _ a b=>by have:=T.depth_le a;have:=T.depth_le b;simp only [T.depth,T.size];omega
theorem T.size_pos:∀ t:T,0 < t.size
  | .leaf _=>Nat.zero_lt_one
  | .un _ _=>Nat.succ_pos _
  | .bin _ _ _=>Nat.succ_pos _
def Ff:Nat→List api_Node→Option (List api_Node)
  | 0,s=>some s
  | _+1,[]=>none
  | w+1,x :: s=>if ar x.Op < 0 then none else Ff (w+(ar x.Op).toNat) s
theorem Eh (s:List api_Node):Ff 0 s=some s:=by cases s <;> rfl
theorem Dh (w:Nat) (x:api_Node) (s:List api_Node):Ff (w+1) (x :: s)=if ar x.Op < 0 then none else Ff (w+(ar x.Op).toNat) s:=rfl
theorem Pd (v:Nat):∀ (s:List api_Node) (w:Nat),Ff (w+v) s=(Ff w s).bind (Ff v)
  | s,0=>by rw [Nat.zero_add,Eh];rfl
  | [],w+1=>by rw [show w+1+v=(w+v)+1 by omega];rfl
  | x :: s, w + 1 => by
    rw [show w+1+v=(w+v)+1 by omega,Dh,Dh]
    split
    · rfl
    · rw [show w + v + (ar x.Op).toNat = w + (ar x.Op).toNat + v by omega]
      exact Pd v s _
theorem Jr:∀ (s:List api_Node) (w:Nat) {r:List api_Node},Ff w s=some r→∃ p,s=p ++ r
  | s,0,r,h=>by rw [Eh] at h;cases h;exact ⟨[],rfl⟩
  | [],w+1,r,h=>by cases h
  | x :: s, w + 1, r, h => by
    rw [Dh] at h
    split at h
    · cases h
    · obtain ⟨p, hp⟩ := Jr s _ h
      exact ⟨x :: p,by rw [hp];rfl⟩
theorem Ht:∀ (t:T) (w:Nat) (s:List api_Node),t.wk→Ff (w+1) (t.flat ++ s)=Ff w s
  | .leaf x, w, s, h => by
    have h':ar x.Op=0:=h
    show Ff (w+1) (x :: s)=_
    rw [Dh,if_neg (by omega),h'];rfl
  | .un x a, w, s, h => by
    obtain ⟨h1,h2⟩:=h
    show Ff (w+1) (x :: (a.flat ++ s))=_
    rw [Dh,if_neg (by omega),h1]
    exact Ht a w s h2
  | .bin x a b, w, s, h => by
    obtain ⟨h1,h2,h3⟩:=h
    show Ff (w+1) (x :: ((a.flat ++ b.flat) ++ s))=_
    rw [Dh,if_neg (by omega),h1,List.append_assoc]
    show Ff ((w+1)+1) _=_
    rw [Ht a (w+1) _ h2,Ht b w s h3]
theorem Kd:∀ (n:Nat) (s:List api_Node) (w:Nat) (r:List api_Node),s.length≤n→Ff (w+1) s=some r→∃ (t:T) (s':List api_Node),t.wk∧s=t.flat ++ s'∧Ff w s'=some r
  | 0, s, w, r, hl, h => by
    have:s=[]:=List.eq_nil_of_length_eq_zero (by omega)
    subst this;cases h
  | n+1,[],w,r,hl,h=>by cases h
  | n + 1, x :: s, w, r, hl, h => by
    rw [Dh] at h
    simp only [List.length_cons] at hl
    rcases Kf x.Op with ⟨h1,_⟩ | ⟨h1,_⟩ | ⟨h1,_⟩ | ⟨h1,_⟩
    · rw [if_neg (by omega), h1] at h
      exact ⟨.leaf x,s,h1,rfl,h⟩
    · rw [if_neg (by omega), h1] at h
      obtain ⟨a,s',k1,k2,k3⟩:=Kd n s w r (by omega) h
      exact ⟨.un x a,s',⟨h1,k1⟩,by rw [k2];rfl,k3⟩
    · rw [if_neg (by omega), h1] at h
      obtain ⟨a,s',k1,k2,k3⟩:=Kd n s (w+1) r (by omega) h
      have hs':s'.length≤n:=by rw [k2] at hl;simp at hl;omega
      obtain ⟨b,s'',j1,j2,j3⟩:=Kd n s' w r hs' k3
      exact ⟨.bin x a b,s'',⟨h1,k1,j1⟩,by rw [k2,j2];simp [T.flat],j3⟩
    · rw [if_pos (by omega)] at h;cases h
def Ew (w:Nat) (l:List api_Node) (i:Nat):Int:=match Ff w (l.drop i) with | some r=>(l.length:Int) - (r.length:Int) | none=>-1
theorem Jj {l p q:List api_Node} {t:T} (hl:l=p ++ (t.flat ++ q)) (ht:t.wk):Ew 1 l p.length=((p.length+t.size:Nat):Int):=by
  unfold Ew
  rw [hl,List.drop_left,Ht t 0 q ht,Eh]
  simp only [List.length_append,T.flat_len]
  omega
theorem Vi {N:Nat} {l:List api_Node} (hl:l.length≤1000):∀ (d i n w:Nat),i+d=l.length→d+1 < n→w≤2 * i+1→
    Z4 N Z2 l n (i:Int) (w:Int)=some (Ew w l i):=by
  intro d
  induction d with
  | zero =>
    intro i n w hi hn hw
    obtain ⟨n,rfl⟩:∃ m,n=m+1:=⟨n - 1,by omega⟩
    rw [Z4]
    unfold Ew
    rw [List.drop_of_length_le (by omega)]
    cases w with
    | zero=>rw [if_neg (by omega),Z2,Eh];simp;omega
    | succ w=>rw [if_pos (by omega),if_pos (by simp;omega),Z3,if_pos rfl];rfl
  | succ d ih =>
    intro i n w hi hn hw
    obtain ⟨n,rfl⟩:∃ m,n=m+1:=⟨n - 1,by omega⟩
    have h1:i < l.length:=by omega
    rw [Z4]
    cases w with
    | zero =>
      unfold Ew
      rw [if_neg (by omega),Z2,Eh];simp;omega
    | succ w =>
      rw [if_pos (by omega),if_neg (by simp;omega),As rfl h1]
      simp only [Option.bind_some,Jf]
      have ha:=Kf l[i].Op
      have he:Ew (w+1) l i=if ar l[i].Op < 0 then -1 else Ew (w+(ar l[i].Op).toNat) l (i+1):=by
        unfold Ew
        rw [List.drop_eq_getElem_cons h1,Dh]
        by_cases hq:ar l[i].Op < 0
        · rw [if_pos hq,if_pos hq]
        · rw [if_neg hq,if_neg hq]
      rw [he,Z3]
      by_cases hn1:ar l[i].Op = -1
      · rw [if_pos (by simp [hn1]),if_pos (by omega)]
      · rw [if_neg (by simp [hn1]), if_neg (by omega), As rfl h1]
        simp only [Option.bind_some,Jf]
        rw [Bf h1 (by omega),w64 (n:=((w+1:Nat):Int)+ar l[i].Op) (by omega) (by omega),w64 (by omega) (by omega),show ((w+1:Nat):Int)+ar l[i].Op - 1=((w+(ar l[i].Op).toNat:Nat):Int) by omega]
        exact ih (i+1) n _ (by omega) (by omega) (by omega)
theorem Vd {N:Nat} {l:List api_Node} (hl:l.length≤1000) (hN:l.length+1 < N) {i:Nat} (hi:i≤l.length):Z1 N l (i:Int)=some (Ew 1 l i):=by
  unfold Z1
  exact Vi (N:=N) hl (l.length - i) i N 1 (by omega) (by omega) (by omega)
theorem Rw {l:List api_Node} (hl:l.length≤1000):∀ (N i:Nat),i≤l.length→(l.length - i)+5≤N→Z23 N l (i:Int)=some (Ew 1 l i):=by
  intro N
  induction N with
  | zero=>intro i hi hN;omega
  | succ N ih =>
    intro i hi hN
    rw [Z23]
    by_cases h1:i < l.length
    · rw [if_neg (by simp; omega), As rfl h1]
      simp only [Option.bind_some,Fq]
      have he:Ew 1 l i=if ar l[i].Op < 0 then -1 else Ew (ar l[i].Op).toNat l (i+1):=by
        unfold Ew
        rw [List.drop_eq_getElem_cons h1,Dh,Nat.zero_add]
        by_cases hq:ar l[i].Op < 0
        · rw [if_pos hq,if_pos hq]
        · rw [if_neg hq,if_neg hq]
      rw [he,Z24]
      obtain ⟨M,rfl⟩:∃ M,N=M+4:=⟨N - 4,by omega⟩
      have step:∀ (n:Nat) (v k:Int),Z26 (Z23 (M+4)) (M+4) Z25 l (i:Int) (n+1) v k=if k < ar l[i].Op∧0≤v then (Z23 (M+4) l v).bind fun r=>Z26 (Z23 (M+4)) (M+4) Z25 l (i:Int) n r (IntKind.i64.wrap (k+1)) else some v:=by
        intro n v k
        rw [Z26,As rfl h1]
        simp only [Option.bind_some,Fq,Bool.and_eq_true,decide_eq_true_eq]
        rfl
      have w1:IntKind.i64.wrap (0+1)=1:=by decide
      have w2:IntKind.i64.wrap (1+1)=2:=by decide
      rcases Kf l[i].Op with ⟨a1,_⟩ | ⟨a1,_⟩ | ⟨a1,_⟩ | ⟨a1,_⟩
      · rw [if_neg (by simp; omega), if_neg (by omega), a1, Bf h1 (by omega), step, if_neg (by omega)]
        unfold Ew
        rw [show (0:Int).toNat=0 from rfl,Eh]
        simp;omega
      · rw [if_neg (by simp; omega), if_neg (by omega), Bf h1 (by omega), step, if_pos (by omega), ih (i + 1) (by omega) (by omega)]
        simp only [Option.bind_some]
        rw [w1,step,if_neg (by omega),a1];rfl
      · rw [if_neg (by simp; omega), if_neg (by omega), Bf h1 (by omega), step, if_pos (by omega), ih (i + 1) (by omega) (by omega)]
        simp only [Option.bind_some]
        rw [w1,step,a1]
        have e2:Ew (2:Int).toNat l (i+1)=match Ff 1 (l.drop (i+1)) with | some r=>(match Ff 1 r with | some r'=>(l.length:Int) - (r'.length:Int) | none=>-1) | none=>-1:=by
          unfold Ew
          rw [show (2:Int).toNat=1+1 from rfl,Pd]
          cases Ff 1 (l.drop (i+1)) <;> rfl
        rw [e2]
        have e1:Ew 1 l (i+1)=match Ff 1 (l.drop (i+1)) with | some r=>(l.length:Int) - (r.length:Int) | none=>-1:=rfl
        rw [e1]
        cases hr:Ff 1 (l.drop (i+1)) with
        | none=>simp only;rw [if_neg (by omega)]
        | some r =>
          obtain ⟨p,hp⟩:=Jr _ _ hr
          have hlen:(l.drop (i+1)).length=p.length+r.length:=by rw [hp,List.length_append]
          rw [List.length_drop] at hlen
          simp only
          have hd:l.drop (l.length - r.length)=r:=by
            have:=congrArg (List.drop p.length) hp
            rw [List.drop_drop,List.drop_left] at this
            rw [show l.length - r.length=i+1+p.length by omega]
            exact this
          have hb:r.length≤l.length:=by omega
          rw [if_pos (by omega),show (l.length:Int) - (r.length:Int)=((l.length - r.length:Nat):Int) by omega,ih (l.length - r.length) (by omega) (by omega)]
          simp only [Option.bind_some]
          rw [w2,step,if_neg (by omega)]
          unfold Ew
          rw [hd]
      · rw [if_pos (by simp;omega),if_pos (by omega)]
    · rw [if_pos (by simp; omega), Z24, if_pos rfl]
      unfold Ew
      rw [List.drop_of_length_le (by omega)]
      rfl
end Go.MD.LB
