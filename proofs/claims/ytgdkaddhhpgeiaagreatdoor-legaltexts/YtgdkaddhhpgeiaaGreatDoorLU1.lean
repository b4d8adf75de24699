/- Expressions as trees. No condition: plain lemmas. -/
import Derived.Test.YtgdkaddhhpgeiaaGreatDoorLBP
import Derived.Test.YtgdkaddhhpgeiaaGreatDoorPL
namespace Go.MD.LB.W
open Go Go.MD Go.MD.LB
def ar (k:Int):Int:=if k=1∨k=2 then 0 else if k=3∨k=4 then 1 else if 5≤k∧k≤15 then 2 else -1
theorem Iv (N:Nat) (k:Int):Zb N k=some (ar k):=by
  unfold Zb ar
  simp only [Bool.or_eq_true,Bool.and_eq_true,decide_eq_true_eq]
  repeat' split
  all_goals rfl
theorem Fs (N:Nat) (k:Int):Z1r N k=some (ar k):=by
  unfold Z1r ar
  simp only [Bool.or_eq_true,Bool.and_eq_true,decide_eq_true_eq]
  repeat' split
  all_goals rfl
theorem Kh (k:Int):(ar k=0∧(k=1∨k=2))∨(ar k=1∧(k=3∨k=4))∨(ar k=2∧5≤k∧k≤15)∨(ar k = -1∧(k < 1∨15 < k)):=by
  unfold ar
  repeat' split
  all_goals omega
inductive T
  | leaf (x:api_Node)
  | un (x:api_Node) (a:T)
  | bin (x:api_Node) (a b:T)
def T.flat:T→List api_Node
  | .leaf x=>[x]
  | .un x a=>x :: a.flat
  | .bin x a b=>x :: (a.flat ++ b.flat)
def T.size:T→Nat
  | .leaf _=>1
  | .un _ a=>a.size+1
  | .bin _ a b=>a.size+b.size+1
def T.depth:T→Nat
  | .leaf _=>1
  | .un _ a=>a.depth+1
  | .bin _ a b=>max a.depth b.depth+1
def T.wk:T→Prop
  | .leaf x=>ar x.Op=0
  | .un x a=>ar x.Op=1∧a.wk
  | .bin x a b=>ar x.Op=2∧a.wk∧b.wk
theorem T.flat_len:∀ t:T,t.flat.length=t.size
  | .leaf _=>rfl
  | .un _ a=>by simp [T.flat,T.size,T.flat_len a]
  | .bin _ a b=>by simp [T.flat,T.size,T.flat_len a,T.flat_len b]
theorem T.depth_le:∀ t:T,t.depth≤t.size
  | .leaf _=>Nat.le_refl _
  | .un _ a=>by have:=T.depth_le a;simp [T.depth,T.size];omega
  | .bin _ a b=>by have:=T.depth_le a;have:=T.depth_le b;simp only [T.depth,T.size];omega
theorem T.size_pos:∀ t:T,0 < t.size
  | .leaf _=>Nat.zero_lt_one
  | .un _ _=>Nat.succ_pos _
  | .bin _ _ _=>Nat.succ_pos _
def Fa:Nat→List api_Node→Option (List api_Node)
  | 0,s=>some s
  | _+1,[]=>none
  | w+1,x :: s=>if ar x.Op < 0 then none else Fa (w+(ar x.Op).toNat) s
theorem Ee (s:List api_Node):Fa 0 s=some s:=by cases s <;> rfl
theorem Dc (w:Nat) (x:api_Node) (s:List api_Node):Fa (w+1) (x :: s)=if ar x.Op < 0 then none else Fa (w+(ar x.Op).toNat) s:=rfl
theorem Og (v:Nat):∀ (s:List api_Node) (w:Nat),Fa (w+v) s=(Fa w s).bind (Fa v)
  | s,0=>by rw [Nat.zero_add,Ee];rfl
  | [],w+1=>by rw [show w+1+v=(w+v)+1 by omega];rfl
  | x :: s, w + 1 => by
    rw [show w+1+v=(w+v)+1 by omega,Dc,Dc]
    split
    · rfl
    · rw [show w + v + (ar x.Op).toNat = w + (ar x.Op).toNat + v by omega]
      exact Og v s _
theorem Jw:∀ (s:List api_Node) (w:Nat) {r:List api_Node},Fa w s=some r→∃ p,s=p ++ r
  | s,0,r,h=>by rw [Ee] at h;cases h;exact ⟨[],rfl⟩
  | [],w+1,r,h=>by cases h
  | x :: s, w + 1, r, h => by
    rw [Dc] at h
    split at h
    · cases h
    · obtain ⟨p, hp⟩ := Jw s _ h
      exact ⟨x :: p,by rw [hp];rfl⟩
theorem Hr:∀ (t:T) (w:Nat) (s:List api_Node),t.wk→Fa (w+1) (t.flat ++ s)=Fa w s
  | .leaf x, w, s, h => by
    have h':ar x.Op=0:=h
    show Fa (w+1) (x :: s)=_
    rw [Dc,if_neg (by omega),h'];rfl
  | .un x a, w, s, h => by
    obtain ⟨h1,h2⟩:=h
    show Fa (w+1) (x :: (a.flat ++ s))=_
    rw [Dc,if_neg (by omega),h1]
    exact Hr a w s h2
  | .bin x a b, w, s, h => by
    obtain ⟨h1,h2,h3⟩:=h
    show Fa (w+1) (x :: ((a.flat ++ b.flat) ++ s))=_
    rw [Dc,if_neg (by omega),h1,List.append_assoc]
    show Fa ((w+1)+1) _=_
    rw [Hr a (w+1) _ h2,Hr b w s h3]
theorem Ke:∀ (n:Nat) (s:List api_Node) (w:Nat) (r:List api_Node),s.length≤n→Fa (w+1) s=some r→∃ (t:T) (s':List api_Node),t.wk∧s=t.flat ++ s'∧Fa w s'=some r
  | 0, s, w, r, hl, h => by
    have:s=[]:=List.eq_nil_of_length_eq_zero (by omega)
    subst this;cases h
  | n+1,[],w,r,hl,h=>by cases h
  | n + 1, x :: s, w, r, hl, h => by
    rw [Dc] at h
    simp only [List.length_cons] at hl
    rcases Kh x.Op with ⟨h1,_⟩ | ⟨h1,_⟩ | ⟨h1,_⟩ | ⟨h1,_⟩
    · rw [if_neg (by omega), h1] at h
      exact ⟨.leaf x,s,h1,rfl,h⟩
    · rw [if_neg (by omega), h1] at h
      obtain ⟨a,s',k1,k2,k3⟩:=Ke n s w r (by omega) h
      exact ⟨.un x a,s',⟨h1,k1⟩,by rw [k2];rfl,k3⟩
    · rw [if_neg (by omega), h1] at h
      obtain ⟨a,s',k1,k2,k3⟩:=Ke n s (w+1) r (by omega) h
      have hs':s'.length≤n:=by rw [k2] at hl;simp at hl;omega
      obtain ⟨b,s'',j1,j2,j3⟩:=Ke n s' w r hs' k3
      exact ⟨.bin x a b,s'',⟨h1,k1,j1⟩,by rw [k2,j2];simp [T.flat],j3⟩
    · rw [if_pos (by omega)] at h;cases h
def Ex (w:Nat) (l:List api_Node) (i:Nat):Int:=match Fa w (l.drop i) with | some r=>(l.length:Int) - (r.length:Int) | none=>-1
theorem Je {l p q:List api_Node} {t:T} (hl:l=p ++ (t.flat ++ q)) (ht:t.wk):Ex 1 l p.length=((p.length+t.size:Nat):Int):=by
  unfold Ex
  rw [hl,List.drop_left,Hr t 0 q ht,Ee]
  simp only [List.length_append,T.flat_len]
  omega
theorem Wk {N:Nat} {l:List api_Node} (hl:l.length≤3000):∀ (d i n w:Nat),i+d=l.length→d+1 < n→w≤2 * i+1→
    Z4 N Z2 l n (i:Int) (w:Int)=some (Ex w l i):=by
  intro d
  induction d with
  | zero =>
    intro i n w hi hn hw
    obtain ⟨n,rfl⟩:∃ m,n=m+1:=⟨n - 1,by omega⟩
    rw [Z4]
    unfold Ex
    rw [List.drop_of_length_le (by omega)]
    cases w with
    | zero=>rw [if_neg (by omega),Z2,Ee];simp;omega
    | succ w=>rw [if_pos (by omega),if_pos (by simp;omega),Z3,if_pos rfl];rfl
  | succ d ih =>
    intro i n w hi hn hw
    obtain ⟨n,rfl⟩:∃ m,n=m+1:=⟨n - 1,by omega⟩
    have h1:i < l.length:=by omega
    rw [Z4]
    cases w with
    | zero =>
      unfold Ex
      rw [if_neg (by omega),Z2,Ee];simp;omega
    | succ w =>
      rw [if_pos (by omega),if_neg (by simp;omega),Ao rfl h1]
      simp only [Option.bind_some,Iv]
      have ha:=Kh l[i].Op
      have he:Ex (w+1) l i=if ar l[i].Op < 0 then -1 else Ex (w+(ar l[i].Op).toNat) l (i+1):=by
        unfold Ex
        rw [List.drop_eq_getElem_cons h1,Dc]
        by_cases hq:ar l[i].Op < 0
        · rw [if_pos hq,if_pos hq]
        · rw [if_neg hq,if_neg hq]
      rw [he,Z3]
      by_cases hn1:ar l[i].Op = -1
      · rw [if_pos (by simp [hn1]),if_pos (by omega)]
      · rw [if_neg (by simp [hn1]), if_neg (by omega), Ao rfl h1]
        simp only [Option.bind_some,Iv]
        rw [Bc h1 (by omega),w64 (n:=((w+1:Nat):Int)+ar l[i].Op) (by omega) (by omega),w64 (by omega) (by omega),show ((w+1:Nat):Int)+ar l[i].Op - 1=((w+(ar l[i].Op).toNat:Nat):Int) by omega]
        exact ih (i+1) n _ (by omega) (by omega) (by omega)
theorem Vh {N:Nat} {l:List api_Node} (hl:l.length≤3000) (hN:l.length+1 < N) {i:Nat} (hi:i≤l.length):Z1 N l (i:Int)=some (Ex 1 l i):=by
  unfold Z1
  exact Wk (N:=N) hl (l.length - i) i N 1 (by omega) (by omega) (by omega)
theorem Rw {l:List api_Node} (hl:l.length≤3000):∀ (N i:Nat),i≤l.length→(l.length - i)+5≤N→Z1h N l (i:Int)=some (Ex 1 l i):=by
  intro N
  induction N with
  | zero=>intro i hi hN;omega
  | succ N ih =>
    intro i hi hN
    rw [Z1h]
    by_cases h1:i < l.length
    · rw [if_neg (by simp; omega), Ao rfl h1]
      simp only [Option.bind_some,Fs]
      have he:Ex 1 l i=if ar l[i].Op < 0 then -1 else Ex (ar l[i].Op).toNat l (i+1):=by
        unfold Ex
        rw [List.drop_eq_getElem_cons h1,Dc,Nat.zero_add]
        by_cases hq:ar l[i].Op < 0
        · rw [if_pos hq,if_pos hq]
        · rw [if_neg hq,if_neg hq]
      rw [he,Z1i]
      obtain ⟨M,rfl⟩:∃ M,N=M+4:=⟨N - 4,by omega⟩
      have step:∀ (n:Nat) (v k:Int),Z1k (Z1h (M+4)) (M+4) Z1j l (i:Int) (n+1) v k=if k < ar l[i].Op∧0≤v then (Z1h (M+4) l v).bind fun r=>Z1k (Z1h (M+4)) (M+4) Z1j l (i:Int) n r (IntKind.i64.wrap (k+1)) else some v:=by
        intro n v k
        rw [Z1k,Ao rfl h1]
        simp only [Option.bind_some,Fs,Bool.and_eq_true,decide_eq_true_eq]
        rfl
      have w1:IntKind.i64.wrap (0+1)=1:=by decide
      have w2:IntKind.i64.wrap (1+1)=2:=by decide
      rcases Kh l[i].Op with ⟨a1,_⟩ | ⟨a1,_⟩ | ⟨a1,_⟩ | ⟨a1,_⟩
      · rw [if_neg (by simp; omega), if_neg (by omega), a1, Bc h1 (by omega), step, if_neg (by omega)]
        unfold Ex
        rw [show (0:Int).toNat=0 from rfl,Ee]
        simp;omega
      · rw [if_neg (by simp; omega), if_neg (by omega), Bc h1 (by omega), step, if_pos (by omega), ih (i + 1) (by omega) (by omega)]
        simp only [Option.bind_some]
        rw [w1,step,if_neg (by omega),a1];rfl
      · rw [if_neg (by simp; omega), if_neg (by omega), Bc h1 (by omega), step, if_pos (by omega), ih (i + 1) (by omega) (by omega)]
        simp only [Option.bind_some]
        rw [w1,step,a1]
        have e2:Ex (2:Int).toNat l (i+1)=match Fa 1 (l.drop (i+1)) with | some r=>(match Fa 1 r with | some r'=>(l.length:Int) - (r'.length:Int) | none=>-1) | none=>-1:=by
          unfold Ex
          rw [show (2:Int).toNat=1+1 from rfl,Og]
          cases Fa 1 (l.drop (i+1)) <;> rfl
        rw [e2]
        have e1:Ex 1 l (i+1)=match Fa 1 (l.drop (i+1)) with | some r=>(l.length:Int) - (r.length:Int) | none=>-1:=rfl
        rw [e1]
        cases hr:Fa 1 (l.drop (i+1)) with
        | none=>simp only;rw [if_neg (by omega)]
        | some r =>
          obtain ⟨p,hp⟩:=Jw _ _ hr
          have hlen:(l.drop (i+1)).length=p.length+r.length:=by rw [hp,List.length_append]
          rw [List.length_drop] at hlen
          simp only
          have hd:l.drop (l.length - r.length)=r:=by
            have:=congrArg (List.drop p.length) hp
            rw [List.drop_drop,List.drop_left] at this
            rw [show l.length - r.length=i+1+p.length by omega]
            exact this
          have hb:r.length≤l.length:=by omega
          rw [if_pos (by omega),show (l.length:Int) - (r.length:Int)=((l.length - r.length:Nat):Int) by omega,ih (l.length - r.length) (by omega) (by omega)]
          simp only [Option.bind_some]
          rw [w2,step,if_neg (by omega)]
          unfold Ex
          rw [hd]
      · rw [if_pos (by simp;omega),if_pos (by omega)]
    · rw [if_pos (by simp; omega), Z1i, if_pos rfl]
      unfold Ex
      rw [List.drop_of_length_le (by omega)]
      rfl
end Go.MD.LB.W
namespace Go.MD.LB.W
open Go Go.MD Go.MD.LB
section
variable {l:List api_Node}
theorem Wy {p q:List api_Node} {x:api_Node} {a:T} (hl:l=p ++ ((T.un x a).flat ++ q)):l=(p ++ [x]) ++ (a.flat ++ q):=by rw [hl];simp [T.flat]
theorem Wp {p q:List api_Node} {x:api_Node} {a b:T} (hl:l=p ++ ((T.bin x a b).flat ++ q)):l=(p ++ [x]) ++ (a.flat ++ (b.flat ++ q)):=by rw [hl];simp [T.flat]
theorem Xy {p q:List api_Node} {x:api_Node} {a b:T} (hl:l=p ++ ((T.bin x a b).flat ++ q)):l=(p ++ [x] ++ a.flat) ++ (b.flat ++ q):=by rw [hl];simp [T.flat]
def T.head:T→api_Node
  | .leaf x=>x
  | .un x _=>x
  | .bin x _ _=>x
theorem Ht {p q:List api_Node} {t:T} (hl:l=p ++ (t.flat ++ q)):getI l (p.length:Int)=some t.head:=by
  rw [Of,hl]
  cases t <;> simp [T.flat,T.head]
theorem Qd {N:Nat} (hl1:l.length≤3000) (hN:l.length+1 < N) {p q:List api_Node} {t:T} (hl:l=p ++ (t.flat ++ q)) (ht:t.wk):Z1 N l (p.length:Int)=some ((p.length+t.size:Nat):Int):=by
  rw [Vh hl1 hN (by rw [hl];simp),Je hl ht]
theorem Nu {N:Nat} (hl1:l.length≤3000) (hN:l.length+5≤N) {p q:List api_Node} {t:T} (hl:l=p ++ (t.flat ++ q)) (ht:t.wk):Z1h N l (p.length:Int)=some ((p.length+t.size:Nat):Int):=by
  rw [Rw hl1 N p.length (by rw [hl];simp) (by omega),Je hl ht]
theorem w01:IntKind.i64.wrap (0+1)=1:=by decide
theorem w12:IntKind.i64.wrap (1+1)=2:=by decide
theorem JaA {xs:List Int} {v:Int} (h:xs.length≤10):Df 8 xs [v]=some (xs ++ [v]):=Bq (by simp;omega) (by decide)
theorem Lx {N:Nat} (hN:4≤N) {p q:List api_Node} {x:api_Node} (hl:l=p ++ ((T.leaf x).flat ++ q)) (ht:ar x.Op=0):Zd N l (p.length:Int)=some []:=by
  have h1:getI l (p.length:Int)=some x:=Ht hl
  obtain ⟨N,rfl⟩:∃ M,N=M+1:=⟨N - 1,by omega⟩
  unfold Zd
  rw [h1]
  simp only [Option.bind_some,Iv]
  rw [ht,Zf,if_neg (by omega),Ze]
theorem N6 {N:Nat} (hl1:l.length≤3000) (hN:l.length+5≤N) {p q:List api_Node} {x:api_Node} {a:T} (hl:l=p ++ ((T.un x a).flat ++ q)) (ht:(T.un x a).wk):Zd N l (p.length:Int)=some [((p.length+1:Nat):Int)]:=by
  have h1:getI l (p.length:Int)=some x:=Ht hl
  have hp:p.length+(T.un x a).size≤l.length:=by rw [hl];simp [T.flat_len] <;> omega
  have hs:=T.size_pos (T.un x a)
  have e:=Qd hl1 (by omega:l.length+1 < N) (Wy hl) ht.2
  rw [List.length_append,List.length_singleton] at e
  obtain ⟨N,rfl⟩:∃ M,N=M+2:=⟨N - 2,by omega⟩
  unfold Zd
  rw [h1]
  simp only [Option.bind_some,Iv]
  rw [ht.1,Zf,if_pos (by omega),JaA (by simp)]
  simp only [Option.bind_some]
  rw [Bc (j:=p.length) (n:=l.length) (by omega) (by omega),e]
  simp only [Option.bind_some]
  rw [w01,Zf,if_neg (by omega),Ze]
  rfl
theorem Nl {N:Nat} (hl1:l.length≤3000) (hN:l.length+5≤N) {p q:List api_Node} {x:api_Node} {a b:T} (hl:l=p ++ ((T.bin x a b).flat ++ q)) (ht:(T.bin x a b).wk):Zd N l (p.length:Int)=some [((p.length+1:Nat):Int),((p.length+1+a.size:Nat):Int)]:=by
  have h1:getI l (p.length:Int)=some x:=Ht hl
  have hp:p.length+(T.bin x a b).size≤l.length:=by rw [hl];simp [T.flat_len] <;> omega
  have hs:=T.size_pos (T.bin x a b)
  have e:=Qd hl1 (by omega:l.length+1 < N) (Wp hl) ht.2.1
  have e2:=Qd hl1 (by omega:l.length+1 < N) (Xy hl) ht.2.2
  rw [List.length_append,List.length_singleton] at e
  rw [List.length_append,List.length_append,List.length_singleton,T.flat_len] at e2
  obtain ⟨N,rfl⟩:∃ M,N=M+3:=⟨N - 3,by omega⟩
  unfold Zd
  rw [h1]
  simp only [Option.bind_some,Iv]
  rw [ht.1,Zf,if_pos (by omega),JaA (by simp)]
  simp only [Option.bind_some]
  rw [Bc (j:=p.length) (n:=l.length) (by omega) (by omega),e]
  simp only [Option.bind_some]
  rw [w01,Zf,if_pos (by omega),JaA (by simp)]
  simp only [Option.bind_some]
  rw [e2]
  simp only [Option.bind_some]
  rw [w12,Zf,if_neg (by omega),Ze]
  rfl
theorem N0 {α:Type} (x:α) (r:List α):getI (x :: r) 0=some x:=rfl
theorem Qc {α:Type} (x y:α) (r:List α):getI (x :: y :: r) 1=some y:=rfl
theorem Gt (hl1:l.length≤3000):∀ (t:T) (N:Nat) (p q:List api_Node),l=p ++ (t.flat ++ q)→t.wk→l.length+6+t.depth≤N→Z8 N l (p.length:Int)=some (t.depth:Int)
  | .leaf x, N, p, q, hl, ht, hN => by
    obtain ⟨N,rfl⟩:∃ M,N=M+2:=⟨N - 2,by omega⟩
    rw [Z8,Lx (by omega) hl ht]
    simp only [Option.bind_some]
    rw [Za,if_neg (by simp),Z9]
    rfl
  | .un x a, N, p, q, hl, ht, hN => by
    have hd:=T.depth_le (T.un x a)
    have hp:p.length+(T.un x a).size≤l.length:=by rw [hl];simp [T.flat_len] <;> omega
    simp only [T.depth] at hN hd ⊢
    obtain ⟨N,rfl⟩:∃ M,N=M+3:=⟨N - 3,by omega⟩
    rw [Z8,N6 hl1 (by omega) hl ht]
    simp only [Option.bind_some]
    have ih:=Gt hl1 a (N+2) _ _ (Wy hl) ht.2 (by omega)
    rw [List.length_append,List.length_singleton] at ih
    rw [Za,if_pos (by simp),N0]
    simp only [Option.bind_some]
    rw [ih]
    simp only [Option.bind_some]
    rw [w01,Za,if_neg (by simp),Z9,w64 (by omega) (by omega)]
    first | rfl | (congr 1;omega)
  | .bin x a b, N, p, q, hl, ht, hN => by
    have hd:=T.depth_le (T.bin x a b)
    have hp:p.length+(T.bin x a b).size≤l.length:=by rw [hl];simp [T.flat_len] <;> omega
    simp only [T.depth] at hN hd ⊢
    obtain ⟨N,rfl⟩:∃ M,N=M+4:=⟨N - 4,by omega⟩
    rw [Z8,Nl hl1 (by omega) hl ht]
    simp only [Option.bind_some]
    have ih:=Gt hl1 a (N+3) _ _ (Wp hl) ht.2.1 (by omega)
    have ih2:=Gt hl1 b (N+3) _ _ (Xy hl) ht.2.2 (by omega)
    rw [List.length_append,List.length_singleton] at ih
    rw [List.length_append,List.length_append,List.length_singleton,T.flat_len] at ih2
    rw [Za,if_pos (by simp),N0]
    simp only [Option.bind_some]
    rw [ih]
    simp only [Option.bind_some]
    rw [w01,Za,if_pos (by simp),Qc]
    simp only [Option.bind_some]
    rw [ih2]
    simp only [Option.bind_some]
    rw [w12,Za,if_neg (by simp),Z9,w64 (by omega) (by omega)]
    first | rfl | (congr 1;omega)
theorem Hp (hl1:l.length≤3000):∀ (t:T) (N:Nat) (p q:List api_Node),l=p ++ (t.flat ++ q)→t.wk→l.length+6+t.depth≤N→Z20 N l (p.length:Int)=some (t.depth:Int)
  | .leaf x, N, p, q, hl, ht, hN => by
    have h1:getI l (p.length:Int)=some x:=Ht hl
    obtain ⟨N,rfl⟩:∃ M,N=M+2:=⟨N - 2,by omega⟩
    have h0:ar x.Op=0:=ht
    rw [Z20,Z22,h1]
    simp only [Option.bind_some,Fs]
    rw [if_neg (by omega),Z21]
    rfl
  | .un x a, N, p, q, hl, ht, hN => by
    have h1:getI l (p.length:Int)=some x:=Ht hl
    have hd:=T.depth_le (T.un x a)
    have hp:p.length+(T.un x a).size≤l.length:=by rw [hl];simp [T.flat_len] <;> omega
    simp only [T.depth] at hN hd ⊢
    obtain ⟨N,rfl⟩:∃ M,N=M+3:=⟨N - 3,by omega⟩
    have ih:=Hp hl1 a (N+2) _ _ (Wy hl) ht.2 (by omega)
    have e:=Nu hl1 (by omega:l.length+5≤N+2) (Wy hl) ht.2
    rw [List.length_append,List.length_singleton] at ih e
    have h0:=ht.1
    rw [Z20,Z22,h1]
    simp only [Option.bind_some,Fs]
    rw [if_pos (by omega),Bc (j:=p.length) (n:=l.length) (by omega) (by omega),ih]
    simp only [Option.bind_some]
    rw [e]
    simp only [Option.bind_some]
    rw [w01,Z22,h1]
    simp only [Option.bind_some,Fs]
    rw [if_neg (by omega),Z21,w64 (by omega) (by omega)]
    first | rfl | (congr 1;omega)
  | .bin x a b, N, p, q, hl, ht, hN => by
    have h1:getI l (p.length:Int)=some x:=Ht hl
    have hd:=T.depth_le (T.bin x a b)
    have hp:p.length+(T.bin x a b).size≤l.length:=by rw [hl];simp [T.flat_len] <;> omega
    simp only [T.depth] at hN hd ⊢
    obtain ⟨N,rfl⟩:∃ M,N=M+4:=⟨N - 4,by omega⟩
    have ih:=Hp hl1 a (N+3) _ _ (Wp hl) ht.2.1 (by omega)
    have ih2:=Hp hl1 b (N+3) _ _ (Xy hl) ht.2.2 (by omega)
    have e:=Nu hl1 (by omega:l.length+5≤N+3) (Wp hl) ht.2.1
    have e2:=Nu hl1 (by omega:l.length+5≤N+3) (Xy hl) ht.2.2
    rw [List.length_append,List.length_singleton] at ih e
    rw [List.length_append,List.length_append,List.length_singleton,T.flat_len] at ih2 e2
    have h0:=ht.1
    rw [Z20,Z22,h1]
    simp only [Option.bind_some,Fs]
    rw [if_pos (by omega),Bc (j:=p.length) (n:=l.length) (by omega) (by omega),ih]
    simp only [Option.bind_some]
    rw [e]
    simp only [Option.bind_some]
    rw [w01,Z22,h1]
    simp only [Option.bind_some,Fs]
    rw [if_pos (by omega),ih2]
    simp only [Option.bind_some]
    rw [e2]
    simp only [Option.bind_some]
    rw [w12,Z22,h1]
    simp only [Option.bind_some,Fs]
    rw [if_neg (by omega),Z21,w64 (by omega) (by omega)]
    first | rfl | (congr 1;omega)
def Dp:List Str→Str→Nat→Int
  | [],_,_=>-1
  | x :: r,s,k=>if x=s then (k:Int) else Dp r s (k+1)
theorem Ei {N:Nat} {names:List Str} {s:Str} (hl:names.length≤3000) (hN:names.length < N):Z5n N names s=some (Dp names s 0):=by
  have key:∀ (d j n:Nat),j+d=names.length→d < n→Z5p N Z5o names s n (j:Int)=some (Dp (names.drop j) s j):=by
    intro d
    induction d with
    | zero =>
      intro j n hj hn
      obtain ⟨n,rfl⟩:∃ m,n=m+1:=⟨n - 1,by omega⟩
      rw [Z5p,if_neg (by omega),List.drop_of_length_le (by omega)];rfl
    | succ d ih =>
      intro j n hj hn
      obtain ⟨n,rfl⟩:∃ m,n=m+1:=⟨n - 1,by omega⟩
      have h1:j < names.length:=by omega
      rw [Z5p,if_pos (by omega),Ao rfl h1]
      simp only [Option.bind_some]
      rw [List.drop_eq_getElem_cons h1,Dp]
      by_cases e:names[j]=s
      · rw [if_pos e,if_pos e]
      · rw [if_neg e, if_neg e, Bc h1 (by omega)]
        exact ih (j+1) n (by omega) (by omega)
  unfold Z5n
  exact key names.length 0 N (by omega) hN
theorem Dm:∀ (names:List Str) (s:Str) (k:Nat),(0≤Dp names s k↔s∈names)∧(s∈names→(k:Int)≤Dp names s k∧Dp names s k < (k:Int)+(names.length:Int))
  | [],s,k=>⟨⟨fun h=>by simp [Dp] at h,fun h=>by cases h⟩,fun h=>by cases h⟩
  | x :: r, s, k => by
    obtain ⟨h1,h2⟩:=Dm r s (k+1)
    unfold Dp
    by_cases e:x=s
    · rw [if_pos e]
      exact ⟨⟨fun _=>by rw [e];exact .head _,fun _=>by omega⟩,fun _=>by simp;omega⟩
    · rw [if_neg e]
      have hm:s∈x :: r↔s∈r:=⟨fun h=>by
        rcases List.mem_cons.1 h with h | h
        · exact absurd h.symm e
        · exact h,fun h=>.tail _ h⟩
      rw [hm]
      refine ⟨h1,fun h=>?_⟩
      have:=h2 h
      simp;omega
end
end Go.MD.LB.W
namespace Go.MD.LB.W
open Go Go.MD Go.MD.LB
def Jl (c:Int):Bool:=(decide (97≤c) && decide (c≤122)) || decide (c=95)
def Sl (c:Int):Bool:=decide (48≤c) && decide (c≤57)
def keptL:List Str:=[[108,105,110,101],[118,111,108],[108,111,99,107],[116,104,114,101,97,100],[114,101,103],[108,111,97,100],[115,116,111,114,101],[99,97,115],[102,108,117,115,104],[111,112,116],[115,102,101,110,99,101],[109,102,101,110,99,101],[116,97,107,101],[103,105,118,101],[105,102],[101,108,115,101],[108,111,111,112],[98,114,101,97,107],[99,104,101,99,107],[114,101,99,111,118,101,114],[97,108,119,97,121,115]]
theorem Ya:Z8r 1000001=some (keptL.map fun s=>(s,true)):=by decide +kernel
theorem Lk (s:Str):∀ l:List Str,Bf s (l.map fun x=>(x,true))=if s∈l then some true else none
  | []=>rfl
  | x :: l => by
    show (if s=x then some true else Bf s (l.map fun x=>(x,true)))=_
    rw [Lk s l]
    by_cases e:s=x
    · subst e;simp
    · simp [e]
theorem Xw (s:Str):Z8m 1000001 s=some (decide (s∈keptL)):=by
  unfold Z8m
  rw [Ya]
  simp only [Option.bind_some]
  rw [Lk]
  by_cases h:s∈keptL
  · rw [if_pos h,decide_eq_true h];rfl
  · rw [if_neg h,decide_eq_false h];rfl
theorem Lf (s:Str) (n:Nat) (j:Int):Zm 1000001 Zl s (n+1) j=if j < (keptL.length:Int) then (getI keptL j).bind fun x6=>if x6=s then some true else Zm 1000001 Zl s n (IntKind.i64.wrap (j+1)) else some false:=rfl
theorem Wa (s:Str):Zk 1000001 s=some (decide (s∈keptL)):=by
  have key:∀ (d j n:Nat),j+d=keptL.length→d < n→Zm 1000001 Zl s n (j:Int)=some (decide (s∈keptL.drop j)):=by
    intro d
    induction d with
    | zero =>
      intro j n hj hn
      obtain ⟨n,rfl⟩:∃ m,n=m+1:=⟨n - 1,by omega⟩
      rw [Lf,if_neg (by omega),List.drop_of_length_le (by omega)]
      rfl
    | succ d ih =>
      intro j n hj hn
      obtain ⟨n,rfl⟩:∃ m,n=m+1:=⟨n - 1,by omega⟩
      have h1:j < keptL.length:=by omega
      have hk:keptL.length=21:=rfl
      rw [Lf,if_pos (by omega),Ao rfl h1]
      simp only [Option.bind_some]
      rw [List.drop_eq_getElem_cons h1]
      by_cases e:keptL[j]=s
      · rw [if_pos e];simp [e]
      · rw [if_neg e, Bc h1 (by omega), ih (j + 1) n (by omega) (by omega)]
        have e' : ¬ s=keptL[j]:=fun h=>e h.symm
        simp only [List.mem_cons,e',false_or]
  exact key keptL.length 0 1000001 (by omega) (by decide)
def nmS (b:UInt8):Bool:=Jl (b.toNat:Int) || Sl (b.toNat:Int)
theorem Wb (N:Nat) (c:Int):Z8o N c=some (Jl c || Sl c):=by
  unfold Z8o Z8u Z8q
  simp only [Option.bind_some]
  show (if Jl c=true then some true else some (Sl c))=_
  cases Jl c <;> rfl
theorem JaK {N:Nat} {s:Str} (hl:s.length≤3000) (hN:s.length < N):∃ r,Z8v N s=some r∧(decide (r=(s.length:Int))=s.all nmS):=by
  have key:∀ (d j n:Nat),j+d=s.length→d < n→∃ r,Z8y N Z8w s n (j:Int)=some r∧(decide (r=(s.length:Int))=(s.drop j).all nmS):=by
    intro d
    induction d with
    | zero =>
      intro j n hj hn
      obtain ⟨n,rfl⟩:∃ m,n=m+1:=⟨n - 1,by omega⟩
      rw [Z8y,if_neg (by omega),Z8x,if_neg (by decide),List.drop_of_length_le (by omega)]
      exact ⟨j,rfl,by simp;omega⟩
    | succ d ih =>
      intro j n hj hn
      obtain ⟨n,rfl⟩:∃ m,n=m+1:=⟨n - 1,by omega⟩
      have h1:j < s.length:=by omega
      rw [Z8y,if_pos (by omega)]
      unfold Cv
      rw [Ao rfl h1]
      simp only [Option.map_some,Option.bind_some,Wb]
      rw [List.drop_eq_getElem_cons h1,List.all_cons]
      have e:(Jl (s[j].toNat:Int) || Sl (s[j].toNat:Int))=nmS s[j]:=rfl
      rw [e]
      cases hc:nmS s[j] with
      | true =>
        rw [Z8x,if_pos rfl,Bc h1 (by omega)]
        obtain ⟨r,h2,h3⟩:=ih (j+1) n (by omega) (by omega)
        exact ⟨r,h2,by simpa using h3⟩
      | false =>
        rw [Z8x,if_neg (by decide),Z8w]
        exact ⟨j,rfl,by simp;omega⟩
  unfold Z8v
  exact key s.length 0 N (by omega) hN
def Cc (s:Str):Bool:=match s with | []=>false | b :: r=>decide ((b :: r).length≤16) && Jl (b.toNat:Int) && !decide ((b :: r)∈keptL) && (b :: r).all nmS
theorem It (s:Str):Z8n 1000001 s=some (Cc s):=by
  unfold Z8n
  cases s with
  | nil=>rfl
  | cons b r =>
    by_cases h:16 < (b :: r).length
    · rw [if_pos (by simp at h ⊢; omega), Z8p, if_pos rfl]
      have : ¬ ((b :: r).length≤16):=by omega
      simp only [Cc,decide_eq_false this,Bool.false_and]
    · rw [if_neg (by simp at h ⊢; omega)]
      have hb:Cv (b :: r) 0=some (b.toNat:Int):=rfl
      rw [hb]
      simp only [Option.bind_some,Z8u]
      show (if Jl (b.toNat:Int)=true then _ else _)=_
      have hle:(b :: r).length≤16:=by omega
      simp only [Cc,decide_eq_true hle,Bool.true_and]
      cases hlt:Jl (b.toNat:Int) with
      | false=>rfl
      | true =>
        rw [if_pos rfl,Xw]
        simp only [Option.bind_some,Bool.true_and]
        rw [Z8p]
        by_cases hk:(b :: r)∈keptL
        · rw [decide_eq_true hk];rfl
        · rw [decide_eq_false hk, if_neg (by decide)]
          obtain ⟨x,h1,h2⟩:=JaK (N:=1000001) (s:=b :: r) (by omega) (by omega)
          rw [h1]
          simp only [Option.bind_some,Bool.not_false,Bool.true_and]
          rw [h2]
theorem Qh {s:Str} (hl:s.length≤3000):∀ (d j n:Nat),j+d=s.length→d < n→Zr 1000001 Zp s n (j:Int)=some ((s.drop j).all nmS):=by
  intro d
  induction d with
  | zero =>
    intro j n hj hn
    obtain ⟨n,rfl⟩:∃ m,n=m+1:=⟨n - 1,by omega⟩
    rw [Zr,if_neg (by omega),List.drop_of_length_le (by omega)];rfl
  | succ d ih =>
    intro j n hj hn
    obtain ⟨n,rfl⟩:∃ m,n=m+1:=⟨n - 1,by omega⟩
    have h1:j < s.length:=by omega
    have go:∀ b,Zq (Zr 1000001 Zp s n) (j:Int) b=some (!b && (s.drop (j+1)).all nmS):=by
      intro b
      rw [Zq]
      cases b with
      | true=>rfl
      | false=>rw [if_neg (by decide),Bc h1 (by omega),ih (j+1) n (by omega) (by omega)];rfl
    rw [Zr,if_pos (by omega)]
    unfold Cv
    rw [Ao rfl h1]
    simp only [Option.map_some,Option.bind_some,Z16,Z15,go]
    rw [List.drop_eq_getElem_cons h1,List.all_cons]
    show (if Jl (s[j].toNat:Int)=true then _ else some (!(!Sl (s[j].toNat:Int)) && _))=some ((Jl (s[j].toNat:Int) || Sl (s[j].toNat:Int)) && _)
    cases Jl (s[j].toNat:Int) <;> simp
theorem Fy (s:Str):Zn 1000001 s=some (Cc s):=by
  unfold Zn
  cases s with
  | nil=>rfl
  | cons b r =>
    by_cases h:16 < (b :: r).length
    · rw [if_pos (by simp at h ⊢; omega), Zo, if_pos rfl]
      have : ¬ ((b :: r).length≤16):=by omega
      simp only [Cc,decide_eq_false this,Bool.false_and]
    · rw [if_neg (by simp at h ⊢; omega)]
      have hb:Cv (b :: r) 0=some (b.toNat:Int):=rfl
      rw [hb]
      simp only [Option.bind_some,Z16]
      show (if Jl (b.toNat:Int)=true then _ else _)=_
      have hle:(b :: r).length≤16:=by omega
      simp only [Cc,decide_eq_true hle,Bool.true_and]
      cases hlt:Jl (b.toNat:Int) with
      | false=>rfl
      | true =>
        rw [if_pos rfl,Wa]
        simp only [Option.bind_some,Bool.true_and]
        rw [Zo]
        by_cases hk:(b :: r)∈keptL
        · rw [decide_eq_true hk];rfl
        · rw [decide_eq_false hk, if_neg (by decide), show (0 : Int) = ((0 : Nat) : Int) from rfl, Qh (by omega) (b :: r).length 0 1000001 (by omega) (by omega)]
          rfl
def Hw (x:api_Node):Bool:=decide (0≤x.At∧x.At≤4000) && (if x.Op=1 then decide (0≤x.N∧x.N≤4294967296∧x.Name=[]) else if x.Op=2 then decide (x.N=0) && Cc x.Name else decide (x.N=0∧x.Name=[]))
theorem Jae (x:api_Node):Zc 1000001 x=some (Hw x):=by
  unfold Zc Hw
  by_cases h:x.At < 0∨4000 < x.At
  · rw [if_pos (by simpa using h),decide_eq_false (by omega)];rfl
  · rw [if_neg (by simpa using h), decide_eq_true (show 0 ≤ x.At ∧ x.At ≤ 4000 by omega), Bool.true_and]
    by_cases e1:x.Op=1
    · rw [if_pos e1,if_pos e1];congr 1;rw [Bool.eq_iff_iff];simp [and_assoc]
    · rw [if_neg e1, if_neg e1]
      by_cases e2:x.Op=2
      · rw [if_pos e2, if_pos e2]
        by_cases e3:x.N=0
        · rw [if_pos e3,It];simp [e3]
        · rw [if_neg e3];simp [e3]
      · rw [if_neg e2,if_neg e2];congr 1;rw [Bool.eq_iff_iff];simp
theorem Jam {l:List api_Node} (hl:l.length≤3000):Z98 1000001 l=some (!l.all Hw):=by
  have key:∀ (d j n:Nat),j+d=l.length→d < n→∃ r,Z9t 1000001 Z9s l n (j:Int)=some r∧(decide (0≤r) = !(l.drop j).all Hw):=by
    intro d
    induction d with
    | zero =>
      intro j n hj hn
      obtain ⟨n,rfl⟩:∃ m,n=m+1:=⟨n - 1,by omega⟩
      rw [Z9t,if_neg (by omega),List.drop_of_length_le (by omega)]
      exact ⟨-1,rfl,rfl⟩
    | succ d ih =>
      intro j n hj hn
      obtain ⟨n,rfl⟩:∃ m,n=m+1:=⟨n - 1,by omega⟩
      have h1:j < l.length:=by omega
      rw [Z9t,if_pos (by omega),Ao rfl h1]
      simp only [Option.bind_some,Z6,Jae]
      rw [List.drop_eq_getElem_cons h1,List.all_cons]
      cases hk:Hw l[j] with
      | false=>exact ⟨j,by simp,by simp⟩
      | true =>
        obtain ⟨r,h2,h3⟩:=ih (j+1) n (by omega) (by omega)
        rw [Bc h1 (by omega)]
        exact ⟨r,by simpa using h2,by simpa using h3⟩
  obtain ⟨r,h1,h2⟩:=key l.length 0 1000001 (by omega) (by omega)
  unfold Z98 Z9r
  rw [show (0:Int)=((0:Nat):Int) from rfl,h1]
  simpa using h2
structure RightE (l:List api_Node) (t:T):Prop where
  len:l.length≤40
  may:∀ x∈l,Hw x=true
  flat:l=t.flat
  wk:t.wk
  depth:t.depth≤12
theorem Gx {l:List api_Node} {t:T} (h:l=t.flat):l=[] ++ (t.flat ++ []):=by rw [h];simp
theorem Yi {l:List api_Node} (h0:0 < l.length) (h:Ex 1 l 0=(l.length:Int)):∃ t:T,t.wk∧l=t.flat:=by
  unfold Ex at h
  rw [List.drop_zero] at h
  cases he:Fa 1 l with
  | none=>rw [he] at h;simp only at h;omega
  | some r =>
    rw [he] at h
    simp only at h
    have hr:r=[]:=List.eq_nil_of_length_eq_zero (by omega)
    subst hr
    obtain ⟨t,s',h1,h2,h3⟩:=Ke l.length l 0 [] (Nat.le_refl _) he
    rw [Ee] at h3
    cases h3
    exact ⟨t,h1,by rw [h2];simp⟩
theorem Mz {l:List api_Node} {t:T} (h1:t.wk) (h2:l=t.flat):Ex 1 l 0=(l.length:Int):=by
  have:=Je (Gx h2) h1
  simp only [List.length_nil,Nat.zero_add] at this
  rw [this,h2,T.flat_len]
theorem Pw {l:List api_Node} (hl:l.length≤60):∃ b,Z5 1000001 l=some b∧(b=true↔∃ t,RightE l t):=by
  unfold Z5
  by_cases h:l.length=0∨40 < l.length
  · rw [if_pos (by simp only [Bool.or_eq_true, decide_eq_true_eq]; omega), Z7, if_pos rfl]
    refine ⟨false,rfl,fun h=>(by cases h),fun ⟨t,ht⟩=>?_⟩
    have:=T.size_pos t
    have:=ht.len
    have e:=congrArg List.length ht.flat
    rw [T.flat_len] at e
    omega
  · rw [if_neg (by simp only [Bool.or_eq_true, decide_eq_true_eq]; omega), Jam (by omega)]
    simp only [Option.bind_some]
    cases hm:l.all Hw with
    | false =>
      refine ⟨false,rfl,fun h=>(by cases h),fun ⟨t,ht⟩=>?_⟩
      rw [List.all_eq_true.2 ht.may] at hm;cases hm
    | true =>
      rw [if_neg (by decide),show (0:Int)=((0:Nat):Int) from rfl,Vh (by omega) (by omega) (Nat.zero_le _)]
      simp only [Option.bind_some]
      by_cases he:Ex 1 l 0=(l.length:Int)
      · obtain ⟨t, t1, t2⟩ := Yi (by omega) he
        have ts:=T.depth_le t
        have tl:=congrArg List.length t2
        rw [T.flat_len] at tl
        have hd:=Gt (l:=l) (by omega) t 1000001 [] [] (Gx t2) t1 (by omega)
        rw [decide_eq_false (by simpa using he),Z7,if_neg (by decide),show (0:Int)=(([]:List api_Node).length:Int) from rfl,hd]
        refine ⟨_,rfl,?_⟩
        rw [decide_eq_true_iff]
        constructor
        · intro h12
          exact ⟨t,by omega,fun x hx=>List.all_eq_true.1 hm x hx,t2,t1,by omega⟩
        · rintro ⟨t', ht'⟩
          have hd':=Gt (l:=l) (by omega) t' 1000001 [] [] (Gx ht'.flat) ht'.wk (by have:=ht'.depth;omega)
          rw [hd] at hd'
          have:=Option.some.inj hd'
          have:=ht'.depth
          omega
      · rw [decide_eq_true (by simpa using he), Z7, if_pos rfl]
        exact ⟨false,rfl,fun h=>(by cases h),fun ⟨t,ht⟩=>absurd (Mz ht.wk ht.flat) he⟩
theorem Pe {l:List api_Node} (hl:l.length≤60):∀ (d j n:Nat),j+d=l.length→d < n→Z1x 1000001 (Z1v 1000001 l) l n (j:Int)=if (l.drop j).all Hw=true then Z1v 1000001 l else some false:=by
  intro d
  induction d with
  | zero =>
    intro j n hj hn
    obtain ⟨n,rfl⟩:∃ m,n=m+1:=⟨n - 1,by omega⟩
    rw [Z1x,if_neg (by omega),List.drop_of_length_le (by omega)];rfl
  | succ d ih =>
    intro j n hj hn
    obtain ⟨n,rfl⟩:∃ m,n=m+1:=⟨n - 1,by omega⟩
    have h1:j < l.length:=by omega
    have go:∀ b,b = !Hw l[j]→Z1w (Z1x 1000001 (Z1v 1000001 l) l n) (j:Int) b=if (l.drop j).all Hw=true then Z1v 1000001 l else some false:=by
      intro b hb
      rw [Z1w,List.drop_eq_getElem_cons h1,List.all_cons]
      cases hm:Hw l[j] with
      | true=>rw [hb,hm,if_neg (by decide),Bc h1 (by omega),ih (j+1) n (by omega) (by omega),Bool.true_and]
      | false=>rw [hb,hm,if_pos (by decide),Bool.false_and,if_neg (by decide)]
    rw [Z1x,if_pos (by omega),Ao rfl h1]
    simp only [Option.bind_some]
    generalize l[j]=x at go ⊢
    split
    · rename_i hc
      refine go true ?_
      unfold Hw
      by_cases ha:0≤x.At∧x.At≤4000
      · rw [decide_eq_true ha]
        simp only [Bool.or_eq_true,Bool.and_eq_true,decide_eq_true_eq] at hc
        by_cases e1:x.Op=1
        · rw [if_pos e1]
          have : ¬ (0≤x.N∧x.N≤4294967296∧x.Name=[]):=by
            rintro ⟨q1,q2,q3⟩
            rcases hc with ((((h | h) | h) | h) | h) | h
            · omega
            · omega
            · exact h.1 e1
            · exact h.2 q3
            · omega
            · omega
          rw [decide_eq_false this];rfl
        · rw [if_neg e1]
          by_cases e2:x.Op=2
          · rw [if_pos e2]
            have : ¬ x.N=0:=by
              intro q
              rcases hc with ((((h | h) | h) | h) | h) | h
              · omega
              · omega
              · exact h.2 q
              · exact h.1 e2
              · omega
              · omega
            rw [decide_eq_false this];rfl
          · rw [if_neg e2]
            have : ¬ (x.N=0∧x.Name=[]):=by
              rintro ⟨q1,q2⟩
              rcases hc with ((((h | h) | h) | h) | h) | h
              · omega
              · omega
              · exact h.2 q1
              · exact h.2 q2
              · omega
              · omega
            rw [decide_eq_false this];rfl
      · rw [decide_eq_false ha];rfl
    · rename_i hc
      simp only [Bool.or_eq_true,Bool.and_eq_true,decide_eq_true_eq,not_or,not_and,Classical.not_not,Int.not_lt] at hc
      obtain ⟨⟨⟨⟨⟨c1,c2⟩,c3⟩,c4⟩,c5⟩,c6⟩:=hc
      by_cases e2:x.Op=2
      · rw [if_pos e2, Fy]
        simp only [Option.bind_some]
        refine go _ ?_
        have hn:x.N=0:=c3 (by omega)
        unfold Hw
        rw [decide_eq_true (⟨c1,c2⟩:0≤x.At∧x.At≤4000),if_neg (by omega),if_pos e2,decide_eq_true hn]
        simp
      · rw [if_neg e2]
        refine go _ ?_
        have hnm:x.Name=[]:=c4 e2
        unfold Hw
        rw [decide_eq_true (⟨c1,c2⟩:0≤x.At∧x.At≤4000)]
        by_cases e1:x.Op=1
        · rw [if_pos e1,decide_eq_true ⟨c5,c6,hnm⟩];rfl
        · rw [if_neg e1,if_neg e2,decide_eq_true ⟨c3 e1,hnm⟩];rfl
theorem Oi {l:List api_Node} (hl:l.length≤60):∃ b,Z1t 1000001 l=some b∧(b=true↔∃ t,RightE l t):=by
  unfold Z1t
  by_cases h:40 < l.length
  · rw [if_pos (by omega), Z1u, if_pos rfl]
    exact ⟨false,rfl,fun h=>(by cases h),fun ⟨t,ht⟩=>by have:=ht.len;omega⟩
  · rw [if_neg (by omega), show (0 : Int) = ((0 : Nat) : Int) from rfl, Rw (by omega) 1000001 0 (Nat.zero_le _) (by omega)]
    simp only [Option.bind_some]
    by_cases he:Ex 1 l 0=(l.length:Int)
    · have h0:0 < l.length:=by
        rcases Nat.eq_zero_or_pos l.length with h | h
        · exfalso
          have:l=[]:=List.eq_nil_of_length_eq_zero h
          subst this
          exact absurd he (by decide)
        · exact h
      obtain ⟨t,t1,t2⟩:=Yi h0 he
      have ts:=T.depth_le t
      have tl:=congrArg List.length t2
      rw [T.flat_len] at tl
      have hd:=Hp (l:=l) (by omega) t 1000001 [] [] (Gx t2) t1 (by omega)
      rw [decide_eq_false (by simpa using he),Z1u,if_neg (by decide),show (0:Int)=((0:Nat):Int) from rfl,Pe hl l.length 0 1000001 (by omega) (by omega),List.drop_zero]
      cases hm:l.all Hw with
      | false =>
        refine ⟨false,rfl,fun h=>(by cases h),fun ⟨t,ht⟩=>?_⟩
        rw [List.all_eq_true.2 ht.may] at hm;cases hm
      | true =>
        rw [if_pos rfl,Z1v,show (0:Int)=(([]:List api_Node).length:Int) from rfl,hd]
        refine ⟨_,rfl,?_⟩
        rw [decide_eq_true_iff]
        constructor
        · intro h12
          exact ⟨t,by omega,fun x hx=>List.all_eq_true.1 hm x hx,t2,t1,by omega⟩
        · rintro ⟨t', ht'⟩
          have hd':=Hp (l:=l) (by omega) t' 1000001 [] [] (Gx ht'.flat) ht'.wk (by have:=ht'.depth;omega)
          rw [hd] at hd'
          have:=Option.some.inj hd'
          have:=ht'.depth
          omega
    · rw [decide_eq_true (by simpa using he), Z1u, if_pos rfl]
      exact ⟨false,rfl,fun h=>(by cases h),fun ⟨t,ht⟩=>absurd (Mz ht.wk ht.flat) he⟩
end Go.MD.LB.W
namespace Go.MD.LB.W
open Go Go.MD Go.MD.LB
open Classical in
theorem Nx {p:Prop} {b:Bool} (h:b=true↔p):b=decide p:=by
  cases b with
  | true=>exact (decide_eq_true (h.1 rfl)).symm
  | false=>exact (decide_eq_false (fun q=>by cases h.2 q)).symm
def tabS:List Str:=[[],[114,101],[114,110],[110,101],[114,110,101,102],[110],[110],[],[],[110],[110],[101,98],[107,98],[],[101]]
def hS (k:Int):Str:=if 1≤k∧k≤14 then (tabS[k.toNat]?).getD [] else []
theorem Ui (k:Int):hS k∈tabS:=by
  unfold hS
  split
  · rename_i h
    have hk:k.toNat < tabS.length:=by show k.toNat < 15;omega
    rw [List.getElem?_eq_getElem hk]
    exact List.getElem_mem hk
  · exact .head _
theorem Oo {k:Int} (h:1≤k∧k≤14):getI tabS k=some (hS k):=by
  have hk:k.toNat < tabS.length:=by show k.toNat < 15;omega
  unfold hS
  rw [if_pos h,Ao (j:=k.toNat) (by omega) hk,List.getElem?_eq_getElem hk]
  rfl
theorem JaN (N:Nat) (k:Int):Zaf N k=some (hS k):=by
  unfold Zaf
  by_cases h:k < 0∨15≤k
  · rw [if_pos (by simpa using h)];unfold hS;rw [if_neg (by omega)]
  · rw [if_neg (by simpa using h), Zan]
    simp only [Option.bind_some]
    by_cases h0:k=0
    · subst h0;rfl
    · have := Oo (k := k) (by omega)
      unfold tabS at this
      rw [this];rfl
theorem Wt (N:Nat) (k:Int):Z29 N k=some (hS k):=by
  unfold Z29
  by_cases h:k < 1∨14 < k
  · rw [if_pos (by simpa using h)];unfold hS;rw [if_neg (by omega)]
  · rw [if_neg (by simpa using h)]
    have:=Oo (k:=k) (by omega)
    unfold tabS at this
    rw [this];rfl
theorem Ix {k:Int} {c:UInt8} (hc:c∈[114,110,101,102,107]) (N:Nat):Zap N [c] (hS k)=some (decide (c∈hS k)):=by
  have h:∀ s∈tabS,∀ c∈([114,110,101,102,107]:List UInt8),s.length < 4294967281∧Lib.contains s [c]=decide (c∈s):=by decide +kernel
  obtain ⟨h1,h2⟩:=h _ (Ui k) c hc
  unfold Zap Z0
  rw [if_pos h1,h2];rfl
theorem Gr {k:Int} {c:Nat} (hc:c∈[114,110,101,102,107]):Z3a 1000001 (hS k) (c:Int)=some (decide (UInt8.ofNat c∈hS k)):=by
  have h:∀ s∈tabS,∀ c∈([114,110,101,102,107]:List Nat),Z3a 1000001 s (c:Int)=some (decide (UInt8.ofNat c∈s)):=by decide +kernel
  exact h _ (Ui k) c hc
def Eu (is:Bool) (s:Str):Bool:=if is=true then Cc s else decide (s=[])
open Classical in
noncomputable def Gz (l:List api_Node):Bool:=decide (∃ t,RightE l t)
noncomputable def Ew (is:Bool) (l:List api_Node):Bool:=if is=true then Gz l else decide (l=[])
theorem Mi {l:List api_Node} (hl:l.length≤60):Z5 1000001 l=some (Gz l):=by
  obtain ⟨b,h1,h2⟩:=Pw hl
  rw [h1]
  congr 1
  exact Nx h2
theorem Ib {l:List api_Node} (hl:l.length≤60):Z1t 1000001 l=some (Gz l):=by
  obtain ⟨b,h1,h2⟩:=Oi hl
  rw [h1]
  congr 1
  exact Nx h2
theorem Pv:Gz []=false:=by
  refine (Nx (b:=false) (p:=∃ t,RightE [] t) ⟨fun h=>(by cases h),fun ⟨t,ht⟩=>?_⟩).symm
  have e:=congrArg List.length ht.flat
  rw [T.flat_len] at e
  have:=T.size_pos t
  simp at e
  omega
noncomputable def Cw (x:api_Stmt):Bool:=
  decide (1≤x.Kind∧x.Kind≤14∧0≤x.At∧x.At≤4000) && (if 107∈hS x.Kind then decide (1≤x.N∧x.N≤8) else decide (x.N=0)) &&
  (Eu (decide (114∈hS x.Kind)) x.Reg && (Eu (decide (110∈hS x.Kind)) x.Name && (Ew (decide (101∈hS x.Kind)) x.E && Ew (decide (102∈hS x.Kind)) x.F)))
def Dy (x:api_Stmt):Prop:=x.E.length≤60∧x.F.length≤60
theorem Si (is:Bool) (s:Str):Zaq 1000001 is s=some (Eu is s):=by
  unfold Zaq Eu
  cases is with
  | true=>rw [if_pos rfl,if_pos rfl,It];simp
  | false=>rw [if_neg (by decide),if_neg (by decide)];simp
theorem Sf (is:Bool) {l:List api_Node} (hl:l.length≤60):Zar 1000001 is l=some (Ew is l):=by
  unfold Zar Ew
  cases is with
  | true=>rw [if_pos rfl,if_pos rfl,Mi hl];simp
  | false=>rw [if_neg (by decide),if_neg (by decide)];simp
theorem Mp (x:api_Stmt) (hx:Dy x) (v:Bool):Zas 1000001 x (hS x.Kind) v=some (!(decide (1≤x.Kind∧x.Kind≤14∧0≤x.At∧x.At≤4000) && v && (Eu (decide (114∈hS x.Kind)) x.Reg && (Eu (decide (110∈hS x.Kind)) x.Name && (Ew (decide (101∈hS x.Kind)) x.E && Ew (decide (102∈hS x.Kind)) x.F))))):=by
  unfold Zas
  have hc:((((decide (1≤x.Kind)) && (decide (x.Kind < 15))) && (decide (0≤x.At))) && (decide (x.At≤4000)))=decide (1≤x.Kind∧x.Kind≤14∧0≤x.At∧x.At≤4000):=by
    rw [Bool.eq_iff_iff];simp only [Bool.and_eq_true,decide_eq_true_eq];omega
  rw [hc]
  cases hv:(decide (1≤x.Kind∧x.Kind≤14∧0≤x.At∧x.At≤4000) && v) with
  | false=>rw [if_neg (by decide)];rfl
  | true =>
    rw [if_pos rfl,Ix (by decide)]
    simp only [Option.bind_some,Si]
    cases Eu (decide (114∈hS x.Kind)) x.Reg with
    | false=>rfl
    | true =>
      rw [if_pos rfl,Ix (by decide)]
      simp only [Option.bind_some,Si]
      cases Eu (decide (110∈hS x.Kind)) x.Name with
      | false=>rfl
      | true =>
        rw [if_pos rfl,Ix (by decide)]
        simp only [Option.bind_some,Sf _ hx.1]
        cases Ew (decide (101∈hS x.Kind)) x.E with
        | false=>rfl
        | true =>
          rw [if_pos rfl,Ix (by decide)]
          simp only [Option.bind_some,Sf _ hx.2]
          simp
theorem Xx (x:api_Stmt) (hx:Dy x):Zao 1000001 x=some (!Cw x):=by
  unfold Zao
  rw [JaN]
  simp only [Option.bind_some]
  rw [Ix (by decide)]
  simp only [Option.bind_some]
  unfold Cw
  by_cases h:(107:UInt8)∈hS x.Kind
  · rw [if_pos (by simpa using h),if_pos h,Mp x hx,Bool.decide_and (1≤x.N)]
  · rw [if_neg (by simpa using h),if_neg h,Mp x hx]
theorem Mo {is:Bool} {s:Str}:((is != Cc s) || ((!is) && (decide (s≠[])))) = !Eu is s:=by
  unfold Eu
  cases is with
  | true=>simp
  | false =>
    by_cases hs:s=[]
    · subst hs;rfl
    · simp [hs]
theorem Mu {is:Bool} {l:List api_Node}:((is != Gz l) || ((!is) && (decide (0 < (l.length:Int))))) = !Ew is l:=by
  unfold Ew
  cases is with
  | true=>simp
  | false =>
    by_cases hs:l=[]
    · subst hs;rw [Pv];rfl
    · have h1 : 0 < l.length := List.length_pos_iff.2 hs
      simp [hs,h1]
theorem Kn (x:api_Stmt) (v:Bool):Z3k 1000001 x (hS x.Kind) v=some ((!v) && (if 107∈hS x.Kind then decide (1≤x.N∧x.N≤8) else decide (x.N=0))):=by
  unfold Z3k
  cases v with
  | true=>rfl
  | false =>
    rw [if_neg (by decide),show (107:Int)=((107:Nat):Int) from rfl,Gr (by decide),show UInt8.ofNat 107=107 from rfl]
    simp only [Option.bind_some]
    by_cases h:(107:UInt8)∈hS x.Kind
    · rw [if_pos (by simpa using h),if_pos h,Bool.decide_and (1≤x.N)];rfl
    · rw [if_neg (by simpa using h),if_neg h];rfl
theorem Ll (x:api_Stmt) (hx:Dy x) (r t v:Bool):Z3j 1000001 x (hS x.Kind) r t v=some ((!v) && Ew r x.E && Ew t x.F && (if 107∈hS x.Kind then decide (1≤x.N∧x.N≤8) else decide (x.N=0))):=by
  unfold Z3j
  cases v with
  | true=>rfl
  | false =>
    rw [if_neg (by decide),Ib hx.1]
    simp only [Option.bind_some,Mu]
    cases Ew r x.E with
    | false=>rw [if_pos (by decide),Kn];rfl
    | true =>
      rw [if_neg (by decide),Ib hx.2]
      simp only [Option.bind_some,Mu,Kn]
      simp
theorem Xu (x:api_Stmt) (hx:Dy x):Z3i 1000001 x=some (Cw x):=by
  unfold Z3i Cw
  by_cases hc:1≤x.Kind∧x.Kind≤14∧0≤x.At∧x.At≤4000
  · rw [if_neg (by simp only [Bool.or_eq_true, decide_eq_true_eq]; omega), decide_eq_true hc, Wt]
    simp only [Option.bind_some]
    rw [show (114:Int)=((114:Nat):Int) from rfl,show (110:Int)=((110:Nat):Int) from rfl,show (101:Int)=((101:Nat):Int) from rfl,show (102:Int)=((102:Nat):Int) from rfl,
      Gr (by decide),Gr (by decide),Gr (by decide),Gr (by decide),Fy]
    simp only [Option.bind_some,Mo]
    have e1:UInt8.ofNat 114=114:=rfl
    have e2:UInt8.ofNat 110=110:=rfl
    have e3:UInt8.ofNat 101=101:=rfl
    have e4:UInt8.ofNat 102=102:=rfl
    rw [e1,e2,e3,e4]
    cases Eu (decide (114∈hS x.Kind)) x.Reg with
    | false=>rw [if_pos (by decide),Ll x hx];simp
    | true =>
      rw [if_neg (by decide),Fy]
      simp only [Option.bind_some,Mo,Ll x hx]
      congr 1
      cases Eu (decide (110∈hS x.Kind)) x.Name <;> cases Ew (decide (101∈hS x.Kind)) x.E <;> cases Ew (decide (102∈hS x.Kind)) x.F <;> simp
  · rw [if_pos (by simp only [Bool.or_eq_true,decide_eq_true_eq];omega),decide_eq_false hc];rfl
theorem Tm {l:List api_Stmt} (hl:l.length≤3000) (hs:∀ x∈l,Dy x):Z99 1000001 l=some (!l.all Cw):=by
  have key:∀ (d j n:Nat),j+d=l.length→d < n→∃ r,Z9w 1000001 Z9v l n (j:Int)=some r∧(decide (0≤r) = !(l.drop j).all Cw):=by
    intro d
    induction d with
    | zero =>
      intro j n hj hn
      obtain ⟨n,rfl⟩:∃ m,n=m+1:=⟨n - 1,by omega⟩
      rw [Z9w,if_neg (by omega),List.drop_of_length_le (by omega)]
      exact ⟨-1,rfl,rfl⟩
    | succ d ih =>
      intro j n hj hn
      obtain ⟨n,rfl⟩:∃ m,n=m+1:=⟨n - 1,by omega⟩
      have h1:j < l.length:=by omega
      rw [Z9w,if_pos (by omega),Ao rfl h1]
      simp only [Option.bind_some,Xx _ (hs _ (List.getElem_mem h1))]
      rw [List.drop_eq_getElem_cons h1,List.all_cons]
      cases hk:Cw l[j] with
      | false=>exact ⟨j,by simp,by simp⟩
      | true =>
        obtain ⟨r,h2,h3⟩:=ih (j+1) n (by omega) (by omega)
        rw [Bc h1 (by omega)]
        exact ⟨r,by simpa using h2,by simpa using h3⟩
  obtain ⟨r,h1,h2⟩:=key l.length 0 1000001 (by omega) (by omega)
  unfold Z99 Z9u
  rw [show (0:Int)=((0:Nat):Int) from rfl,h1]
  simpa using h2
theorem Qi {l:List api_Stmt} (hl:l.length≤3000) (hs:∀ x∈l,Dy x) (k:Option Bool):∀ (d j n:Nat),j+d=l.length→d < n→Z38 1000001 k l n (j:Int)=if (l.drop j).all Cw=true then k else some false:=by
  intro d
  induction d with
  | zero =>
    intro j n hj hn
    obtain ⟨n,rfl⟩:∃ m,n=m+1:=⟨n - 1,by omega⟩
    rw [Z38,if_neg (by omega),List.drop_of_length_le (by omega)]
    rfl
  | succ d ih =>
    intro j n hj hn
    obtain ⟨n,rfl⟩:∃ m,n=m+1:=⟨n - 1,by omega⟩
    have h1:j < l.length:=by omega
    rw [Z38,if_pos (by omega),Ao rfl h1]
    simp only [Option.bind_some,Xu _ (hs _ (List.getElem_mem h1))]
    rw [List.drop_eq_getElem_cons h1,List.all_cons]
    cases hk:Cw l[j] with
    | false=>simp
    | true =>
      rw [if_pos rfl,Bc h1 (by omega),ih (j+1) n (by omega) (by omega)]
      simp
end Go.MD.LB.W
namespace Go.MD.LB.W
open Go Go.MD Go.MD.LB
inductive B
  | nil
  | cons (x:api_Stmt) (a b r:B)
def B.flat:B→List api_Stmt
  | .nil=>[]
  | .cons x a b r=>x :: (a.flat ++ (b.flat ++ r.flat))
def B.size:B→Nat
  | .nil=>0
  | .cons _ a b r=>1+a.size+b.size+r.size
def Ku (x:api_Stmt):Prop:=x.Kind=11∨x.Kind=12
instance (x:api_Stmt):Decidable (Ku x):=inferInstanceAs (Decidable (_∨_))
def B.depth:B→Nat
  | .nil=>0
  | .cons x a b r=>if Ku x then max (max (a.depth+1) (b.depth+1)) r.depth else r.depth
def inL (x:api_Stmt) (p:Nat):Nat:=if x.Kind=12 then p+1 else p
def B.good:Nat→B→Prop
  | _,.nil=>True
  | p,.cons x a b r=>x.Body=(a.size:Int)∧x.Else=(b.size:Int)∧(¬ Ku x→a=.nil)∧(x.Kind≠11→b=.nil)∧¬ (x.Kind=13∧p=0)∧a.good (inL x p)∧b.good (inL x p)∧r.good p
theorem B.flat_len:∀ b:B,b.flat.length=b.size
  | .nil=>rfl
  | .cons x a b r=>by simp only [B.flat,B.size,List.length_cons,List.length_append,a.flat_len,b.flat_len,r.flat_len];omega
theorem B.depth_le:∀ b:B,b.depth≤b.size
  | .nil=>Nat.le_refl _
  | .cons x a b r => by
    have:=a.depth_le;have:=b.depth_le;have:=r.depth_le
    simp only [B.depth,B.size]
    split <;> omega
theorem B.split {l:List api_Stmt} {i:Nat} (hi:i < l.length) {b:B} {p:Nat} (hg:b.good p) (h:l.drop i=b.flat) :
    ∃ a c r,b=.cons l[i] a c r∧(l.drop (i+1)).take a.size=a.flat∧(l.drop (i+1+a.size)).take c.size=c.flat∧l.drop (i+1+a.size+c.size)=r.flat∧i+1+a.size+c.size≤l.length:=by
  cases b with
  | nil=>rw [List.drop_eq_getElem_cons hi] at h;cases h
  | cons x a c r =>
    rw [List.drop_eq_getElem_cons hi,B.flat] at h
    injection h with h1 h2
    have e1:=a.flat_len
    have e2:=c.flat_len
    refine ⟨a,c,r,by rw [h1],?_,?_,?_,?_⟩
    · rw [h2,← e1,List.take_left]
    · rw [← List.drop_drop,h2,← e1,List.drop_left,← e2,List.take_left]
    · rw [← List.drop_drop,← List.drop_drop,h2,← e1,List.drop_left,← e2,List.drop_left]
    · have := congrArg List.length h2
      simp only [List.length_drop,List.length_append,e1,e2] at this
      omega
theorem Yv {l:List api_Stmt} {i m n:Nat} (hi:i < l.length) (_:i+1+m+n≤l.length):l.drop i=l[i] :: ((l.drop (i+1)).take m ++ ((l.drop (i+1+m)).take n ++ l.drop (i+1+m+n))):=by
  rw [List.drop_eq_getElem_cons hi]
  congr 1
  rw [← List.drop_drop (i:=n) (j:=i+1+m),List.take_append_drop,← List.drop_drop (i:=m) (j:=i+1),List.take_append_drop]
theorem Rp {i n:Nat} {x y:Int} (hn:n≤40) (hi:i < n) (hx:0≤x) (hx2:x≤40) (hy:0≤y) (hy2:y≤40) :
    IntKind.i64.wrap ((i:Int)+1)=((i+1:Nat):Int)∧IntKind.i64.wrap (IntKind.i64.wrap ((i:Int)+1)+x)=((i+1+x.toNat:Nat):Int)∧IntKind.i64.wrap (IntKind.i64.wrap (IntKind.i64.wrap ((i:Int)+1)+x)+y)=((i+1+x.toNat+y.toNat:Nat):Int):=by
  have h1:IntKind.i64.wrap ((i:Int)+1)=((i+1:Nat):Int):=Bc hi (by omega)
  have h2:IntKind.i64.wrap (IntKind.i64.wrap ((i:Int)+1)+x)=((i+1+x.toNat:Nat):Int):=by rw [h1,w64 (by omega) (by omega)];omega
  have h3:IntKind.i64.wrap (IntKind.i64.wrap (IntKind.i64.wrap ((i:Int)+1)+x)+y)=((i+1+x.toNat+y.toNat:Nat):Int):=by rw [h2,w64 (by omega) (by omega)];omega
  exact ⟨h1,h2,h3⟩
theorem Ga {α:Type} {l:List α} {i j:Nat} (h:i+j≤l.length):Et l (i:Int) ((i+j:Nat):Int)=some ((l.drop i).take j):=by
  rw [Iw (by omega) (by omega) (by omega)]
  congr 1
  simp only [Int.toNat_natCast]
  rw [List.drop_take]
  congr 1
  omega
def DR (l:List api_Stmt) (p i v:Nat) (r:Int):Prop:=
  (∃ b:B,b.good p∧l.drop i=b.flat∧r=((max v b.depth:Nat):Int))∨(r = -1∧∀ b:B,b.good p→l.drop i≠b.flat)
def stA (D:List api_Stmt→Int→Option Int) (N:Nat) (L:Int→Int→Option Int) (p1:List api_Stmt) (p6 vB1 vB2:Int):Option Int:=
  if vB2 < (p1.length:Int) then
      (getI p1 vB2).bind fun x8=>
      if (((((decide (x8.Body < 0)) || (decide (x8.Else < 0))) || (decide ((p1.length:Int) < x8.Body))) || (decide ((p1.length:Int) < x8.Else))) || (decide ((p1.length:Int) < (IntKind.i64.wrap ((IntKind.i64.wrap ((IntKind.i64.wrap (vB2+1))+x8.Body))+x8.Else)))))=true then
        some (-1)
      else
        if ((!((decide (x8.Kind=11)) || (decide (x8.Kind=12)))) && (decide (0 < x8.Body)))=true then
          (Zak D N L p1 p6 x8 vB1 vB2) ((!((decide (x8.Kind=11)) || (decide (x8.Kind=12)))) && (decide (0 < x8.Body)))
        else
          if ((decide (x8.Kind≠11)) && (decide (0 < x8.Else)))=true then
            (Zak D N L p1 p6 x8 vB1 vB2) ((decide (x8.Kind≠11)) && (decide (0 < x8.Else)))
          else
            (Zak D N L p1 p6 x8 vB1 vB2) ((decide (x8.Kind=13)) && (decide (p6=0)))
    else
      some vB1
def stB (D:List api_Stmt→Int→Option Int) (L:Int→Int→Option Int) (p1:List api_Stmt) (p6 vB1 vB2:Int):Option Int:=
  if vB2 < (p1.length:Int) then
      (getI p1 vB2).bind fun x8=>
      if (((((decide (x8.Body < 0)) || (decide (x8.Else < 0))) || (decide (40 < x8.Body))) || (decide (40 < x8.Else))) || (decide ((p1.length:Int) < (IntKind.i64.wrap ((IntKind.i64.wrap ((IntKind.i64.wrap (vB2+1))+x8.Body))+x8.Else)))))=true then
        some (-1)
      else
        if (((((decide (0 < x8.Body)) && (decide (x8.Kind≠11))) && (decide (x8.Kind≠12))) || ((decide (0 < x8.Else)) && (decide (x8.Kind≠11)))) || ((decide (x8.Kind=13)) && (decide (p6=0))))=true then
          some (-1)
        else
          if x8.Kind=12 then
            (Z3f D L p1 x8 vB1 vB2) (IntKind.i64.wrap (p6+1))
          else
            (Z3f D L p1 x8 vB1 vB2) p6
    else
      some vB1
theorem Jaq (D:List api_Stmt→Int→Option Int) (N:Nat) (p1:List api_Stmt) (p6 vB1 vB2:Int) (n:Nat):Zam D N Zaj p1 p6 (n+1) vB1 vB2=stA D N (Zam D N Zaj p1 p6 n) p1 p6 vB1 vB2:=rfl
theorem Ja2 (D:List api_Stmt→Int→Option Int) (N:Nat) (p1:List api_Stmt) (p6 vB1 vB2:Int) (n:Nat):Z3h D N Z3e p1 p6 (n+1) vB1 vB2=stB D (Z3h D N Z3e p1 p6 n) p1 p6 vB1 vB2:=rfl
theorem Nb (p:Nat):(p:Int)+1=((p+1:Nat):Int):=by omega
set_option maxHeartbeats 1000000 in
theorem Tj (D1 D2:List api_Stmt→Int→Option Int) (L1 L2:Int→Int→Option Int) (N:Nat) {l:List api_Stmt} {i p v:Nat} (h40:l.length≤40) (hp:p+l.length≤3000) (hv:v≤100) (h1:i < l.length)
    (ih:∀ l':List api_Stmt,l'.length < l.length→∀ q:Nat,q≤p+1→∃ r,D1 l' (q:Int)=some r∧D2 l' (q:Int)=some r∧DR l' q 0 0 r)
    (nx:∀ j v':Nat,i < j→j≤l.length→v'≤100→∃ r,L1 (v':Int) (j:Int)=some r∧L2 (v':Int) (j:Int)=some r∧DR l p j v' r) :
    ∃ r,stA D1 N L1 l (p:Int) (v:Int) (i:Int)=some r∧stB D2 L2 l (p:Int) (v:Int) (i:Int)=some r∧DR l p i v r:=by
  rw [stA,stB,if_pos (by omega),if_pos (by omega),Ao rfl h1]
  simp only [Option.bind_some,Bool.or_eq_true,Bool.and_eq_true,decide_eq_true_eq,Bool.not_eq_true',Bool.or_eq_false_iff,decide_eq_false_iff_not]
  generalize hx:l[i]=x
  -- is there room
  by_cases hroom:0≤x.Body∧0≤x.Else∧(i:Int)+1+x.Body+x.Else≤(l.length:Int)
  rotate_left
  · refine ⟨-1, ?_, ?_, .inr ⟨rfl, fun b hg hb => ?_⟩⟩
    · rw [if_pos]
      by_cases q:0≤x.Body∧0≤x.Else∧x.Body≤(l.length:Int)∧x.Else≤(l.length:Int)
      · right;rw [(Rp h40 h1 q.1 (by omega) q.2.1 (by omega)).2.2];omega
      · left;omega
    · rw [if_pos]
      by_cases q:0≤x.Body∧0≤x.Else∧x.Body≤40∧x.Else≤40
      · right;rw [(Rp h40 h1 q.1 (by omega) q.2.1 (by omega)).2.2];omega
      · left;omega
    · obtain ⟨a, c, r, rfl, _, _, _, h5⟩ := B.split h1 hg hb
      rw [hx] at hg
      obtain ⟨g1,g2,_⟩:=hg
      omega
  obtain ⟨w1,w2,w3⟩:=Rp (x:=x.Body) (y:=x.Else) h40 h1 hroom.1 (by omega) hroom.2.1 (by omega)
  obtain ⟨bn,hbn⟩:∃ q:Nat,x.Body=(q:Int):=⟨x.Body.toNat,by omega⟩
  obtain ⟨en,hen⟩:∃ q:Nat,x.Else=(q:Int):=⟨x.Else.toNat,by omega⟩
  rw [w3]
  have hA : ¬ ((((x.Body < 0∨x.Else < 0)∨(l.length:Int) < x.Body)∨(l.length:Int) < x.Else)∨(l.length:Int) < ((i+1+x.Body.toNat+x.Else.toNat:Nat):Int)):=by omega
  have hB : ¬ ((((x.Body < 0∨x.Else < 0)∨40 < x.Body)∨40 < x.Else)∨(l.length:Int) < ((i+1+x.Body.toNat+x.Else.toNat:Nat):Int)):=by omega
  rw [if_neg hA,if_neg hB]
  have hle:i+1+bn+en≤l.length:=by omega
  rw [hbn,hen,Int.toNat_natCast,Int.toNat_natCast] at w3
  rw [hbn,Int.toNat_natCast] at w2
  by_cases hk:(¬ Ku x∧0 < bn)∨(x.Kind≠11∧0 < en)∨(x.Kind=13∧p=0)
  · refine ⟨-1, ?_, ?_, .inr ⟨rfl, fun b hg hb => ?_⟩⟩
    · unfold Ku at hk
      by_cases q1:(¬x.Kind=11∧¬x.Kind=12)∧0 < x.Body
      · rw [if_pos q1,Zak,if_pos (by simp only [Bool.and_eq_true,Bool.not_eq_true',Bool.or_eq_false_iff,decide_eq_false_iff_not,decide_eq_true_eq];exact q1)]
      · rw [if_neg q1]
        by_cases q2:x.Kind≠11∧0 < x.Else
        · rw [if_pos q2,Zak,if_pos (by simpa using q2)]
        · rw [if_neg q2,Zak,if_pos (by simp only [Bool.and_eq_true,decide_eq_true_eq];omega)]
    · unfold Ku at hk
      rw [if_pos (by omega)]
    · obtain ⟨a, c, r, rfl, _, _, _, _⟩ := B.split h1 hg hb
      rw [hx] at hg
      obtain ⟨g1,g2,g3,g4,g5,_⟩:=hg
      rcases hk with ⟨q1,q2⟩ | ⟨q1,q2⟩ | q
      · rw [g3 q1] at g1;simp [B.size] at g1;omega
      · rw [g4 q1] at g2;simp [B.size] at g2;omega
      · exact g5 q
  have hk1 : ¬ Ku x→bn=0:=fun q=>by
    rcases Nat.eq_zero_or_pos bn with h | h
    · exact h
    · exact absurd (.inl ⟨q,h⟩) hk
  have hk2:x.Kind≠11→en=0:=fun q=>by
    rcases Nat.eq_zero_or_pos en with h | h
    · exact h
    · exact absurd (.inr (.inl ⟨q,h⟩)) hk
  have hk3 : ¬ (x.Kind=13∧p=0):=fun q=>hk (.inr (.inr q))
  have e1 : ¬ ((¬x.Kind=11∧¬x.Kind=12)∧0 < x.Body):=by
    rintro ⟨⟨q1,q2⟩,q3⟩
    have:=hk1 (fun h=>by rcases h with h | h <;> omega)
    omega
  have e2 : ¬ (x.Kind≠11∧0 < x.Else):=by
    rintro ⟨q1,q3⟩
    have:=hk2 q1
    omega
  have e3 : ¬ ((((0 < x.Body∧x.Kind≠11)∧x.Kind≠12)∨0 < x.Else∧x.Kind≠11)∨x.Kind=13∧(p:Int)=0):=by
    intro q
    rcases q with (q | q) | q
    · exact e1 ⟨⟨q.1.2,q.2⟩,q.1.1⟩
    · exact e2 ⟨q.2,q.1⟩
    · exact hk3 ⟨q.1,by omega⟩
  rw [if_neg e1,if_neg e2,if_neg e3]
  have e4:((decide (x.Kind=13)) && (decide ((p:Int)=0)))=false:=by
    rw [Bool.eq_false_iff];simp only [ne_eq,Bool.and_eq_true,decide_eq_true_eq]
    intro q;exact hk3 ⟨q.1,by omega⟩
  rw [e4,Zak,if_neg (by decide)]
  -- Hu comes behind
  have next:∀ v':Nat,v'≤100→∃ r,Zal L1 x (i:Int) (v':Int)=some r∧Z3g L2 x (i:Int) (v':Int)=some r∧DR l p (i+1+bn+en) v' r:=by
    intro v' hv'
    obtain ⟨r,r1,r2,r3⟩:=nx (i+1+bn+en) v' (by omega) hle hv'
    refine ⟨r,?_,?_,r3⟩
    · rw [Zal,hbn,hen,w3,r1]
    · rw [Z3g,hbn,hen,w3,r2]
  have hpp:(if x.Kind=12 then Z3f D2 L2 l x (v:Int) (i:Int) (IntKind.i64.wrap ((p:Int)+1)) else Z3f D2 L2 l x (v:Int) (i:Int) (p:Int)) =
      Z3f D2 L2 l x (v:Int) (i:Int) ((inL x p:Nat):Int):=by
    unfold inL
    by_cases q:x.Kind=12
    · rw [if_pos q,if_pos q,w64 (by omega) (by omega),Nb]
    · rw [if_neg q,if_neg q]
  rw [hpp,Z3f]
  by_cases hbl:Ku x
  · have hb2 : ((decide (x.Kind = 11)) || (decide (x.Kind = 12))) = true := by simpa [Ku] using hbl
    rw [if_pos hb2,if_pos hb2,Zat]
    have hwb:IntKind.i64.wrap ((p:Int)+(if x.Kind=12 then 1 else 0))=((inL x p:Nat):Int):=by
      unfold inL
      split
      · rw [w64 (by omega) (by omega),Nb]
      · rw [w64 (by omega) (by omega)];omega
    have hwb2:(if decide (x.Kind=12)=true then some (1:Int) else some 0)=some (if x.Kind=12 then 1 else 0):=by
      simp only [decide_eq_true_eq];split <;> rfl
    rw [hwb2]
    simp only [Option.bind_some,hwb]
    rw [hbn,hen,w3,w2,w1,Ga (by omega),show i+1+bn+en=(i+1+bn)+en from rfl,Ga (i:=i+1+bn) (by omega)]
    simp only [Option.bind_some]
    have hil2:inL x p≤p+1:=by unfold inL;split <;> omega
    obtain ⟨r1,a1,a2,a3⟩:=ih ((l.drop (i+1)).take bn) (by simp;omega) (inL x p) hil2
    obtain ⟨r2,c1,c2,c3⟩:=ih ((l.drop (i+1+bn)).take en) (by simp;omega) (inL x p) hil2
    rw [a1,a2]
    simp only [Option.bind_some]
    rw [c1,c2]
    simp only [Option.bind_some]
    unfold DR at a3 c3
    rw [List.drop_zero] at a3 c3
    rcases a3 with ⟨ba,ga,fa,da⟩ | ⟨da,na⟩
    rotate_left
    · refine ⟨-1, ?_, ?_, .inr ⟨rfl, fun b hg hb => ?_⟩⟩
      · rw [if_pos (by simp [da])]
      · rw [if_pos (by simp [da])]
      · obtain ⟨a, c, r, rfl, s1, _⟩ := B.split h1 hg hb
        rw [hx] at hg
        obtain ⟨g1,g2,_,_,_,g6,_⟩:=hg
        have:a.size=bn:=by omega
        rw [this] at s1
        exact na a g6 s1
    rcases c3 with ⟨bc,gc,fc,dc⟩ | ⟨dc,nc⟩
    rotate_left
    · refine ⟨-1, ?_, ?_, .inr ⟨rfl, fun b hg hb => ?_⟩⟩
      · rw [if_pos (by simp [dc])]
      · rw [if_pos (by simp [dc])]
      · obtain ⟨a, c, r, rfl, _, s2, _⟩ := B.split h1 hg hb
        rw [hx] at hg
        obtain ⟨g1,g2,_,_,_,_,g7,_⟩:=hg
        have q1:a.size=bn:=by omega
        have q2:c.size=en:=by omega
        rw [q1,q2] at s2
        exact nc c g7 s2
    have la:=congrArg List.length fa
    have lc:=congrArg List.length fc
    rw [B.flat_len] at la lc
    simp only [List.length_take,List.length_drop] at la lc
    have sa:x.Body=(ba.size:Int):=by rw [hbn];clear hpp hA hB hk;omega
    have sc:x.Else=(bc.size:Int):=by rw [hen];clear hpp hA hB hk;omega
    have dla:=ba.depth_le
    have dlc:=bc.depth_le
    rw [if_neg (by simp [da,dc]),if_neg (by simp [da,dc]),da,dc]
    have ex1:max (max (v:Int) (IntKind.i64.wrap (((max 0 ba.depth:Nat):Int)+1))) (IntKind.i64.wrap (((max 0 bc.depth:Nat):Int)+1))=((max (max v (ba.depth+1)) (bc.depth+1):Nat):Int):=by
      rw [w64 (by omega) (by omega),w64 (by omega) (by omega)];omega
    have ex2:max (max (v:Int) (IntKind.i64.wrap (1+((max 0 ba.depth:Nat):Int)))) (IntKind.i64.wrap (1+((max 0 bc.depth:Nat):Int)))=((max (max v (ba.depth+1)) (bc.depth+1):Nat):Int):=by
      rw [w64 (by omega) (by omega),w64 (by omega) (by omega)];omega
    rw [ex1,ex2]
    clear ex1 ex2 hpp hA hB hk
    obtain ⟨r,r1',r2',r3⟩:=next (max (max v (ba.depth+1)) (bc.depth+1)) (by omega)
    refine ⟨r,r1',r2',?_⟩
    rcases r3 with ⟨br,gr,fr,dr⟩ | ⟨dr,nr⟩
    · refine .inl ⟨.cons x ba bc br, ⟨sa, sc, fun q => absurd hbl q, fun q => ?_, hk3, ga, gc, gr⟩, ?_, ?_⟩
      · have := hk2 q
        cases bc with
        | nil=>rfl
        | cons _ _ _ _=>simp only [B.size] at lc;omega
      · rw [Yv h1 hle,hx,fa,fc,fr];rfl
      · rw [dr];simp only [B.depth,if_pos hbl];omega
    · refine .inr ⟨dr, fun b hg hb => ?_⟩
      obtain ⟨a,c,r,rfl,_,_,s3,_⟩:=B.split h1 hg hb
      rw [hx] at hg
      obtain ⟨g1,g2,_,_,_,_,_,g8⟩:=hg
      have q1:a.size=bn:=by omega
      have q2:c.size=en:=by omega
      rw [q1,q2] at s3
      exact nr r g8 s3
  · have hb2 : ¬ (((decide (x.Kind = 11)) || (decide (x.Kind = 12))) = true) := by simpa [Ku] using hbl
    rw [if_neg hb2,if_neg hb2]
    have q1:=hk1 hbl
    have q2:=hk2 (fun h=>hbl (.inl h))
    subst q1;subst q2
    obtain ⟨r,r1',r2',r3⟩:=next v hv
    refine ⟨r,r1',r2',?_⟩
    rcases r3 with ⟨br,gr,fr,dr⟩ | ⟨dr,nr⟩
    · refine .inl ⟨.cons x .nil .nil br, ⟨hbn, hen, fun _ => rfl, fun _ => rfl, hk3, trivial, trivial, gr⟩, ?_, ?_⟩
      · rw [Yv h1 hle,hx,fr];simp [B.flat]
      · rw [dr,B.depth,if_neg hbl]
    · refine .inr ⟨dr, fun b hg hb => ?_⟩
      obtain ⟨a,c,r,rfl,_,_,s3,_⟩:=B.split h1 hg hb
      rw [hx] at hg
      obtain ⟨g1,g2,_,_,_,_,_,g8⟩:=hg
      have q1:a.size=0:=by omega
      have q2:c.size=0:=by omega
      rw [q1,q2] at s3
      exact nr r g8 s3
theorem Sz:∀ (m:Nat) (l:List api_Stmt),l.length≤m→l.length≤40→∀ (p fuel:Nat),p+l.length≤3000→l.length+2≤fuel→
    ∃ r,Zai fuel l (p:Int)=some r∧Z3d fuel l (p:Int)=some r∧DR l p 0 0 r:=by
  intro m
  induction m with
  | zero =>
    intro l hm h40 p fuel hp hf
    have:l=[]:=List.eq_nil_of_length_eq_zero (by omega)
    subst this
    obtain ⟨f,rfl⟩:∃ f,fuel=f+1+1:=⟨fuel - 2,by simp at hf;omega⟩
    refine ⟨0,?_,?_,.inl ⟨.nil,trivial,rfl,rfl⟩⟩
    · rw [Zai,Zam,if_neg (by simp)];rfl
    · rw [Z3d,Z3h,if_neg (by simp)];rfl
  | succ m ih =>
    intro l hm h40 p fuel hp hf
    obtain ⟨f,rfl⟩:∃ f,fuel=f+1:=⟨fuel - 1,by omega⟩
    have key:∀ (d i n v:Nat),l.length - i≤d→i≤l.length→l.length - i < n→v≤100→
        ∃ r,Zam (Zai f) f Zaj l (p:Int) n (v:Int) (i:Int)=some r∧Z3h (Z3d f) f Z3e l (p:Int) n (v:Int) (i:Int)=some r∧DR l p i v r:=by
      intro d
      induction d with
      | zero =>
        intro i n v hd hi hn hv
        obtain ⟨n,rfl⟩:∃ q,n=q+1:=⟨n - 1,by omega⟩
        refine ⟨v,?_,?_,.inl ⟨.nil,trivial,by rw [List.drop_of_length_le (by omega)];rfl,by simp [B.depth]⟩⟩
        · rw [Zam,if_neg (by omega)];rfl
        · rw [Z3h,if_neg (by omega)];rfl
      | succ d ihd =>
        intro i n v hd hi hn hv
        obtain ⟨n,rfl⟩:∃ q,n=q+1:=⟨n - 1,by omega⟩
        by_cases hil:i=l.length
        · refine ⟨v, ?_, ?_, .inl ⟨.nil, trivial, by rw [List.drop_of_length_le (by omega)]; rfl, by simp [B.depth]⟩⟩
          · rw [Zam,if_neg (by omega)];rfl
          · rw [Z3h,if_neg (by omega)];rfl
        have h1:i < l.length:=by omega
        rw [Jaq,Ja2]
        exact Tj (Zai f) (Z3d f) _ _ f h40 hp hv h1 (fun l' hl' q hq=>ih l' (by omega) (by omega) q f (by omega) (by omega)) (fun j v' hj hj2 hv'=>ihd j n v' (by omega) hj2 (by omega) hv')
    obtain ⟨r,r1,r2,r3⟩:=key l.length 0 f 0 (by omega) (Nat.zero_le _) (by omega) (by omega)
    refine ⟨r,?_,?_,r3⟩
    · rw [Zai];exact r1
    · rw [Z3d];exact r2
end Go.MD.LB.W
namespace Go.MD.LB.W
open Go Go.MD Go.MD.LB
theorem B.uniq:∀ {b c:B} {p q:Nat},b.good p→c.good q→b.flat=c.flat→b=c:=by
  intro b
  induction b with
  | nil=>intro c p q _ _ h;cases c with | nil=>rfl | cons _ _ _ _=>simp [B.flat] at h
  | cons x a d r iha ihd ihr =>
    intro c p q hb hc h
    cases c with
    | nil=>simp [B.flat] at h
    | cons y a' d' r' =>
      simp only [B.flat,List.cons.injEq] at h
      obtain ⟨rfl,h⟩:=h
      obtain ⟨b1,b2,_,_,_,b6,b7,b8⟩:=hb
      obtain ⟨c1,c2,_,_,_,c6,c7,c8⟩:=hc
      have e1:a.flat.length=a'.flat.length:=by rw [B.flat_len,B.flat_len];omega
      have e2:d.flat.length=d'.flat.length:=by rw [B.flat_len,B.flat_len];omega
      obtain ⟨h1,h2⟩:=List.append_inj h e1
      obtain ⟨h3,h4⟩:=List.append_inj h2 e2
      rw [iha b6 c6 h1,ihd b7 c7 h3,ihr b8 c8 h4]
structure RB (l:List api_Stmt) (t:B):Prop where
  len:l.length≤40
  fits:∀ x∈l,Cw x=true
  good:t.good 0
  flat:l=t.flat
  depth:t.depth≤12
theorem Jay {l:List api_Stmt} (hl:l.length≤3000) (hs:∀ x∈l,Dy x):∃ b,Zag 1000001 l=some b∧Z36 1000001 l=some b∧(b=true↔∃ t,RB l t):=by
  unfold Zag Z36
  by_cases h:40 < l.length
  · rw [if_pos (by omega), if_pos (by omega), Zah, if_pos rfl]
    exact ⟨false,rfl,rfl,fun h=>(by cases h),fun ⟨t,ht⟩=>by have:=ht.len;omega⟩
  · rw [if_neg (by omega), if_neg (by omega), Tm hl hs, show (0 : Int) = ((0 : Nat) : Int) from rfl, Qi hl hs _ l.length 0 1000001 (by omega) (by omega), List.drop_zero]
    simp only [Option.bind_some]
    cases hm:l.all Cw with
    | false =>
      refine ⟨false,?_,by simp,fun h=>(by cases h),fun ⟨t,ht⟩=>?_⟩
      · rw [Zah];rfl
      · rw [List.all_eq_true.2 ht.fits] at hm;cases hm
    | true =>
      obtain ⟨r,r1,r2,r3⟩:=Sz l.length l (Nat.le_refl _) (by omega) 0 1000001 (by omega) (by omega)
      rw [Zah,if_neg (by decide),if_pos rfl,Z37,show (0:Int)=((0:Nat):Int) from rfl,r1,r2]
      simp only [Option.bind_some]
      rcases r3 with ⟨t,g,f,rfl⟩ | ⟨rfl,hn⟩
      · rw [List.drop_zero] at f
        refine ⟨decide (t.depth≤12),?_,?_,?_⟩
        · congr 1;rw [Bool.eq_iff_iff];simp only [Bool.and_eq_true,decide_eq_true_eq];omega
        · congr 1;rw [Bool.eq_iff_iff];simp only [Bool.and_eq_true,decide_eq_true_eq];omega
        · rw [decide_eq_true_eq]
          constructor
          · intro hd;exact ⟨t,by omega,List.all_eq_true.1 hm,g,f,hd⟩
          · rintro ⟨t', ht'⟩
            have:t=t':=B.uniq g ht'.good (by rw [← f,ht'.flat])
            subst this;exact ht'.depth
      · refine ⟨false, by decide, by decide, fun h => (by cases h), fun ⟨t, ht⟩ => ?_⟩
        exact absurd ht.flat (by have:=hn t ht.good;rwa [List.drop_zero] at this)
def B.okN:B→Prop
  | .nil=>True
  | .cons x a b r=>(x.Kind=12→1≤x.N∧x.N≤8)∧a.okN∧b.okN∧r.okN
theorem JaP {x:api_Stmt} (h:Cw x=true):x.Kind=12→1≤x.N∧x.N≤8:=by
  intro hk
  unfold Cw at h
  rw [hk] at h
  simp only [Bool.and_eq_true] at h
  have h1:=h.1.2
  rw [if_pos (by decide)] at h1
  simpa using h1
theorem Ng:∀ (b:B),(∀ x∈b.flat,Cw x=true)→b.okN
  | .nil,_=>trivial
  | .cons x a c r,h=>⟨JaP (h x (.head _)),Ng a (fun y hy=>h y (by simp [B.flat,hy])),Ng c (fun y hy=>h y (by simp [B.flat,hy])),Ng r (fun y hy=>h y (by simp [B.flat,hy]))⟩
theorem Kg (x:api_Stmt) (a c r:B) (p:Nat) (hg:(B.cons x a c r).good p):a.depth≤(B.cons x a c r).depth∧c.depth≤(B.cons x a c r).depth∧r.depth≤(B.cons x a c r).depth:=by
  obtain ⟨_,_,g3,g4,_⟩:=hg
  by_cases hb:Ku x
  · rw [B.depth,if_pos hb];omega
  · rw [B.depth, if_neg hb]
    have e1:=g3 hb
    have e2:=g4 (fun h=>hb (.inl h))
    subst e1;subst e2
    simp [B.depth]
structure OKB (b:B):Prop where
  good:∃ p,b.good p
  okN:b.okN
  size:b.size≤40
  depth:b.depth≤12
theorem OKB.a {x:api_Stmt} {a c r:B} (h:OKB (.cons x a c r)):OKB a:=by
  obtain ⟨⟨p,hg⟩,hn,hs,hd⟩:=h
  have:=Kg x a c r p hg
  simp only [B.size] at hs
  exact ⟨⟨_,hg.2.2.2.2.2.1⟩,hn.2.1,by omega,by omega⟩
theorem OKB.c {x:api_Stmt} {a c r:B} (h:OKB (.cons x a c r)):OKB c:=by
  obtain ⟨⟨p,hg⟩,hn,hs,hd⟩:=h
  have:=Kg x a c r p hg
  simp only [B.size] at hs
  exact ⟨⟨_,hg.2.2.2.2.2.2.1⟩,hn.2.2.1,by omega,by omega⟩
theorem OKB.r {x:api_Stmt} {a c r:B} (h:OKB (.cons x a c r)):OKB r:=by
  obtain ⟨⟨p,hg⟩,hn,hs,hd⟩:=h
  have:=Kg x a c r p hg
  simp only [B.size] at hs
  exact ⟨⟨_,hg.2.2.2.2.2.2.2⟩,hn.2.2.2,by omega,by omega⟩
theorem RB.ok {l:List api_Stmt} {t:B} (h:RB l t):OKB t:=by
  refine ⟨⟨0,h.good⟩,Ng t (fun x hx=>h.fits x (by rw [h.flat];exact hx)),?_,h.depth⟩
  have:=congrArg List.length h.flat
  rw [B.flat_len] at this
  have:=h.len
  omega
theorem parts {l:List api_Stmt} {i:Nat} {x:api_Stmt} {a c r:B} (hl:l.length≤40) (hb:OKB (.cons x a c r)) (h:l.drop i=(B.cons x a c r).flat) :
    i < l.length∧getI l (i:Int)=some x∧IntKind.i64.wrap ((i:Int)+1)=((i+1:Nat):Int)∧
    IntKind.i64.wrap (((i+1:Nat):Int)+x.Body)=((i+1+a.size:Nat):Int)∧
    IntKind.i64.wrap (((i+1+a.size:Nat):Int)+x.Else)=((i+1+a.size+c.size:Nat):Int)∧
    Et l ((i+1:Nat):Int) ((i+1+a.size:Nat):Int)=some a.flat∧Et l ((i+1+a.size:Nat):Int) ((i+1+a.size+c.size:Nat):Int)=some c.flat∧
    l.drop (i+1+a.size+c.size)=r.flat∧i+1+a.size+c.size+r.size=l.length:=by
  have hi:i < l.length:=by
    rcases Nat.lt_or_ge i l.length with h1 | h1
    · exact h1
    · rw [List.drop_of_length_le h1] at h;simp [B.flat] at h
  obtain ⟨⟨p,hg⟩,hn,hs,hd⟩:=hb
  obtain ⟨a',c',r',e,s1,s2,s3,s4⟩:=B.split hi hg h
  injection e with e0 e1 e2 e3
  subst e1;subst e2;subst e3
  obtain ⟨g1,g2,_⟩:=hg
  have w:=Rp (x:=x.Body) (y:=x.Else) hl hi (by omega) (by omega) (by omega) (by omega)
  have t1:x.Body.toNat=a.size:=by omega
  have t2:x.Else.toNat=c.size:=by omega
  obtain ⟨w1,w2,w3⟩:=w
  rw [t1,t2] at w3
  rw [t1] at w2
  rw [w2] at w3
  rw [w1] at w2
  refine ⟨hi,by rw [Ao rfl hi,e0],w1,w2,w3,?_,?_,s3,?_⟩
  · rw [Ga (by omega),s1]
  · rw [Ga (by omega),s2]
  · have := congrArg List.length s3
    rw [B.flat_len,List.length_drop] at this
    omega
end Go.MD.LB.W
