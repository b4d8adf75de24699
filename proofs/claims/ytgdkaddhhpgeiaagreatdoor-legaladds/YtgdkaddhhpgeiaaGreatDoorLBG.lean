/- Expressions as trees. No condition: plain lemmas. -/
import Derived.Test.YtgdkaddhhpgeiaaGreatDoorLBP
import Derived.Test.YtgdkaddhhpgeiaaGreatDoorPL
namespace Go.MD.LB
open Go Go.MD
def ar (k:Int):Int:=if k=1∨k=2 then 0 else if k=3∨k=4 then 1 else if 5≤k∧k≤15 then 2 else -1
theorem H7 (N:Nat) (k:Int):Zb N k=some (ar k):=by
  unfold Zb ar
  simp only [Bool.or_eq_true,Bool.and_eq_true,decide_eq_true_eq]
  repeat' split
  all_goals rfl
theorem Es (N:Nat) (k:Int):Z2l N k=some (ar k):=by
  unfold Z2l ar
  simp only [Bool.or_eq_true,Bool.and_eq_true,decide_eq_true_eq]
  repeat' split
  all_goals rfl
theorem Jw (k:Int):(ar k=0∧(k=1∨k=2))∨(ar k=1∧(k=3∨k=4))∨(ar k=2∧5≤k∧k≤15)∨(ar k = -1∧(k < 1∨15 < k)):=by
  unfold ar
  repeat' split
  all_goals omega
inductive T
  | leaf (x:api_Node)
  | un (x:api_Node) (a:T)
  | bin (x:api_Node) (a b:T)
def T.flat:T→List api_Node
  | .leaf x=>[x]
  | .un x a=>x :: a.flat
  | .bin x a b=>x :: (a.flat ++ b.flat)
def T.size:T→Nat
  | .leaf _=>1
  | .un _ a=>a.size+1
  | .bin _ a b=>a.size+b.size+1
def T.depth:T→Nat
  | .leaf _=>1
  | .un _ a=>a.depth+1
  | .bin _ a b=>max a.depth b.depth+1
def T.wk:T→Prop
  | .leaf x=>ar x.Op=0
  | .un x a=>ar x.Op=1∧a.wk
  | .bin x a b=>ar x.Op=2∧a.wk∧b.wk
theorem T.flat_len:∀ t:T,t.flat.length=t.size
  | .leaf _=>rfl
  | .un _ a=>by simp [T.flat,T.size,T.flat_len a]
  | .bin _ a b=>by simp [T.flat,T.size,T.flat_len a,T.flat_len b]
theorem T.depth_le:∀ t:T,t.depth≤t.size
  | .leaf _=>Nat.le_refl _
  | .un _ a=>by have:=T.depth_le a;simp [T.depth,T.size];omega
  | .bin _ a b=>by have:=T.depth_le a;have:=T.depth_le b;simp only [T.depth,T.size];omega
theorem T.size_pos:∀ t:T,0 < t.size
  | .leaf _=>Nat.zero_lt_one
  | .un _ _=>Nat.succ_pos _
  | .bin _ _ _=>Nat.succ_pos _
def Em:Nat→List api_Node→Option (List api_Node)
  | 0,s=>some s
  | _+1,[]=>none
  | w+1,x :: s=>if ar x.Op < 0 then none else Em (w+(ar x.Op).toNat) s
theorem Dp (s:List api_Node):Em 0 s=some s:=by cases s <;> rfl
theorem Ct (w:Nat) (x:api_Node) (s:List api_Node):Em (w+1) (x :: s)=if ar x.Op < 0 then none else Em (w+(ar x.Op).toNat) s:=rfl
theorem Oe (v:Nat):∀ (s:List api_Node) (w:Nat),Em (w+v) s=(Em w s).bind (Em v)
  | s,0=>by rw [Nat.zero_add,Dp];rfl
  | [],w+1=>by rw [show w+1+v=(w+v)+1 by omega];rfl
  | x :: s, w + 1 => by
    rw [show w+1+v=(w+v)+1 by omega,Ct,Ct]
    split
    · rfl
    · rw [show w + v + (ar x.Op).toNat = w + (ar x.Op).toNat + v by omega]
      exact Oe v s _
theorem Jf:∀ (s:List api_Node) (w:Nat) {r:List api_Node},Em w s=some r→∃ p,s=p ++ r
  | s,0,r,h=>by rw [Dp] at h;cases h;exact ⟨[],rfl⟩
  | [],w+1,r,h=>by cases h
  | x :: s, w + 1, r, h => by
    rw [Ct] at h
    split at h
    · cases h
    · obtain ⟨p, hp⟩ := Jf s _ h
      exact ⟨x :: p,by rw [hp];rfl⟩
theorem Hb:∀ (t:T) (w:Nat) (s:List api_Node),t.wk→Em (w+1) (t.flat ++ s)=Em w s
  | .leaf x, w, s, h => by
    have h':ar x.Op=0:=h
    show Em (w+1) (x :: s)=_
    rw [Ct,if_neg (by omega),h'];rfl
  | .un x a, w, s, h => by
    obtain ⟨h1,h2⟩:=h
    show Em (w+1) (x :: (a.flat ++ s))=_
    rw [Ct,if_neg (by omega),h1]
    exact Hb a w s h2
  | .bin x a b, w, s, h => by
    obtain ⟨h1,h2,h3⟩:=h
    show Em (w+1) (x :: ((a.flat ++ b.flat) ++ s))=_
    rw [Ct,if_neg (by omega),h1,List.append_assoc]
    show Em ((w+1)+1) _=_
    rw [Hb a (w+1) _ h2,Hb b w s h3]
theorem Js:∀ (n:Nat) (s:List api_Node) (w:Nat) (r:List api_Node),s.length≤n→Em (w+1) s=some r→∃ (t:T) (s':List api_Node),t.wk∧s=t.flat ++ s'∧Em w s'=some r
  | 0, s, w, r, hl, h => by
    have:s=[]:=List.eq_nil_of_length_eq_zero (by omega)
    subst this;cases h
  | n+1,[],w,r,hl,h=>by cases h
  | n + 1, x :: s, w, r, hl, h => by
    rw [Ct] at h
    simp only [List.length_cons] at hl
    rcases Jw x.Op with ⟨h1,_⟩ | ⟨h1,_⟩ | ⟨h1,_⟩ | ⟨h1,_⟩
    · rw [if_neg (by omega), h1] at h
      exact ⟨.leaf x,s,h1,rfl,h⟩
    · rw [if_neg (by omega), h1] at h
      obtain ⟨a,s',k1,k2,k3⟩:=Js n s w r (by omega) h
      exact ⟨.un x a,s',⟨h1,k1⟩,by rw [k2];rfl,k3⟩
    · rw [if_neg (by omega), h1] at h
      obtain ⟨a,s',k1,k2,k3⟩:=Js n s (w+1) r (by omega) h
      have hs':s'.length≤n:=by rw [k2] at hl;simp at hl;omega
      obtain ⟨b,s'',j1,j2,j3⟩:=Js n s' w r hs' k3
      exact ⟨.bin x a b,s'',⟨h1,k1,j1⟩,by rw [k2,j2];simp [T.flat],j3⟩
    · rw [if_pos (by omega)] at h;cases h
def Eb (w:Nat) (l:List api_Node) (i:Nat):Int:=match Em w (l.drop i) with | some r=>(l.length:Int) - (r.length:Int) | none=>-1
theorem Iy {l p q:List api_Node} {t:T} (hl:l=p ++ (t.flat ++ q)) (ht:t.wk):Eb 1 l p.length=((p.length+t.size:Nat):Int):=by
  unfold Eb
  rw [hl,List.drop_left,Hb t 0 q ht,Dp]
  simp only [List.length_append,T.flat_len]
  omega
theorem Tq {N:Nat} {l:List api_Node} (hl:l.length≤1000):∀ (d i n w:Nat),i+d=l.length→d+1 < n→w≤2 * i+1→
    Z4 N Z2 l n (i:Int) (w:Int)=some (Eb w l i):=by
  intro d
  induction d with
  | zero =>
    intro i n w hi hn hw
    obtain ⟨n,rfl⟩:∃ m,n=m+1:=⟨n - 1,by omega⟩
    rw [Z4]
    unfold Eb
    rw [List.drop_of_length_le (by omega)]
    cases w with
    | zero=>rw [if_neg (by omega),Z2,Dp];simp;omega
    | succ w=>rw [if_pos (by omega),if_pos (by simp;omega),Z3,if_pos rfl];rfl
  | succ d ih =>
    intro i n w hi hn hw
    obtain ⟨n,rfl⟩:∃ m,n=m+1:=⟨n - 1,by omega⟩
    have h1:i < l.length:=by omega
    rw [Z4]
    cases w with
    | zero =>
      unfold Eb
      rw [if_neg (by omega),Z2,Dp];simp;omega
    | succ w =>
      rw [if_pos (by omega),if_neg (by simp;omega),Ax rfl h1]
      simp only [Option.bind_some,H7]
      have ha:=Jw l[i].Op
      have he:Eb (w+1) l i=if ar l[i].Op < 0 then -1 else Eb (w+(ar l[i].Op).toNat) l (i+1):=by
        unfold Eb
        rw [List.drop_eq_getElem_cons h1,Ct]
        by_cases hq:ar l[i].Op < 0
        · rw [if_pos hq,if_pos hq]
        · rw [if_neg hq,if_neg hq]
      rw [he,Z3]
      by_cases hn1:ar l[i].Op = -1
      · rw [if_pos (by simp [hn1]),if_pos (by omega)]
      · rw [if_neg (by simp [hn1]), if_neg (by omega), Ax rfl h1]
        simp only [Option.bind_some,H7]
        rw [Bf h1 (by omega),w64 (n:=((w+1:Nat):Int)+ar l[i].Op) (by omega) (by omega),w64 (by omega) (by omega),show ((w+1:Nat):Int)+ar l[i].Op - 1=((w+(ar l[i].Op).toNat:Nat):Int) by omega]
        exact ih (i+1) n _ (by omega) (by omega) (by omega)
theorem Tm {N:Nat} {l:List api_Node} (hl:l.length≤1000) (hN:l.length+1 < N) {i:Nat} (hi:i≤l.length):Z1 N l (i:Int)=some (Eb 1 l i):=by
  unfold Z1
  exact Tq (N:=N) hl (l.length - i) i N 1 (by omega) (by omega) (by omega)
theorem Ri {l:List api_Node} (hl:l.length≤1000):∀ (N i:Nat),i≤l.length→(l.length - i)+5≤N→Z2b N l (i:Int)=some (Eb 1 l i):=by
  intro N
  induction N with
  | zero=>intro i hi hN;omega
  | succ N ih =>
    intro i hi hN
    rw [Z2b]
    by_cases h1:i < l.length
    · rw [if_neg (by simp; omega), Ax rfl h1]
      simp only [Option.bind_some,Es]
      have he:Eb 1 l i=if ar l[i].Op < 0 then -1 else Eb (ar l[i].Op).toNat l (i+1):=by
        unfold Eb
        rw [List.drop_eq_getElem_cons h1,Ct,Nat.zero_add]
        by_cases hq:ar l[i].Op < 0
        · rw [if_pos hq,if_pos hq]
        · rw [if_neg hq,if_neg hq]
      rw [he,Z2c]
      obtain ⟨M,rfl⟩:∃ M,N=M+4:=⟨N - 4,by omega⟩
      have step:∀ (n:Nat) (v k:Int),Z2e (Z2b (M+4)) (M+4) Z2d l (i:Int) (n+1) v k=if k < ar l[i].Op∧0≤v then (Z2b (M+4) l v).bind fun r=>Z2e (Z2b (M+4)) (M+4) Z2d l (i:Int) n r (IntKind.i64.wrap (k+1)) else some v:=by
        intro n v k
        rw [Z2e,Ax rfl h1]
        simp only [Option.bind_some,Es,Bool.and_eq_true,decide_eq_true_eq]
        rfl
      have w1:IntKind.i64.wrap (0+1)=1:=by decide
      have w2:IntKind.i64.wrap (1+1)=2:=by decide
      rcases Jw l[i].Op with ⟨a1,_⟩ | ⟨a1,_⟩ | ⟨a1,_⟩ | ⟨a1,_⟩
      · rw [if_neg (by simp; omega), if_neg (by omega), a1, Bf h1 (by omega), step, if_neg (by omega)]
        unfold Eb
        rw [show (0:Int).toNat=0 from rfl,Dp]
        simp;omega
      · rw [if_neg (by simp; omega), if_neg (by omega), Bf h1 (by omega), step, if_pos (by omega), ih (i + 1) (by omega) (by omega)]
        simp only [Option.bind_some]
        rw [w1,step,if_neg (by omega),a1];rfl
      · rw [if_neg (by simp; omega), if_neg (by omega), Bf h1 (by omega), step, if_pos (by omega), ih (i + 1) (by omega) (by omega)]
        simp only [Option.bind_some]
        rw [w1,step,a1]
        have e2:Eb (2:Int).toNat l (i+1)=match Em 1 (l.drop (i+1)) with | some r=>(match Em 1 r with | some r'=>(l.length:Int) - (r'.length:Int) | none=>-1) | none=>-1:=by
          unfold Eb
          rw [show (2:Int).toNat=1+1 from rfl,Oe]
          cases Em 1 (l.drop (i+1)) <;> rfl
        rw [e2]
        have e1:Eb 1 l (i+1)=match Em 1 (l.drop (i+1)) with | some r=>(l.length:Int) - (r.length:Int) | none=>-1:=rfl
        rw [e1]
        cases hr:Em 1 (l.drop (i+1)) with
        | none=>simp only;rw [if_neg (by omega)]
        | some r =>
          obtain ⟨p,hp⟩:=Jf _ _ hr
          have hlen:(l.drop (i+1)).length=p.length+r.length:=by rw [hp,List.length_append]
          rw [List.length_drop] at hlen
          simp only
          have hd:l.drop (l.length - r.length)=r:=by
            have:=congrArg (List.drop p.length) hp
            rw [List.drop_drop,List.drop_left] at this
            rw [show l.length - r.length=i+1+p.length by omega]
            exact this
          have hb:r.length≤l.length:=by omega
          rw [if_pos (by omega),show (l.length:Int) - (r.length:Int)=((l.length - r.length:Nat):Int) by omega,ih (l.length - r.length) (by omega) (by omega)]
          simp only [Option.bind_some]
          rw [w2,step,if_neg (by omega)]
          unfold Eb
          rw [hd]
      · rw [if_pos (by simp;omega),if_pos (by omega)]
    · rw [if_pos (by simp; omega), Z2c, if_pos rfl]
      unfold Eb
      rw [List.drop_of_length_le (by omega)]
      rfl
end Go.MD.LB
