/- Expressions, names, statements one by one: the document's side. No condition: plain lemmas. -/
import Derived.Test.YtbblmeecfimnkaaGreatDoorBPX
import Derived.Test.YtbblmeecfimnkaaGreatDoorPL
namespace Go.MD.BINZ.R
open Go Go.MD Go.MD.BINZ
def ar (k:Int):Int:=if k=1∨k=2 then 0 else if k=3∨k=4 then 1 else if 5≤k∧k≤15 then 2 else -1
theorem Di (N:Nat) (k:Int):Z2j N k=some (ar k):=by
  unfold Z2j ar
  simp only [Bool.or_eq_true,Bool.and_eq_true,decide_eq_true_eq]
  repeat' split
  all_goals rfl
theorem Kb (k:Int):(ar k=0∧(k=1∨k=2))∨(ar k=1∧(k=3∨k=4))∨(ar k=2∧5≤k∧k≤15)∨(ar k = -1∧(k < 1∨15 < k)):=by
  unfold ar
  repeat' split
  all_goals omega
inductive T
  | leaf (x:api_Node)
  | un (x:api_Node) (a:T)
  | bin (x:api_Node) (a b:T)
def T.flat:T→List api_Node
  | .leaf x=>[x]
  | .un x a=>x :: a.flat
  | .bin x a b=>x :: (a.flat ++ b.flat)
def T.size:T→Nat
  | .leaf _=>1
  | .un _ a=>a.size+1
  | .bin _ a b=>a.size+b.size+1
def T.depth:T→Nat
  | .leaf _=>1
  | .un _ a=>a.depth+1
  | .bin _ a b=>max a.depth b.depth+1
def T.wk:T→Prop
  | .leaf x=>ar x.Op=0
  | .un x a=>ar x.Op=1∧a.wk
  | .bin x a b=>ar x.Op=2∧a.wk∧b.wk
theorem T.flat_len:∀ t:T,t.flat.length=t.size
  | .leaf _=>rfl
  | .un _ a=>by simp [T.flat,T.size,T.flat_len a]
  | .bin _ a b=>by simp [T.flat,T.size,T.flat_len a,T.flat_len b]
theorem T.depth_le:∀ t:T,t.depth≤t.size
  | .leaf _=>Nat.le_refl _
  | .un _ a=>by have:=T.depth_le a;simp [T.depth,T.size];omega
  | .bin _ a b=>by have:=T.depth_le a;have:=T.depth_le b;simp only [T.depth,T.size];omega
theorem T.size_pos:∀ t:T,0 < t.size
  | .leaf _=>Nat.zero_lt_one
  | .un _ _=>Nat.succ_pos _
  | .bin _ _ _=>Nat.succ_pos _
def Gb:Nat→List api_Node→Option (List api_Node)
  | 0,s=>some s
  | _+1,[]=>none
  | w+1,x :: s=>if ar x.Op < 0 then none else Gb (w+(ar x.Op).toNat) s
theorem Hg (s:List api_Node):Gb 0 s=some s:=by cases s <;> rfl
theorem Ed (w:Nat) (x:api_Node) (s:List api_Node):Gb (w+1) (x :: s)=if ar x.Op < 0 then none else Gb (w+(ar x.Op).toNat) s:=rfl
theorem Qd (v:Nat):∀ (s:List api_Node) (w:Nat),Gb (w+v) s=(Gb w s).bind (Gb v)
  | s,0=>by rw [Nat.zero_add,Hg];rfl
  | [],w+1=>by rw [show w+1+v=(w+v)+1 by omega];rfl
  | x :: s, w + 1 => by
    rw [show w+1+v=(w+v)+1 by omega,Ed,Ed]
    split
    · rfl
    · rw [show w + v + (ar x.Op).toNat = w + (ar x.Op).toNat + v by omega]
      exact Qd v s _
theorem Lk:∀ (s:List api_Node) (w:Nat) {r:List api_Node},Gb w s=some r→∃ p,s=p ++ r
  | s,0,r,h=>by rw [Hg] at h;cases h;exact ⟨[],rfl⟩
  | [],w+1,r,h=>by cases h
  | x :: s, w + 1, r, h => by
    rw [Ed] at h
    split at h
    · cases h
    · obtain ⟨p, hp⟩ := Lk s _ h
      exact ⟨x :: p,by rw [hp];rfl⟩
theorem Ij:∀ (t:T) (w:Nat) (s:List api_Node),t.wk→Gb (w+1) (t.flat ++ s)=Gb w s
  | .leaf x, w, s, h => by
    have h':ar x.Op=0:=h
    show Gb (w+1) (x :: s)=_
    rw [Ed,if_neg (by omega),h'];rfl
  | .un x a, w, s, h => by
    obtain ⟨h1,h2⟩:=h
    show Gb (w+1) (x :: (a.flat ++ s))=_
    rw [Ed,if_neg (by omega),h1]
    exact Ij a w s h2
  | .bin x a b, w, s, h => by
    obtain ⟨h1,h2,h3⟩:=h
    show Gb (w+1) (x :: ((a.flat ++ b.flat) ++ s))=_
    rw [Ed,if_neg (by omega),h1,List.append_assoc]
    show Gb ((w+1)+1) _=_
    rw [Ij a (w+1) _ h2,Ij b w s h3]
theorem Lq:∀ (n:Nat) (s:List api_Node) (w:Nat) (r:List api_Node),s.length≤n→Gb (w+1) s=some r→∃ (t:T) (s':List api_Node),t.wk∧s=t.flat ++ s'∧Gb w s'=some r
  | 0, s, w, r, hl, h => by
    have:s=[]:=List.eq_nil_of_length_eq_zero (by omega)
    subst this;cases h
  | n+1,[],w,r,hl,h=>by cases h
  | n + 1, x :: s, w, r, hl, h => by
    rw [Ed] at h
    simp only [List.length_cons] at hl
    rcases Kb x.Op with ⟨h1,_⟩ | ⟨h1,_⟩ | ⟨h1,_⟩ | ⟨h1,_⟩
    · rw [if_neg (by omega), h1] at h
      exact ⟨.leaf x,s,h1,rfl,h⟩
    · rw [if_neg (by omega), h1] at h
      obtain ⟨a,s',k1,k2,k3⟩:=Lq n s w r (by omega) h
      exact ⟨.un x a,s',⟨h1,k1⟩,by rw [k2];rfl,k3⟩
    · rw [if_neg (by omega), h1] at h
      obtain ⟨a,s',k1,k2,k3⟩:=Lq n s (w+1) r (by omega) h
      have hs':s'.length≤n:=by rw [k2] at hl;simp at hl;omega
      obtain ⟨b,s'',j1,j2,j3⟩:=Lq n s' w r hs' k3
      exact ⟨.bin x a b,s'',⟨h1,k1,j1⟩,by rw [k2,j2];simp [T.flat],j3⟩
    · rw [if_pos (by omega)] at h;cases h
def Ix (w:Nat) (l:List api_Node) (i:Nat):Int:=match Gb w (l.drop i) with | some r=>(l.length:Int) - (r.length:Int) | none=>-1
theorem N8 {l p q:List api_Node} {t:T} (hl:l=p ++ (t.flat ++ q)) (ht:t.wk):Ix 1 l p.length=((p.length+t.size:Nat):Int):=by
  unfold Ix
  rw [hl,List.drop_left,Ij t 0 q ht,Hg]
  simp only [List.length_append,T.flat_len]
  omega
theorem Tt {l:List api_Node} (hl:l.length≤1000):∀ (N i:Nat),i≤l.length→(l.length - i)+5≤N→Z2f N l (i:Int)=some (Ix 1 l i):=by
  intro N
  induction N with
  | zero=>intro i hi hN;omega
  | succ N ih =>
    intro i hi hN
    rw [Z2f]
    by_cases h1:i < l.length
    · rw [if_neg (by simp; omega), Aw rfl h1]
      simp only [Option.bind_some,Di]
      have he:Ix 1 l i=if ar l[i].Op < 0 then -1 else Ix (ar l[i].Op).toNat l (i+1):=by
        unfold Ix
        rw [List.drop_eq_getElem_cons h1,Ed,Nat.zero_add]
        by_cases hq:ar l[i].Op < 0
        · rw [if_pos hq,if_pos hq]
        · rw [if_neg hq,if_neg hq]
      rw [he,Z2g]
      obtain ⟨M,rfl⟩:∃ M,N=M+4:=⟨N - 4,by omega⟩
      have step:∀ (n:Nat) (v k:Int),Z2i (Z2f (M+4)) (M+4) Z2h l (i:Int) (n+1) v k=if k < ar l[i].Op∧0≤v then (Z2f (M+4) l v).bind fun r=>Z2i (Z2f (M+4)) (M+4) Z2h l (i:Int) n r (IntKind.i64.wrap (k+1)) else some v:=by
        intro n v k
        rw [Z2i,Aw rfl h1]
        simp only [Option.bind_some,Di,Bool.and_eq_true,decide_eq_true_eq]
        rfl
      have w1:IntKind.i64.wrap (0+1)=1:=by decide
      have w2:IntKind.i64.wrap (1+1)=2:=by decide
      rcases Kb l[i].Op with ⟨a1,_⟩ | ⟨a1,_⟩ | ⟨a1,_⟩ | ⟨a1,_⟩
      · rw [if_neg (by simp; omega), if_neg (by omega), a1, Bd h1 (by omega), step, if_neg (by omega)]
        unfold Ix
        rw [show (0:Int).toNat=0 from rfl,Hg]
        simp;omega
      · rw [if_neg (by simp; omega), if_neg (by omega), Bd h1 (by omega), step, if_pos (by omega), ih (i + 1) (by omega) (by omega)]
        simp only [Option.bind_some]
        rw [w1,step,if_neg (by omega),a1];rfl
      · rw [if_neg (by simp; omega), if_neg (by omega), Bd h1 (by omega), step, if_pos (by omega), ih (i + 1) (by omega) (by omega)]
        simp only [Option.bind_some]
        rw [w1,step,a1]
        have e2:Ix (2:Int).toNat l (i+1)=match Gb 1 (l.drop (i+1)) with | some r=>(match Gb 1 r with | some r'=>(l.length:Int) - (r'.length:Int) | none=>-1) | none=>-1:=by
          unfold Ix
          rw [show (2:Int).toNat=1+1 from rfl,Qd]
          cases Gb 1 (l.drop (i+1)) <;> rfl
        rw [e2]
        have e1:Ix 1 l (i+1)=match Gb 1 (l.drop (i+1)) with | some r=>(l.length:Int) - (r.length:Int) | none=>-1:=rfl
        rw [e1]
        cases hr:Gb 1 (l.drop (i+1)) with
        | none=>simp only;rw [if_neg (by omega)]
        | some r =>
          obtain ⟨p,hp⟩:=Lk _ _ hr
          have hlen:(l.drop (i+1)).length=p.length+r.length:=by rw [hp,List.length_append]
          rw [List.length_drop] at hlen
          simp only
          have hd:l.drop (l.length - r.length)=r:=by
            have:=congrArg (List.drop p.length) hp
            rw [List.drop_drop,List.drop_left] at this
            rw [show l.length - r.length=i+1+p.length by omega]
            exact this
          have hb:r.length≤l.length:=by omega
          rw [if_pos (by omega),show (l.length:Int) - (r.length:Int)=((l.length - r.length:Nat):Int) by omega,ih (l.length - r.length) (by omega) (by omega)]
          simp only [Option.bind_some]
          rw [w2,step,if_neg (by omega)]
          unfold Ix
          rw [hd]
      · rw [if_pos (by simp;omega),if_pos (by omega)]
    · rw [if_pos (by simp; omega), Z2g, if_pos rfl]
      unfold Ix
      rw [List.drop_of_length_le (by omega)]
      rfl
section
variable {l:List api_Node}
theorem JaZ {p q:List api_Node} {x:api_Node} {a:T} (hl:l=p ++ ((T.un x a).flat ++ q)):l=(p ++ [x]) ++ (a.flat ++ q):=by rw [hl];simp [T.flat]
theorem JaB {p q:List api_Node} {x:api_Node} {a b:T} (hl:l=p ++ ((T.bin x a b).flat ++ q)):l=(p ++ [x]) ++ (a.flat ++ (b.flat ++ q)):=by rw [hl];simp [T.flat]
theorem JaJ {p q:List api_Node} {x:api_Node} {a b:T} (hl:l=p ++ ((T.bin x a b).flat ++ q)):l=(p ++ [x] ++ a.flat) ++ (b.flat ++ q):=by rw [hl];simp [T.flat]
def T.head:T→api_Node
  | .leaf x=>x
  | .un x _=>x
  | .bin x _ _=>x
theorem Iu {p q:List api_Node} {t:T} (hl:l=p ++ (t.flat ++ q)):getI l (p.length:Int)=some t.head:=by
  rw [Cl,hl]
  cases t <;> simp [T.flat,T.head]
theorem It {N:Nat} (hl1:l.length≤1000) (hN:l.length+5≤N) {p q:List api_Node} {t:T} (hl:l=p ++ (t.flat ++ q)) (ht:t.wk):Z2f N l (p.length:Int)=some ((p.length+t.size:Nat):Int):=by
  rw [Tt hl1 N p.length (by rw [hl];simp) (by omega),N8 hl ht]
theorem w01:IntKind.i64.wrap (0+1)=1:=by decide
theorem w12:IntKind.i64.wrap (1+1)=2:=by decide
theorem Jt (hl1:l.length≤1000):∀ (t:T) (N:Nat) (p q:List api_Node),l=p ++ (t.flat ++ q)→t.wk→l.length+6+t.depth≤N→Z2p N l (p.length:Int)=some (t.depth:Int)
  | .leaf x, N, p, q, hl, ht, hN => by
    have h1:getI l (p.length:Int)=some x:=Iu hl
    obtain ⟨N,rfl⟩:∃ M,N=M+2:=⟨N - 2,by omega⟩
    have h0:ar x.Op=0:=ht
    rw [Z2p,Z2r,h1]
    simp only [Option.bind_some,Di]
    rw [if_neg (by omega),Z2q]
    rfl
  | .un x a, N, p, q, hl, ht, hN => by
    have h1:getI l (p.length:Int)=some x:=Iu hl
    have hd:=T.depth_le (T.un x a)
    have hp:p.length+(T.un x a).size≤l.length:=by rw [hl];simp [T.flat_len] <;> omega
    simp only [T.depth] at hN hd ⊢
    obtain ⟨N,rfl⟩:∃ M,N=M+3:=⟨N - 3,by omega⟩
    have ih:=Jt hl1 a (N+2) _ _ (JaZ hl) ht.2 (by omega)
    have e:=It hl1 (by omega:l.length+5≤N+2) (JaZ hl) ht.2
    rw [List.length_append,List.length_singleton] at ih e
    have h0:=ht.1
    rw [Z2p,Z2r,h1]
    simp only [Option.bind_some,Di]
    rw [if_pos (by omega),Bd (j:=p.length) (n:=l.length) (by omega) (by omega),ih]
    simp only [Option.bind_some]
    rw [e]
    simp only [Option.bind_some]
    rw [w01,Z2r,h1]
    simp only [Option.bind_some,Di]
    rw [if_neg (by omega),Z2q,w64 (by omega) (by omega)]
    first | rfl | (congr 1;omega)
  | .bin x a b, N, p, q, hl, ht, hN => by
    have h1:getI l (p.length:Int)=some x:=Iu hl
    have hd:=T.depth_le (T.bin x a b)
    have hp:p.length+(T.bin x a b).size≤l.length:=by rw [hl];simp [T.flat_len] <;> omega
    simp only [T.depth] at hN hd ⊢
    obtain ⟨N,rfl⟩:∃ M,N=M+4:=⟨N - 4,by omega⟩
    have ih:=Jt hl1 a (N+3) _ _ (JaB hl) ht.2.1 (by omega)
    have ih2:=Jt hl1 b (N+3) _ _ (JaJ hl) ht.2.2 (by omega)
    have e:=It hl1 (by omega:l.length+5≤N+3) (JaB hl) ht.2.1
    have e2:=It hl1 (by omega:l.length+5≤N+3) (JaJ hl) ht.2.2
    rw [List.length_append,List.length_singleton] at ih e
    rw [List.length_append,List.length_append,List.length_singleton,T.flat_len] at ih2 e2
    have h0:=ht.1
    rw [Z2p,Z2r,h1]
    simp only [Option.bind_some,Di]
    rw [if_pos (by omega),Bd (j:=p.length) (n:=l.length) (by omega) (by omega),ih]
    simp only [Option.bind_some]
    rw [e]
    simp only [Option.bind_some]
    rw [w01,Z2r,h1]
    simp only [Option.bind_some,Di]
    rw [if_pos (by omega),ih2]
    simp only [Option.bind_some]
    rw [e2]
    simp only [Option.bind_some]
    rw [w12,Z2r,h1]
    simp only [Option.bind_some,Di]
    rw [if_neg (by omega),Z2q,w64 (by omega) (by omega)]
    first | rfl | (congr 1;omega)
def Cd:List Str→Str→Nat→Int
  | [],_,_=>-1
  | x :: r,s,k=>if x=s then (k:Int) else Cd r s (k+1)
theorem C9 {N:Nat} {names:List Str} {s:Str} (hl:names.length≤1000) (hN:names.length < N):Z4l N names s=some (Cd names s 0):=by
  have key:∀ (d j n:Nat),j+d=names.length→d < n→Z4n N Z4m names s n (j:Int)=some (Cd (names.drop j) s j):=by
    intro d
    induction d with
    | zero =>
      intro j n hj hn
      obtain ⟨n,rfl⟩:∃ m,n=m+1:=⟨n - 1,by omega⟩
      rw [Z4n,if_neg (by omega),List.drop_of_length_le (by omega)];rfl
    | succ d ih =>
      intro j n hj hn
      obtain ⟨n,rfl⟩:∃ m,n=m+1:=⟨n - 1,by omega⟩
      have h1:j < names.length:=by omega
      rw [Z4n,if_pos (by omega),Aw rfl h1]
      simp only [Option.bind_some]
      rw [List.drop_eq_getElem_cons h1,Cd]
      by_cases e:names[j]=s
      · rw [if_pos e,if_pos e]
      · rw [if_neg e, if_neg e, Bd h1 (by omega)]
        exact ih (j+1) n (by omega) (by omega)
  unfold Z4l
  exact key names.length 0 N (by omega) hN
theorem Ci:∀ (names:List Str) (s:Str) (k:Nat),(0≤Cd names s k↔s∈names)∧(s∈names→(k:Int)≤Cd names s k∧Cd names s k < (k:Int)+(names.length:Int))
  | [],s,k=>⟨⟨fun h=>by simp [Cd] at h,fun h=>by cases h⟩,fun h=>by cases h⟩
  | x :: r, s, k => by
    obtain ⟨h1,h2⟩:=Ci r s (k+1)
    unfold Cd
    by_cases e:x=s
    · rw [if_pos e]
      exact ⟨⟨fun _=>by rw [e];exact .head _,fun _=>by omega⟩,fun _=>by simp;omega⟩
    · rw [if_neg e]
      have hm:s∈x :: r↔s∈r:=⟨fun h=>by
        rcases List.mem_cons.1 h with h | h
        · exact absurd h.symm e
        · exact h,fun h=>.tail _ h⟩
      rw [hm]
      refine ⟨h1,fun h=>?_⟩
      have:=h2 h
      simp;omega
end
def Sw (c:Int):Bool:=(decide (97≤c) && decide (c≤122)) || decide (c=95)
def JbZ (c:Int):Bool:=decide (48≤c) && decide (c≤57)
def keptL:List Str:=[[108,105,110,101],[118,111,108],[108,111,99,107],[116,104,114,101,97,100],[114,101,103],[108,111,97,100],[115,116,111,114,101],[99,97,115],[102,108,117,115,104],[111,112,116],[115,102,101,110,99,101],[109,102,101,110,99,101],[116,97,107,101],[103,105,118,101],[105,102],[101,108,115,101],[108,111,111,112],[98,114,101,97,107],[99,104,101,99,107],[114,101,99,111,118,101,114],[97,108,119,97,121,115]]
theorem Ld {N:Nat} (hN:5000≤N) (s:Str) (n:Nat) (j:Int):Z27 N Z26 s (n+1) j=if j < (keptL.length:Int) then (getI keptL j).bind fun x6=>if x6=s then some true else Z27 N Z26 s n (IntKind.i64.wrap (j+1)) else some false:=rfl
theorem Uz {N:Nat} (hN:5000≤N) (s:Str):Z25 N s=some (decide (s∈keptL)):=by
  have key:∀ (d j n:Nat),j+d=keptL.length→d < n→Z27 N Z26 s n (j:Int)=some (decide (s∈keptL.drop j)):=by
    intro d
    induction d with
    | zero =>
      intro j n hj hn
      obtain ⟨n,rfl⟩:∃ m,n=m+1:=⟨n - 1,by omega⟩
      rw [Ld hN,if_neg (by omega),List.drop_of_length_le (by omega)]
      rfl
    | succ d ih =>
      intro j n hj hn
      obtain ⟨n,rfl⟩:∃ m,n=m+1:=⟨n - 1,by omega⟩
      have h1:j < keptL.length:=by omega
      have hk:keptL.length=21:=rfl
      rw [Ld hN,if_pos (by omega),Aw rfl h1]
      simp only [Option.bind_some]
      rw [List.drop_eq_getElem_cons h1]
      by_cases e:keptL[j]=s
      · rw [if_pos e];simp [e]
      · rw [if_neg e, Bd h1 (by omega), ih (j + 1) n (by omega) (by omega)]
        have e' : ¬ s=keptL[j]:=fun h=>e h.symm
        simp only [List.mem_cons,e',false_or]
  exact key keptL.length 0 N (by omega) (by have:keptL.length=21:=rfl;omega)
def nmS (b:UInt8):Bool:=Sw (b.toNat:Int) || JbZ (b.toNat:Int)
def Dj (s:Str):Bool:=match s with | []=>false | b :: r=>decide ((b :: r).length≤16) && Sw (b.toNat:Int) && !decide ((b :: r)∈keptL) && (b :: r).all nmS
theorem Qz {N:Nat} (hN:5000≤N) {s:Str} (hl:s.length≤1000):∀ (d j n:Nat),j+d=s.length→d < n→Z2c N Z2a s n (j:Int)=some ((s.drop j).all nmS):=by
  intro d
  induction d with
  | zero =>
    intro j n hj hn
    obtain ⟨n,rfl⟩:∃ m,n=m+1:=⟨n - 1,by omega⟩
    rw [Z2c,if_neg (by omega),List.drop_of_length_le (by omega)];rfl
  | succ d ih =>
    intro j n hj hn
    obtain ⟨n,rfl⟩:∃ m,n=m+1:=⟨n - 1,by omega⟩
    have h1:j < s.length:=by omega
    have go:∀ b,Z2b (Z2c N Z2a s n) (j:Int) b=some (!b && (s.drop (j+1)).all nmS):=by
      intro b
      rw [Z2b]
      cases b with
      | true=>rfl
      | false=>rw [if_neg (by decide),Bd h1 (by omega),ih (j+1) n (by omega) (by omega)];rfl
    rw [Z2c,if_pos (by omega)]
    unfold Hw
    rw [Aw rfl h1]
    simp only [Option.map_some,Option.bind_some,Z2e,Z2d,go]
    rw [List.drop_eq_getElem_cons h1,List.all_cons]
    show (if Sw (s[j].toNat:Int)=true then _ else some (!(!JbZ (s[j].toNat:Int)) && _))=some ((Sw (s[j].toNat:Int) || JbZ (s[j].toNat:Int)) && _)
    cases Sw (s[j].toNat:Int) <;> simp
theorem Fu {N:Nat} (hN:5000≤N) (s:Str):Z28 N s=some (Dj s):=by
  unfold Z28
  cases s with
  | nil=>rfl
  | cons b r =>
    by_cases h:16 < (b :: r).length
    · rw [if_pos (by simp at h ⊢; omega), Z29, if_pos rfl]
      have : ¬ ((b :: r).length≤16):=by omega
      simp only [Dj,decide_eq_false this,Bool.false_and]
    · rw [if_neg (by simp at h ⊢; omega)]
      have hb:Hw (b :: r) 0=some (b.toNat:Int):=rfl
      rw [hb]
      simp only [Option.bind_some,Z2e]
      show (if Sw (b.toNat:Int)=true then _ else _)=_
      have hle:(b :: r).length≤16:=by omega
      simp only [Dj,decide_eq_true hle,Bool.true_and]
      cases hlt:Sw (b.toNat:Int) with
      | false=>rfl
      | true =>
        rw [if_pos rfl,Uz hN]
        simp only [Option.bind_some,Bool.true_and]
        rw [Z29]
        by_cases hk:(b :: r)∈keptL
        · rw [decide_eq_true hk];rfl
        · rw [decide_eq_false hk, if_neg (by decide), show (0 : Int) = ((0 : Nat) : Int) from rfl, Qz hN (by omega) (b :: r).length 0 N (by omega) (by omega)]
          rfl
def Ku (x:api_Node):Bool:=decide (0≤x.At∧x.At≤4000) && (if x.Op=1 then decide (0≤x.N∧x.N≤4294967296∧x.Name=[]) else if x.Op=2 then decide (x.N=0) && Dj x.Name else decide (x.N=0∧x.Name=[]))
structure RightE (l:List api_Node) (t:T):Prop where
  len:l.length≤40
  may:∀ x∈l,Ku x=true
  flat:l=t.flat
  wk:t.wk
  depth:t.depth≤12
theorem Hc {l:List api_Node} {t:T} (h:l=t.flat):l=[] ++ (t.flat ++ []):=by rw [h];simp
theorem Jc8 {l:List api_Node} (h0:0 < l.length) (h:Ix 1 l 0=(l.length:Int)):∃ t:T,t.wk∧l=t.flat:=by
  unfold Ix at h
  rw [List.drop_zero] at h
  cases he:Gb 1 l with
  | none=>rw [he] at h;simp only at h;omega
  | some r =>
    rw [he] at h
    simp only at h
    have hr:r=[]:=List.eq_nil_of_length_eq_zero (by omega)
    subst hr
    obtain ⟨t,s',h1,h2,h3⟩:=Lq l.length l 0 [] (Nat.le_refl _) he
    rw [Hg] at h3
    cases h3
    exact ⟨t,h1,by rw [h2];simp⟩
theorem Ux {l:List api_Node} {t:T} (h1:t.wk) (h2:l=t.flat):Ix 1 l 0=(l.length:Int):=by
  have:=N8 (Hc h2) h1
  simp only [List.length_nil,Nat.zero_add] at this
  rw [this,h2,T.flat_len]
theorem Ou {N:Nat} (hN:5000≤N) {l:List api_Node} (hl:l.length≤60):∀ (d j n:Nat),j+d=l.length→d < n→Z2o N (Z2m N l) l n (j:Int)=if (l.drop j).all Ku=true then Z2m N l else some false:=by
  intro d
  induction d with
  | zero =>
    intro j n hj hn
    obtain ⟨n,rfl⟩:∃ m,n=m+1:=⟨n - 1,by omega⟩
    rw [Z2o,if_neg (by omega),List.drop_of_length_le (by omega)];rfl
  | succ d ih =>
    intro j n hj hn
    obtain ⟨n,rfl⟩:∃ m,n=m+1:=⟨n - 1,by omega⟩
    have h1:j < l.length:=by omega
    have go:∀ b,b = !Ku l[j]→Z2n (Z2o N (Z2m N l) l n) (j:Int) b=if (l.drop j).all Ku=true then Z2m N l else some false:=by
      intro b hb
      rw [Z2n,List.drop_eq_getElem_cons h1,List.all_cons]
      cases hm:Ku l[j] with
      | true=>rw [hb,hm,if_neg (by decide),Bd h1 (by omega),ih (j+1) n (by omega) (by omega),Bool.true_and]
      | false=>rw [hb,hm,if_pos (by decide),Bool.false_and,if_neg (by decide)]
    rw [Z2o,if_pos (by omega),Aw rfl h1]
    simp only [Option.bind_some]
    generalize l[j]=x at go ⊢
    split
    · rename_i hc
      refine go true ?_
      unfold Ku
      by_cases ha:0≤x.At∧x.At≤4000
      · rw [decide_eq_true ha]
        simp only [Bool.or_eq_true,Bool.and_eq_true,decide_eq_true_eq] at hc
        by_cases e1:x.Op=1
        · rw [if_pos e1]
          have : ¬ (0≤x.N∧x.N≤4294967296∧x.Name=[]):=by
            rintro ⟨q1,q2,q3⟩
            rcases hc with ((((h | h) | h) | h) | h) | h
            · omega
            · omega
            · exact h.1 e1
            · exact h.2 q3
            · omega
            · omega
          rw [decide_eq_false this];rfl
        · rw [if_neg e1]
          by_cases e2:x.Op=2
          · rw [if_pos e2]
            have : ¬ x.N=0:=by
              intro q
              rcases hc with ((((h | h) | h) | h) | h) | h
              · omega
              · omega
              · exact h.2 q
              · exact h.1 e2
              · omega
              · omega
            rw [decide_eq_false this];rfl
          · rw [if_neg e2]
            have : ¬ (x.N=0∧x.Name=[]):=by
              rintro ⟨q1,q2⟩
              rcases hc with ((((h | h) | h) | h) | h) | h
              · omega
              · omega
              · exact h.2 q1
              · exact h.2 q2
              · omega
              · omega
            rw [decide_eq_false this];rfl
      · rw [decide_eq_false ha];rfl
    · rename_i hc
      simp only [Bool.or_eq_true,Bool.and_eq_true,decide_eq_true_eq,not_or,not_and,Classical.not_not,Int.not_lt] at hc
      obtain ⟨⟨⟨⟨⟨c1,c2⟩,c3⟩,c4⟩,c5⟩,c6⟩:=hc
      by_cases e2:x.Op=2
      · rw [if_pos e2, Fu hN]
        simp only [Option.bind_some]
        refine go _ ?_
        have hn:x.N=0:=c3 (by omega)
        unfold Ku
        rw [decide_eq_true (⟨c1,c2⟩:0≤x.At∧x.At≤4000),if_neg (by omega),if_pos e2,decide_eq_true hn]
        simp
      · rw [if_neg e2]
        refine go _ ?_
        have hnm:x.Name=[]:=c4 e2
        unfold Ku
        rw [decide_eq_true (⟨c1,c2⟩:0≤x.At∧x.At≤4000)]
        by_cases e1:x.Op=1
        · rw [if_pos e1,decide_eq_true ⟨c5,c6,hnm⟩];rfl
        · rw [if_neg e1,if_neg e2,decide_eq_true ⟨c3 e1,hnm⟩];rfl
theorem Jz {N:Nat} (hN:5000≤N) {l:List api_Node} (hl:l.length≤60):∃ b,Z2k N l=some b∧(b=true↔∃ t,RightE l t):=by
  unfold Z2k
  by_cases h:40 < l.length
  · rw [if_pos (by omega), Z2l, if_pos rfl]
    exact ⟨false,rfl,fun h=>(by cases h),fun ⟨t,ht⟩=>by have:=ht.len;omega⟩
  · rw [if_neg (by omega), show (0 : Int) = ((0 : Nat) : Int) from rfl, Tt (by omega) N 0 (Nat.zero_le _) (by omega)]
    simp only [Option.bind_some]
    by_cases he:Ix 1 l 0=(l.length:Int)
    · have h0:0 < l.length:=by
        rcases Nat.eq_zero_or_pos l.length with h | h
        · exfalso
          have:l=[]:=List.eq_nil_of_length_eq_zero h
          subst this
          exact absurd he (by decide)
        · exact h
      obtain ⟨t,t1,t2⟩:=Jc8 h0 he
      have ts:=T.depth_le t
      have tl:=congrArg List.length t2
      rw [T.flat_len] at tl
      have hd:=Jt (l:=l) (by omega) t N [] [] (Hc t2) t1 (by omega)
      rw [decide_eq_false (by simpa using he),Z2l,if_neg (by decide),show (0:Int)=((0:Nat):Int) from rfl,Ou hN hl l.length 0 N (by omega) (by omega),List.drop_zero]
      cases hm:l.all Ku with
      | false =>
        refine ⟨false,rfl,fun h=>(by cases h),fun ⟨t,ht⟩=>?_⟩
        rw [List.all_eq_true.2 ht.may] at hm;cases hm
      | true =>
        rw [if_pos rfl,Z2m,show (0:Int)=(([]:List api_Node).length:Int) from rfl,hd]
        refine ⟨_,rfl,?_⟩
        rw [decide_eq_true_iff]
        constructor
        · intro h12
          exact ⟨t,by omega,fun x hx=>List.all_eq_true.1 hm x hx,t2,t1,by omega⟩
        · rintro ⟨t', ht'⟩
          have hd':=Jt (l:=l) (by omega) t' N [] [] (Hc ht'.flat) ht'.wk (by have:=ht'.depth;omega)
          rw [hd] at hd'
          have:=Option.some.inj hd'
          have:=ht'.depth
          omega
    · rw [decide_eq_true (by simpa using he), Z2l, if_pos rfl]
      exact ⟨false,rfl,fun h=>(by cases h),fun ⟨t,ht⟩=>absurd (Ux ht.wk ht.flat) he⟩
open Classical in
theorem Sk {p:Prop} {b:Bool} (h:b=true↔p):b=decide p:=by
  cases b with
  | true=>exact (decide_eq_true (h.1 rfl)).symm
  | false=>exact (decide_eq_false (fun q=>by cases h.2 q)).symm
def tabS:List Str:=[[],[114,101],[114,110],[110,101],[114,110,101,102],[110],[110],[],[],[110],[110],[101,98],[107,98],[],[101]]
def hS (k:Int):Str:=if 1≤k∧k≤14 then (tabS[k.toNat]?).getD [] else []
theorem JbK (k:Int):hS k∈tabS:=by
  unfold hS
  split
  · rename_i h
    have hk:k.toNat < tabS.length:=by show k.toNat < 15;omega
    rw [List.getElem?_eq_getElem hk]
    exact List.getElem_mem hk
  · exact .head _
theorem Xo {k:Int} (h:1≤k∧k≤14):getI tabS k=some (hS k):=by
  have hk:k.toNat < tabS.length:=by show k.toNat < 15;omega
  unfold hS
  rw [if_pos h,Aw (j:=k.toNat) (by omega) hk,List.getElem?_eq_getElem hk]
  rfl
theorem Ja4 (N:Nat) (k:Int):Z2s N k=some (hS k):=by
  unfold Z2s
  by_cases h:k < 1∨14 < k
  · rw [if_pos (by simpa using h)];unfold hS;rw [if_neg (by omega)]
  · rw [if_neg (by simpa using h)]
    have:=Xo (k:=k) (by omega)
    unfold tabS at this
    rw [this];rfl
theorem Ib {k:Int} {c:Nat} (hc:c∈[114,110,101,102,107]):Z2w 1000001 (hS k) (c:Int)=some (decide (UInt8.ofNat c∈hS k)):=by
  have h:∀ s∈tabS,∀ c∈([114,110,101,102,107]:List Nat),Z2w 1000001 s (c:Int)=some (decide (UInt8.ofNat c∈s)):=by decide +kernel
  exact h _ (JbK k) c hc
def Gl (is:Bool) (s:Str):Bool:=if is=true then Dj s else decide (s=[])
open Classical in
noncomputable def Fc (l:List api_Node):Bool:=decide (∃ t,RightE l t)
noncomputable def Fy (is:Bool) (l:List api_Node):Bool:=if is=true then Fc l else decide (l=[])
theorem Ig {N:Nat} (hN:5000≤N) {l:List api_Node} (hl:l.length≤60):Z2k N l=some (Fc l):=by
  obtain ⟨b,h1,h2⟩:=Jz hN hl
  rw [h1]
  congr 1
  exact Sk h2
theorem Sq:Fc []=false:=by
  refine (Sk (b:=false) (p:=∃ t,RightE [] t) ⟨fun h=>(by cases h),fun ⟨t,ht⟩=>?_⟩).symm
  have e:=congrArg List.length ht.flat
  rw [T.flat_len] at e
  have:=T.size_pos t
  simp at e
  omega
noncomputable def Dr (x:api_Stmt):Bool:=
  decide (1≤x.Kind∧x.Kind≤14∧0≤x.At∧x.At≤4000) && (if 107∈hS x.Kind then decide (1≤x.N∧x.N≤8) else decide (x.N=0)) &&
  (Gl (decide (114∈hS x.Kind)) x.Reg && (Gl (decide (110∈hS x.Kind)) x.Name && (Fy (decide (101∈hS x.Kind)) x.E && Fy (decide (102∈hS x.Kind)) x.F)))
def Ec (x:api_Stmt):Prop:=x.E.length≤60∧x.F.length≤60
theorem Ny {is:Bool} {s:Str}:((is != Dj s) || ((!is) && (decide (s≠[])))) = !Gl is s:=by
  unfold Gl
  cases is with
  | true=>simp
  | false =>
    by_cases hs:s=[]
    · subst hs;rfl
    · simp [hs]
theorem N0 {is:Bool} {l:List api_Node}:((is != Fc l) || ((!is) && (decide (0 < (l.length:Int))))) = !Fy is l:=by
  unfold Fy
  cases is with
  | true=>simp
  | false =>
    by_cases hs:l=[]
    · subst hs;rw [Sq];rfl
    · have h1 : 0 < l.length := List.length_pos_iff.2 hs
      simp [hs,h1]
theorem Mt (x:api_Stmt) (v:Bool):Z36 1000001 x (hS x.Kind) v=some ((!v) && (if 107∈hS x.Kind then decide (1≤x.N∧x.N≤8) else decide (x.N=0))):=by
  unfold Z36
  cases v with
  | true=>rfl
  | false =>
    rw [if_neg (by decide),show (107:Int)=((107:Nat):Int) from rfl,Ib (by decide),show UInt8.ofNat 107=107 from rfl]
    simp only [Option.bind_some]
    by_cases h:(107:UInt8)∈hS x.Kind
    · rw [if_pos (by simpa using h),if_pos h,Bool.decide_and (1≤x.N)];rfl
    · rw [if_neg (by simpa using h),if_neg h];rfl
theorem Mc (x:api_Stmt) (hx:Ec x) (r t v:Bool):Z35 1000001 x (hS x.Kind) r t v=some ((!v) && Fy r x.E && Fy t x.F && (if 107∈hS x.Kind then decide (1≤x.N∧x.N≤8) else decide (x.N=0))):=by
  unfold Z35
  cases v with
  | true=>rfl
  | false =>
    rw [if_neg (by decide),Ig (N:=1000001) (by decide) hx.1]
    simp only [Option.bind_some,N0]
    cases Fy r x.E with
    | false=>rw [if_pos (by decide),Mt];rfl
    | true =>
      rw [if_neg (by decide),Ig (N:=1000001) (by decide) hx.2]
      simp only [Option.bind_some,N0,Mt]
      simp
theorem Ja2 (x:api_Stmt) (hx:Ec x):Z34 1000001 x=some (Dr x):=by
  unfold Z34 Dr
  by_cases hc:1≤x.Kind∧x.Kind≤14∧0≤x.At∧x.At≤4000
  · rw [if_neg (by simp only [Bool.or_eq_true, decide_eq_true_eq]; omega), decide_eq_true hc, Ja4]
    simp only [Option.bind_some]
    rw [show (114:Int)=((114:Nat):Int) from rfl,show (110:Int)=((110:Nat):Int) from rfl,show (101:Int)=((101:Nat):Int) from rfl,show (102:Int)=((102:Nat):Int) from rfl,
      Ib (by decide),Ib (by decide),Ib (by decide),Ib (by decide),Fu (N:=1000001) (by decide)]
    simp only [Option.bind_some,Ny]
    have e1:UInt8.ofNat 114=114:=rfl
    have e2:UInt8.ofNat 110=110:=rfl
    have e3:UInt8.ofNat 101=101:=rfl
    have e4:UInt8.ofNat 102=102:=rfl
    rw [e1,e2,e3,e4]
    cases Gl (decide (114∈hS x.Kind)) x.Reg with
    | false=>rw [if_pos (by decide),Mc x hx];simp
    | true =>
      rw [if_neg (by decide),Fu (N:=1000001) (by decide)]
      simp only [Option.bind_some,Ny,Mc x hx]
      congr 1
      cases Gl (decide (110∈hS x.Kind)) x.Name <;> cases Fy (decide (101∈hS x.Kind)) x.E <;> cases Fy (decide (102∈hS x.Kind)) x.F <;> simp
  · rw [if_pos (by simp only [Bool.or_eq_true,decide_eq_true_eq];omega),decide_eq_false hc];rfl
theorem Te {l:List api_Stmt} (hl:l.length≤1000) (hs:∀ x∈l,Ec x) (k:Option Bool):∀ (d j n:Nat),j+d=l.length→d < n→Z2v 1000001 k l n (j:Int)=if (l.drop j).all Dr=true then k else some false:=by
  intro d
  induction d with
  | zero =>
    intro j n hj hn
    obtain ⟨n,rfl⟩:∃ m,n=m+1:=⟨n - 1,by omega⟩
    rw [Z2v,if_neg (by omega),List.drop_of_length_le (by omega)]
    rfl
  | succ d ih =>
    intro j n hj hn
    obtain ⟨n,rfl⟩:∃ m,n=m+1:=⟨n - 1,by omega⟩
    have h1:j < l.length:=by omega
    rw [Z2v,if_pos (by omega),Aw rfl h1]
    simp only [Option.bind_some,Ja2 _ (hs _ (List.getElem_mem h1))]
    rw [List.drop_eq_getElem_cons h1,List.all_cons]
    cases hk:Dr l[j] with
    | false=>simp
    | true =>
      rw [if_pos rfl,Bd h1 (by omega),ih (j+1) n (by omega) (by omega)]
      simp
end Go.MD.BINZ.R
namespace Go.MD.BINZ.R
open Go Go.MD Go.MD.BINZ
inductive B
  | nil
  | cons (x:api_Stmt) (a b r:B)
def B.flat:B→List api_Stmt
  | .nil=>[]
  | .cons x a b r=>x :: (a.flat ++ (b.flat ++ r.flat))
def B.size:B→Nat
  | .nil=>0
  | .cons _ a b r=>1+a.size+b.size+r.size
def Mp (x:api_Stmt):Prop:=x.Kind=11∨x.Kind=12
instance (x:api_Stmt):Decidable (Mp x):=inferInstanceAs (Decidable (_∨_))
def B.depth:B→Nat
  | .nil=>0
  | .cons x a b r=>if Mp x then max (max (a.depth+1) (b.depth+1)) r.depth else r.depth
def inL (x:api_Stmt) (p:Nat):Nat:=if x.Kind=12 then p+1 else p
def B.good:Nat→B→Prop
  | _,.nil=>True
  | p,.cons x a b r=>x.Body=(a.size:Int)∧x.Else=(b.size:Int)∧(¬ Mp x→a=.nil)∧(x.Kind≠11→b=.nil)∧¬ (x.Kind=13∧p=0)∧a.good (inL x p)∧b.good (inL x p)∧r.good p
theorem B.flat_len:∀ b:B,b.flat.length=b.size
  | .nil=>rfl
  | .cons x a b r=>by simp only [B.flat,B.size,List.length_cons,List.length_append,a.flat_len,b.flat_len,r.flat_len];omega
theorem B.depth_le:∀ b:B,b.depth≤b.size
  | .nil=>Nat.le_refl _
  | .cons x a b r => by
    have:=a.depth_le;have:=b.depth_le;have:=r.depth_le
    simp only [B.depth,B.size]
    split <;> omega
theorem B.split {l:List api_Stmt} {i:Nat} (hi:i < l.length) {b:B} {p:Nat} (hg:b.good p) (h:l.drop i=b.flat) :
    ∃ a c r,b=.cons l[i] a c r∧(l.drop (i+1)).take a.size=a.flat∧(l.drop (i+1+a.size)).take c.size=c.flat∧l.drop (i+1+a.size+c.size)=r.flat∧i+1+a.size+c.size≤l.length:=by
  cases b with
  | nil=>rw [List.drop_eq_getElem_cons hi] at h;cases h
  | cons x a c r =>
    rw [List.drop_eq_getElem_cons hi,B.flat] at h
    injection h with h1 h2
    have e1:=a.flat_len
    have e2:=c.flat_len
    refine ⟨a,c,r,by rw [h1],?_,?_,?_,?_⟩
    · rw [h2,← e1,List.take_left]
    · rw [← List.drop_drop,h2,← e1,List.drop_left,← e2,List.take_left]
    · rw [← List.drop_drop,← List.drop_drop,h2,← e1,List.drop_left,← e2,List.drop_left]
    · have := congrArg List.length h2
      simp only [List.length_drop,List.length_append,e1,e2] at this
      omega
theorem Jbf {l:List api_Stmt} {i m n:Nat} (hi:i < l.length) (h:i+1+m+n≤l.length):l.drop i=l[i] :: ((l.drop (i+1)).take m ++ ((l.drop (i+1+m)).take n ++ l.drop (i+1+m+n))):=by
  rw [List.drop_eq_getElem_cons hi]
  congr 1
  rw [← List.drop_drop (i:=n) (j:=i+1+m),List.take_append_drop,← List.drop_drop (i:=m) (j:=i+1),List.take_append_drop]
theorem Yc {i n:Nat} {x y:Int} (hn:n≤40) (hi:i < n) (hx:0≤x) (hx2:x≤40) (hy:0≤y) (hy2:y≤40) :
    IntKind.i64.wrap ((i:Int)+1)=((i+1:Nat):Int)∧IntKind.i64.wrap (IntKind.i64.wrap ((i:Int)+1)+x)=((i+1+x.toNat:Nat):Int)∧IntKind.i64.wrap (IntKind.i64.wrap (IntKind.i64.wrap ((i:Int)+1)+x)+y)=((i+1+x.toNat+y.toNat:Nat):Int):=by
  have h1:IntKind.i64.wrap ((i:Int)+1)=((i+1:Nat):Int):=Bd hi (by omega)
  have h2:IntKind.i64.wrap (IntKind.i64.wrap ((i:Int)+1)+x)=((i+1+x.toNat:Nat):Int):=by rw [h1,w64 (by omega) (by omega)];omega
  have h3:IntKind.i64.wrap (IntKind.i64.wrap (IntKind.i64.wrap ((i:Int)+1)+x)+y)=((i+1+x.toNat+y.toNat:Nat):Int):=by rw [h2,w64 (by omega) (by omega)];omega
  exact ⟨h1,h2,h3⟩
theorem G9 {α:Type} {l:List α} {i j:Nat} (h:i+j≤l.length):Dc l (i:Int) ((i+j:Nat):Int)=some ((l.drop i).take j):=by
  rw [Eg (by omega) (by omega) (by omega)]
  congr 1
  simp only [Int.toNat_natCast]
  rw [List.drop_take]
  congr 1
  omega
def DR (l:List api_Stmt) (p i v:Nat) (r:Int):Prop:=
  (∃ b:B,b.good p∧l.drop i=b.flat∧r=((max v b.depth:Nat):Int))∨(r = -1∧∀ b:B,b.good p→l.drop i≠b.flat)
def stB (D:List api_Stmt→Int→Option Int) (L:Int→Int→Option Int) (p1:List api_Stmt) (p6 vB1 vB2:Int):Option Int:=
  if vB2 < (p1.length:Int) then
      (getI p1 vB2).bind fun x8=>
      if (((((decide (x8.Body < 0)) || (decide (x8.Else < 0))) || (decide (40 < x8.Body))) || (decide (40 < x8.Else))) || (decide ((p1.length:Int) < (IntKind.i64.wrap ((IntKind.i64.wrap ((IntKind.i64.wrap (vB2+1))+x8.Body))+x8.Else)))))=true then
        some (-1)
      else
        if (((((decide (0 < x8.Body)) && (decide (x8.Kind≠11))) && (decide (x8.Kind≠12))) || ((decide (0 < x8.Else)) && (decide (x8.Kind≠11)))) || ((decide (x8.Kind=13)) && (decide (p6=0))))=true then
          some (-1)
        else
          if x8.Kind=12 then
            (Z31 D L p1 x8 vB1 vB2) (IntKind.i64.wrap (p6+1))
          else
            (Z31 D L p1 x8 vB1 vB2) p6
    else
      some vB1
theorem Jb7 (D:List api_Stmt→Int→Option Int) (N:Nat) (p1:List api_Stmt) (p6 vB1 vB2:Int) (n:Nat):Z33 D N Z30 p1 p6 (n+1) vB1 vB2=stB D (Z33 D N Z30 p1 p6 n) p1 p6 vB1 vB2:=rfl
theorem Vi (p:Nat):(p:Int)+1=((p+1:Nat):Int):=by omega
set_option maxHeartbeats 1000000 in
theorem Vr (D2:List api_Stmt→Int→Option Int) (L2:Int→Int→Option Int) {l:List api_Stmt} {i p v:Nat} (h40:l.length≤40) (hp:p+l.length≤1000) (hv:v≤100) (h1:i < l.length)
    (ih:∀ l':List api_Stmt,l'.length < l.length→∀ q:Nat,q≤p+1→∃ r,D2 l' (q:Int)=some r∧DR l' q 0 0 r)
    (nx:∀ j v':Nat,i < j→j≤l.length→v'≤100→∃ r,L2 (v':Int) (j:Int)=some r∧DR l p j v' r) :
    ∃ r,stB D2 L2 l (p:Int) (v:Int) (i:Int)=some r∧DR l p i v r:=by
  rw [stB,if_pos (by omega),Aw rfl h1]
  simp only [Option.bind_some,Bool.or_eq_true,Bool.and_eq_true,decide_eq_true_eq,Bool.not_eq_true',Bool.or_eq_false_iff,decide_eq_false_iff_not]
  generalize hx:l[i]=x
  -- is there room
  by_cases hroom:0≤x.Body∧0≤x.Else∧(i:Int)+1+x.Body+x.Else≤(l.length:Int)
  rotate_left
  · refine ⟨-1, ?_, .inr ⟨rfl, fun b hg hb => ?_⟩⟩
    · rw [if_pos]
      by_cases q:0≤x.Body∧0≤x.Else∧x.Body≤40∧x.Else≤40
      · right;rw [(Yc h40 h1 q.1 (by omega) q.2.1 (by omega)).2.2];omega
      · left;omega
    · obtain ⟨a, c, r, rfl, _, _, _, h5⟩ := B.split h1 hg hb
      rw [hx] at hg
      obtain ⟨g1,g2,_⟩:=hg
      omega
  obtain ⟨w1,w2,w3⟩:=Yc (x:=x.Body) (y:=x.Else) h40 h1 hroom.1 (by omega) hroom.2.1 (by omega)
  obtain ⟨bn,hbn⟩:∃ q:Nat,x.Body=(q:Int):=⟨x.Body.toNat,by omega⟩
  obtain ⟨en,hen⟩:∃ q:Nat,x.Else=(q:Int):=⟨x.Else.toNat,by omega⟩
  rw [w3]
  have hB : ¬ ((((x.Body < 0∨x.Else < 0)∨40 < x.Body)∨40 < x.Else)∨(l.length:Int) < ((i+1+x.Body.toNat+x.Else.toNat:Nat):Int)):=by omega
  rw [if_neg hB]
  have hle:i+1+bn+en≤l.length:=by omega
  rw [hbn,hen,Int.toNat_natCast,Int.toNat_natCast] at w3
  rw [hbn,Int.toNat_natCast] at w2
  by_cases hk:(¬ Mp x∧0 < bn)∨(x.Kind≠11∧0 < en)∨(x.Kind=13∧p=0)
  · refine ⟨-1, ?_, .inr ⟨rfl, fun b hg hb => ?_⟩⟩
    · unfold Mp at hk
      rw [if_pos (by omega)]
    · obtain ⟨a, c, r, rfl, _, _, _, _⟩ := B.split h1 hg hb
      rw [hx] at hg
      obtain ⟨g1,g2,g3,g4,g5,_⟩:=hg
      rcases hk with ⟨q1,q2⟩ | ⟨q1,q2⟩ | q
      · rw [g3 q1] at g1;simp [B.size] at g1;omega
      · rw [g4 q1] at g2;simp [B.size] at g2;omega
      · exact g5 q
  have hk1 : ¬ Mp x→bn=0:=fun q=>by
    rcases Nat.eq_zero_or_pos bn with h | h
    · exact h
    · exact absurd (.inl ⟨q,h⟩) hk
  have hk2:x.Kind≠11→en=0:=fun q=>by
    rcases Nat.eq_zero_or_pos en with h | h
    · exact h
    · exact absurd (.inr (.inl ⟨q,h⟩)) hk
  have hk3 : ¬ (x.Kind=13∧p=0):=fun q=>hk (.inr (.inr q))
  have e1 : ¬ ((¬x.Kind=11∧¬x.Kind=12)∧0 < x.Body):=by
    rintro ⟨⟨q1,q2⟩,q3⟩
    have:=hk1 (fun h=>by rcases h with h | h <;> omega)
    omega
  have e2 : ¬ (x.Kind≠11∧0 < x.Else):=by
    rintro ⟨q1,q3⟩
    have:=hk2 q1
    omega
  have e3 : ¬ ((((0 < x.Body∧x.Kind≠11)∧x.Kind≠12)∨0 < x.Else∧x.Kind≠11)∨x.Kind=13∧(p:Int)=0):=by
    intro q
    rcases q with (q | q) | q
    · exact e1 ⟨⟨q.1.2,q.2⟩,q.1.1⟩
    · exact e2 ⟨q.2,q.1⟩
    · exact hk3 ⟨q.1,by omega⟩
  rw [if_neg e3]
  -- He comes behind
  have next:∀ v':Nat,v'≤100→∃ r,Z32 L2 x (i:Int) (v':Int)=some r∧DR l p (i+1+bn+en) v' r:=by
    intro v' hv'
    obtain ⟨r,r2,r3⟩:=nx (i+1+bn+en) v' (by omega) hle hv'
    refine ⟨r,?_,r3⟩
    · rw [Z32,hbn,hen,w3,r2]
  have hpp:(if x.Kind=12 then Z31 D2 L2 l x (v:Int) (i:Int) (IntKind.i64.wrap ((p:Int)+1)) else Z31 D2 L2 l x (v:Int) (i:Int) (p:Int)) =
      Z31 D2 L2 l x (v:Int) (i:Int) ((inL x p:Nat):Int):=by
    unfold inL
    by_cases q:x.Kind=12
    · rw [if_pos q,if_pos q,w64 (by omega) (by omega),Vi]
    · rw [if_neg q,if_neg q]
  rw [hpp,Z31]
  by_cases hbl:Mp x
  · have hb2 : ((decide (x.Kind = 11)) || (decide (x.Kind = 12))) = true := by simpa [Mp] using hbl
    rw [if_pos hb2]
    rw [hbn,hen,w3,w2,w1,G9 (by omega),show i+1+bn+en=(i+1+bn)+en from rfl,G9 (i:=i+1+bn) (by omega)]
    simp only [Option.bind_some]
    have hil2:inL x p≤p+1:=by unfold inL;split <;> omega
    obtain ⟨r1,a2,a3⟩:=ih ((l.drop (i+1)).take bn) (by simp;omega) (inL x p) hil2
    obtain ⟨r2,c2,c3⟩:=ih ((l.drop (i+1+bn)).take en) (by simp;omega) (inL x p) hil2
    rw [a2]
    simp only [Option.bind_some]
    rw [c2]
    simp only [Option.bind_some]
    unfold DR at a3 c3
    rw [List.drop_zero] at a3 c3
    rcases a3 with ⟨ba,ga,fa,da⟩ | ⟨da,na⟩
    rotate_left
    · refine ⟨-1, ?_, .inr ⟨rfl, fun b hg hb => ?_⟩⟩
      · rw [if_pos (by simp [da])]
      · obtain ⟨a, c, r, rfl, s1, _⟩ := B.split h1 hg hb
        rw [hx] at hg
        obtain ⟨g1,g2,_,_,_,g6,_⟩:=hg
        have:a.size=bn:=by omega
        rw [this] at s1
        exact na a g6 s1
    rcases c3 with ⟨bc,gc,fc,dc⟩ | ⟨dc,nc⟩
    rotate_left
    · refine ⟨-1, ?_, .inr ⟨rfl, fun b hg hb => ?_⟩⟩
      · rw [if_pos (by simp [dc])]
      · obtain ⟨a, c, r, rfl, _, s2, _⟩ := B.split h1 hg hb
        rw [hx] at hg
        obtain ⟨g1,g2,_,_,_,_,g7,_⟩:=hg
        have q1:a.size=bn:=by omega
        have q2:c.size=en:=by omega
        rw [q1,q2] at s2
        exact nc c g7 s2
    have la:=congrArg List.length fa
    have lc:=congrArg List.length fc
    rw [B.flat_len] at la lc
    simp only [List.length_take,List.length_drop] at la lc
    have sa:x.Body=(ba.size:Int):=by rw [hbn];clear hpp hB hk;omega
    have sc:x.Else=(bc.size:Int):=by rw [hen];clear hpp hB hk;omega
    have dla:=ba.depth_le
    have dlc:=bc.depth_le
    rw [if_neg (by simp [da,dc]),da,dc]
    have ex2:max (max (v:Int) (IntKind.i64.wrap (1+((max 0 ba.depth:Nat):Int)))) (IntKind.i64.wrap (1+((max 0 bc.depth:Nat):Int)))=((max (max v (ba.depth+1)) (bc.depth+1):Nat):Int):=by
      rw [w64 (by omega) (by omega),w64 (by omega) (by omega)];omega
    rw [ex2]
    clear ex2 hpp hB hk
    obtain ⟨r,r2',r3⟩:=next (max (max v (ba.depth+1)) (bc.depth+1)) (by omega)
    refine ⟨r,r2',?_⟩
    rcases r3 with ⟨br,gr,fr,dr⟩ | ⟨dr,nr⟩
    · refine .inl ⟨.cons x ba bc br, ⟨sa, sc, fun q => absurd hbl q, fun q => ?_, hk3, ga, gc, gr⟩, ?_, ?_⟩
      · have := hk2 q
        cases bc with
        | nil=>rfl
        | cons _ _ _ _=>simp only [B.size] at lc;omega
      · rw [Jbf h1 hle,hx,fa,fc,fr];rfl
      · rw [dr];simp only [B.depth,if_pos hbl];omega
    · refine .inr ⟨dr, fun b hg hb => ?_⟩
      obtain ⟨a,c,r,rfl,_,_,s3,_⟩:=B.split h1 hg hb
      rw [hx] at hg
      obtain ⟨g1,g2,_,_,_,_,_,g8⟩:=hg
      have q1:a.size=bn:=by omega
      have q2:c.size=en:=by omega
      rw [q1,q2] at s3
      exact nr r g8 s3
  · have hb2 : ¬ (((decide (x.Kind = 11)) || (decide (x.Kind = 12))) = true) := by simpa [Mp] using hbl
    rw [if_neg hb2]
    have q1:=hk1 hbl
    have q2:=hk2 (fun h=>hbl (.inl h))
    subst q1;subst q2
    obtain ⟨r,r2',r3⟩:=next v hv
    refine ⟨r,r2',?_⟩
    rcases r3 with ⟨br,gr,fr,dr⟩ | ⟨dr,nr⟩
    · refine .inl ⟨.cons x .nil .nil br, ⟨hbn, hen, fun _ => rfl, fun _ => rfl, hk3, trivial, trivial, gr⟩, ?_, ?_⟩
      · rw [Jbf h1 hle,hx,fr];simp [B.flat]
      · rw [dr,B.depth,if_neg hbl]
    · refine .inr ⟨dr, fun b hg hb => ?_⟩
      obtain ⟨a,c,r,rfl,_,_,s3,_⟩:=B.split h1 hg hb
      rw [hx] at hg
      obtain ⟨g1,g2,_,_,_,_,_,g8⟩:=hg
      have q1:a.size=0:=by omega
      have q2:c.size=0:=by omega
      rw [q1,q2] at s3
      exact nr r g8 s3
theorem Vb:∀ (m:Nat) (l:List api_Stmt),l.length≤m→l.length≤40→∀ (p fuel:Nat),p+l.length≤1000→l.length+2≤fuel→
    ∃ r,Z2z fuel l (p:Int)=some r∧DR l p 0 0 r:=by
  intro m
  induction m with
  | zero =>
    intro l hm h40 p fuel hp hf
    have:l=[]:=List.eq_nil_of_length_eq_zero (by omega)
    subst this
    obtain ⟨f,rfl⟩:∃ f,fuel=f+1+1:=⟨fuel - 2,by simp at hf;omega⟩
    refine ⟨0,?_,.inl ⟨.nil,trivial,rfl,rfl⟩⟩
    · rw [Z2z,Z33,if_neg (by simp)];rfl
  | succ m ih =>
    intro l hm h40 p fuel hp hf
    obtain ⟨f,rfl⟩:∃ f,fuel=f+1:=⟨fuel - 1,by omega⟩
    have key:∀ (d i n v:Nat),l.length - i≤d→i≤l.length→l.length - i < n→v≤100→
        ∃ r,Z33 (Z2z f) f Z30 l (p:Int) n (v:Int) (i:Int)=some r∧DR l p i v r:=by
      intro d
      induction d with
      | zero =>
        intro i n v hd hi hn hv
        obtain ⟨n,rfl⟩:∃ q,n=q+1:=⟨n - 1,by omega⟩
        refine ⟨v,?_,.inl ⟨.nil,trivial,by rw [List.drop_of_length_le (by omega)];rfl,by simp [B.depth]⟩⟩
        · rw [Z33,if_neg (by omega)];rfl
      | succ d ihd =>
        intro i n v hd hi hn hv
        obtain ⟨n,rfl⟩:∃ q,n=q+1:=⟨n - 1,by omega⟩
        by_cases hil:i=l.length
        · refine ⟨v, ?_, .inl ⟨.nil, trivial, by rw [List.drop_of_length_le (by omega)]; rfl, by simp [B.depth]⟩⟩
          · rw [Z33,if_neg (by omega)];rfl
        have h1:i < l.length:=by omega
        rw [Jb7]
        exact Vr (Z2z f) _ h40 hp hv h1 (fun l' hl' q hq=>ih l' (by omega) (by omega) q f (by omega) (by omega)) (fun j v' hj hj2 hv'=>ihd j n v' (by omega) hj2 (by omega) hv')
    obtain ⟨r,r2,r3⟩:=key l.length 0 f 0 (by omega) (Nat.zero_le _) (by omega) (by omega)
    refine ⟨r,?_,r3⟩
    · rw [Z2z];exact r2
theorem B.uniq:∀ {b c:B} {p q:Nat},b.good p→c.good q→b.flat=c.flat→b=c:=by
  intro b
  induction b with
  | nil=>intro c p q _ _ h;cases c with | nil=>rfl | cons _ _ _ _=>simp [B.flat] at h
  | cons x a d r iha ihd ihr =>
    intro c p q hb hc h
    cases c with
    | nil=>simp [B.flat] at h
    | cons y a' d' r' =>
      simp only [B.flat,List.cons.injEq] at h
      obtain ⟨rfl,h⟩:=h
      obtain ⟨b1,b2,_,_,_,b6,b7,b8⟩:=hb
      obtain ⟨c1,c2,_,_,_,c6,c7,c8⟩:=hc
      have e1:a.flat.length=a'.flat.length:=by rw [B.flat_len,B.flat_len];omega
      have e2:d.flat.length=d'.flat.length:=by rw [B.flat_len,B.flat_len];omega
      obtain ⟨h1,h2⟩:=List.append_inj h e1
      obtain ⟨h3,h4⟩:=List.append_inj h2 e2
      rw [iha b6 c6 h1,ihd b7 c7 h3,ihr b8 c8 h4]
structure RB (l:List api_Stmt) (t:B):Prop where
  len:l.length≤40
  fits:∀ x∈l,Dr x=true
  good:t.good 0
  flat:l=t.flat
  depth:t.depth≤12
theorem Jbz {l:List api_Stmt} (hl:l.length≤1000) (hs:∀ x∈l,Ec x):∃ b,Z2t 1000001 l=some b∧(b=true↔∃ t,RB l t):=by
  unfold Z2t
  by_cases h:40 < l.length
  · rw [if_pos (by omega)]
    exact ⟨false,rfl,fun h=>(by cases h),fun ⟨t,ht⟩=>by have:=ht.len;omega⟩
  · rw [if_neg (by omega), show (0 : Int) = ((0 : Nat) : Int) from rfl, Te hl hs _ l.length 0 1000001 (by omega) (by omega), List.drop_zero]
    cases hm:l.all Dr with
    | false =>
      refine ⟨false,by simp,fun h=>(by cases h),fun ⟨t,ht⟩=>?_⟩
      rw [List.all_eq_true.2 ht.fits] at hm;cases hm
    | true =>
      obtain ⟨r,r2,r3⟩:=Vb l.length l (Nat.le_refl _) (by omega) 0 1000001 (by omega) (by omega)
      rw [if_pos rfl,Z2u,show (0:Int)=((0:Nat):Int) from rfl,r2]
      simp only [Option.bind_some]
      rcases r3 with ⟨t,g,f,rfl⟩ | ⟨rfl,hn⟩
      · rw [List.drop_zero] at f
        refine ⟨decide (t.depth≤12),?_,?_⟩
        · congr 1;rw [Bool.eq_iff_iff];simp only [Bool.and_eq_true,decide_eq_true_eq];omega
        · rw [decide_eq_true_eq]
          constructor
          · intro hd;exact ⟨t,by omega,List.all_eq_true.1 hm,g,f,hd⟩
          · rintro ⟨t', ht'⟩
            have:t=t':=B.uniq g ht'.good (by rw [← f,ht'.flat])
            subst this;exact ht'.depth
      · refine ⟨false, by decide, fun h => (by cases h), fun ⟨t, ht⟩ => ?_⟩
        exact absurd ht.flat (by have:=hn t ht.good;rwa [List.drop_zero] at this)
def B.okN:B→Prop
  | .nil=>True
  | .cons x a b r=>(x.Kind=12→1≤x.N∧x.N≤8)∧a.okN∧b.okN∧r.okN
theorem JbJ {x:api_Stmt} (h:Dr x=true):x.Kind=12→1≤x.N∧x.N≤8:=by
  intro hk
  unfold Dr at h
  rw [hk] at h
  simp only [Bool.and_eq_true] at h
  have h1:=h.1.2
  rw [if_pos (by decide)] at h1
  simpa using h1
theorem Pf:∀ (b:B),(∀ x∈b.flat,Dr x=true)→b.okN
  | .nil,_=>trivial
  | .cons x a c r,h=>⟨JbJ (h x (.head _)),Pf a (fun y hy=>h y (by simp [B.flat,hy])),Pf c (fun y hy=>h y (by simp [B.flat,hy])),Pf r (fun y hy=>h y (by simp [B.flat,hy]))⟩
theorem Ls (x:api_Stmt) (a c r:B) (p:Nat) (hg:(B.cons x a c r).good p):a.depth≤(B.cons x a c r).depth∧c.depth≤(B.cons x a c r).depth∧r.depth≤(B.cons x a c r).depth:=by
  obtain ⟨_,_,g3,g4,_⟩:=hg
  by_cases hb:Mp x
  · rw [B.depth,if_pos hb];omega
  · rw [B.depth, if_neg hb]
    have e1:=g3 hb
    have e2:=g4 (fun h=>hb (.inl h))
    subst e1;subst e2
    simp [B.depth]
structure OKB (b:B):Prop where
  good:∃ p,b.good p
  okN:b.okN
  size:b.size≤40
  depth:b.depth≤12
theorem OKB.a {x:api_Stmt} {a c r:B} (h:OKB (.cons x a c r)):OKB a:=by
  obtain ⟨⟨p,hg⟩,hn,hs,hd⟩:=h
  have:=Ls x a c r p hg
  simp only [B.size] at hs
  exact ⟨⟨_,hg.2.2.2.2.2.1⟩,hn.2.1,by omega,by omega⟩
theorem OKB.c {x:api_Stmt} {a c r:B} (h:OKB (.cons x a c r)):OKB c:=by
  obtain ⟨⟨p,hg⟩,hn,hs,hd⟩:=h
  have:=Ls x a c r p hg
  simp only [B.size] at hs
  exact ⟨⟨_,hg.2.2.2.2.2.2.1⟩,hn.2.2.1,by omega,by omega⟩
theorem OKB.r {x:api_Stmt} {a c r:B} (h:OKB (.cons x a c r)):OKB r:=by
  obtain ⟨⟨p,hg⟩,hn,hs,hd⟩:=h
  have:=Ls x a c r p hg
  simp only [B.size] at hs
  exact ⟨⟨_,hg.2.2.2.2.2.2.2⟩,hn.2.2.2,by omega,by omega⟩
theorem RB.ok {l:List api_Stmt} {t:B} (h:RB l t):OKB t:=by
  refine ⟨⟨0,h.good⟩,Pf t (fun x hx=>h.fits x (by rw [h.flat];exact hx)),?_,h.depth⟩
  have:=congrArg List.length h.flat
  rw [B.flat_len] at this
  have:=h.len
  omega
theorem parts {l:List api_Stmt} {i:Nat} {x:api_Stmt} {a c r:B} (hl:l.length≤40) (hb:OKB (.cons x a c r)) (h:l.drop i=(B.cons x a c r).flat) :
    i < l.length∧getI l (i:Int)=some x∧IntKind.i64.wrap ((i:Int)+1)=((i+1:Nat):Int)∧
    IntKind.i64.wrap (((i+1:Nat):Int)+x.Body)=((i+1+a.size:Nat):Int)∧
    IntKind.i64.wrap (((i+1+a.size:Nat):Int)+x.Else)=((i+1+a.size+c.size:Nat):Int)∧
    Dc l ((i+1:Nat):Int) ((i+1+a.size:Nat):Int)=some a.flat∧Dc l ((i+1+a.size:Nat):Int) ((i+1+a.size+c.size:Nat):Int)=some c.flat∧
    l.drop (i+1+a.size+c.size)=r.flat∧i+1+a.size+c.size+r.size=l.length:=by
  have hi:i < l.length:=by
    rcases Nat.lt_or_ge i l.length with h1 | h1
    · exact h1
    · rw [List.drop_of_length_le h1] at h;simp [B.flat] at h
  obtain ⟨⟨p,hg⟩,hn,hs,hd⟩:=hb
  obtain ⟨a',c',r',e,s1,s2,s3,s4⟩:=B.split hi hg h
  injection e with e0 e1 e2 e3
  subst e1;subst e2;subst e3
  obtain ⟨g1,g2,_⟩:=hg
  have w:=Yc (x:=x.Body) (y:=x.Else) hl hi (by omega) (by omega) (by omega) (by omega)
  have t1:x.Body.toNat=a.size:=by omega
  have t2:x.Else.toNat=c.size:=by omega
  obtain ⟨w1,w2,w3⟩:=w
  rw [t1,t2] at w3
  rw [t1] at w2
  rw [w2] at w3
  rw [w1] at w2
  refine ⟨hi,by rw [Aw rfl hi,e0],w1,w2,w3,?_,?_,s3,?_⟩
  · rw [G9 (by omega),s1]
  · rw [G9 (by omega),s2]
  · have := congrArg List.length s3
    rw [B.flat_len,List.length_drop] at this
    omega
theorem V9 (p:List api_Node):∀ (d j n:Nat) (out:List api_Node),j+d=60→d < n→out.length≤j→
    ∃ r,Z1j 1000001 Z1i p n out (j:Int)=some r∧r.length≤60:=by
  intro d
  induction d with
  | zero =>
    intro j n out hj hn ho
    obtain ⟨n,rfl⟩:∃ m,n=m+1:=⟨n - 1,by omega⟩
    rw [Z1j,if_neg (by simp;omega)]
    exact ⟨out,rfl,by omega⟩
  | succ d ih =>
    intro j n out hj hn ho
    obtain ⟨n,rfl⟩:∃ m,n=m+1:=⟨n - 1,by omega⟩
    by_cases h1:j < p.length
    · rw [Z1j, if_pos (by simp; omega), Aw rfl h1]
      simp only [Option.bind_some]
      rw [Eg (by omega) (by omega) (by omega)]
      simp only [Option.bind_some]
      rw [Az (by simp;omega) (by decide)]
      simp only [Option.bind_some]
      rw [Bd (n:=60) (by omega) (by decide)]
      exact ih (j+1) n _ (by omega) (by omega) (by simp;omega)
    · rw [Z1j, if_neg (by simp; omega)]
      exact ⟨out,rfl,by omega⟩
theorem JbP (p:List api_Node):∃ r,Z1h 1000001 p=some r∧r.length≤60:=V9 p 60 0 1000001 [] (by decide) (by decide) (Nat.le_refl _)
theorem Vx (p:List api_Stmt):∀ (d j n:Nat) (out:List api_Stmt),j+d=50→d < n→out.length≤j→(∀ x∈out,Ec x)→
    ∃ r,Z1m 1000001 Z1l p n out (j:Int)=some r∧r.length≤50∧∀ x∈r,Ec x:=by
  intro d
  induction d with
  | zero =>
    intro j n out hj hn ho hs
    obtain ⟨n,rfl⟩:∃ m,n=m+1:=⟨n - 1,by omega⟩
    rw [Z1m,if_neg (by simp;omega)]
    exact ⟨out,rfl,by omega,hs⟩
  | succ d ih =>
    intro j n out hj hn ho hs
    obtain ⟨n,rfl⟩:∃ m,n=m+1:=⟨n - 1,by omega⟩
    by_cases h1:j < p.length
    · rw [Z1m, if_pos (by simp; omega), Aw rfl h1]
      simp only [Option.bind_some]
      rw [Eg (by omega) (by omega) (by omega)]
      simp only [Option.bind_some]
      rw [Eg (by omega) (by omega) (by omega)]
      simp only [Option.bind_some]
      obtain ⟨e,he,hel⟩:=JbP p[j].E
      obtain ⟨g,hg,hgl⟩:=JbP p[j].F
      rw [he,hg]
      simp only [Option.bind_some]
      rw [Az (by simp;omega) (by decide)]
      simp only [Option.bind_some]
      rw [Bd (n:=50) (by omega) (by decide)]
      refine ih (j+1) n _ (by omega) (by omega) (by simp;omega) ?_
      intro x hx
      rcases List.mem_append.1 hx with hx | hx
      · exact hs x hx
      · simp only [List.mem_cons, List.not_mem_nil, or_false] at hx
        subst hx;exact ⟨hel,hgl⟩
    · rw [Z1m, if_neg (by simp; omega)]
      exact ⟨out,rfl,by omega,hs⟩
theorem JdA (p:List api_Stmt):∃ r,Z1k 1000001 p=some r∧r.length≤50∧∀ x∈r,Ec x:=Vx p 50 0 1000001 [] (by decide) (by decide) (Nat.le_refl _) (fun x hx=>nomatch hx)
def B.app:B→B→B
  | .nil,c=>c
  | .cons x a b r,c=>.cons x a b (r.app c)
theorem B.app_flat:∀ b c:B,(b.app c).flat=b.flat ++ c.flat
  | .nil,c=>rfl
  | .cons x a b r,c=>by simp [B.app,B.flat,r.app_flat c]
theorem B.app_good {p:Nat} {c:B} (hc:c.good p):∀ b:B,b.good p→(b.app c).good p
  | .nil,_=>hc
  | .cons x a b r,⟨h1,h2,h3,h4,h5,h6,h7,h8⟩=>⟨h1,h2,h3,h4,h5,h6,h7,B.app_good hc r h8⟩
theorem Ov {l:List api_Stmt} {x:api_Stmt} {a c r:B} (hb:OKB (.cons x a c r)) (h:l=(B.cons x a c r).flat) :
    0 < l.length∧getI l 0=some x∧IntKind.i64.wrap (1+x.Body)=((1+a.size:Nat):Int)∧IntKind.i64.wrap (((1+a.size:Nat):Int)+x.Else)=((1+a.size+c.size:Nat):Int)∧
    Dc l 1 ((1+a.size:Nat):Int)=some a.flat∧Dc l ((1+a.size:Nat):Int) ((1+a.size+c.size:Nat):Int)=some c.flat∧
    Dc l ((1+a.size+c.size:Nat):Int) (l.length:Int)=some r.flat:=by
  have hl:l.length≤40:=by rw [h,B.flat_len];exact hb.size
  obtain ⟨h1,h2,w1,w2,w3,s1,s2,s3,s4⟩:=parts (i:=0) hl hb (by rw [List.drop_zero];exact h)
  simp only [Nat.zero_add] at w1 w2 w3 s1 s2 s3 s4
  refine ⟨h1,h2,w2,w3,s1,s2,?_⟩
  rw [show (l.length:Int)=((1+a.size+c.size+r.size:Nat):Int) from by omega,G9 (by omega),s3,List.take_of_length_le (by rw [B.flat_len];exact Nat.le_refl _)]
structure SmallT (t:api_Thread):Prop where
  regs:t.Regs.length≤6
  body:t.Body.length≤50
  small:∀ x∈t.Body,Ec x
structure SmallP (p:api_Prog):Prop where
  lines:p.Lines.length≤6
  line:∀ l∈p.Lines,l.length≤8
  vols:p.Vols.length≤8
  locks:p.Locks.length≤8
  threads:p.Threads.length≤4
  thread:∀ t∈p.Threads,SmallT t
  recover:p.Recover.length≤4
  recov:∀ t∈p.Recover,SmallT t
  claims:p.Claims.length≤6
  claim:∀ c∈p.Claims,c.E.length≤60
theorem Sm (p:List api_Cell):∀ (d j n:Nat) (out:List api_Cell),j+d=8→d < n→out.length≤j→
    ∃ r,Z1v 1000001 Z1u p n out (j:Int)=some r∧r.length≤8:=by
  intro d
  induction d with
  | zero =>
    intro j n out hj hn ho
    obtain ⟨n,rfl⟩:∃ m,n=m+1:=⟨n - 1,by omega⟩
    rw [Z1v,if_neg (by simp;omega)]
    exact ⟨out,rfl,by omega⟩
  | succ d ih =>
    intro j n out hj hn ho
    obtain ⟨n,rfl⟩:∃ m,n=m+1:=⟨n - 1,by omega⟩
    by_cases h1:j < p.length
    · rw [Z1v, if_pos (by simp; omega), Aw rfl h1]
      simp only [Option.bind_some]
      rw [Eg (by omega) (by omega) (by omega)]
      simp only [Option.bind_some]
      rw [Az (by simp;omega) (by decide)]
      simp only [Option.bind_some]
      rw [Bd (n:=8) (by omega) (by decide)]
      exact ih (j+1) n _ (by omega) (by omega) (by simp;omega)
    · rw [Z1v, if_neg (by simp; omega)]
      exact ⟨out,rfl,by omega⟩
theorem JbR (p:List api_Cell):∃ r,Z1t 1000001 p=some r∧r.length≤8:=Sm p 8 0 1000001 [] (by decide) (by decide) (Nat.le_refl _)
theorem Vu {p:List api_Thread} {i:Nat} (hi:i < p.length) (k:List Str→Option (List api_Thread)) (P:Option (List api_Thread)→Prop) (hk:∀ r:List Str,r.length≤6→P (k r)):∀ (d j n:Nat) (out:List Str),j+d=6→d < n→out.length≤j→
    P (Z22 1000001 k p (i:Int) n out (j:Int)):=by
  intro d
  induction d with
  | zero =>
    intro j n out hj hn ho
    obtain ⟨n,rfl⟩:∃ m,n=m+1:=⟨n - 1,by omega⟩
    rw [Z22,Aw rfl hi]
    simp only [Option.bind_some]
    rw [if_neg (by simp;omega)]
    exact hk out (by omega)
  | succ d ih =>
    intro j n out hj hn ho
    obtain ⟨n,rfl⟩:∃ m,n=m+1:=⟨n - 1,by omega⟩
    rw [Z22,Aw rfl hi]
    simp only [Option.bind_some]
    by_cases h1:j < p[i].Regs.length
    · rw [if_pos (by simp; omega), Aw rfl h1]
      simp only [Option.bind_some]
      rw [Eg (by omega) (by omega) (by omega)]
      simp only [Option.bind_some]
      rw [Az (by simp;omega) (by decide)]
      simp only [Option.bind_some]
      rw [Bd (n:=6) (by omega) (by decide)]
      exact ih (j+1) n _ (by omega) (by omega) (by simp;omega)
    · rw [if_neg (by simp; omega)]
      exact hk out (by omega)
theorem Hm (p:List api_Thread):∀ (d j n:Nat) (out:List api_Thread),j+d=4→d < n→out.length≤j→(∀ t∈out,SmallT t)→
    ∃ r,Z21 1000001 Z1x p n out (j:Int)=some r∧r.length≤4∧∀ t∈r,SmallT t:=by
  intro d
  induction d with
  | zero =>
    intro j n out hj hn ho hs
    obtain ⟨n,rfl⟩:∃ m,n=m+1:=⟨n - 1,by omega⟩
    rw [Z21,if_neg (by simp;omega)]
    exact ⟨out,rfl,by omega,hs⟩
  | succ d ih =>
    intro j n out hj hn ho hs
    obtain ⟨n,rfl⟩:∃ m,n=m+1:=⟨n - 1,by omega⟩
    by_cases h1:j < p.length
    · rw [Z21, if_pos (by simp; omega), Aw rfl h1]
      simp only [Option.bind_some]
      rw [Eg (by omega) (by omega) (by omega)]
      simp only [Option.bind_some]
      obtain ⟨b,hb,hbl,hbs⟩:=JdA p[j].Body
      rw [hb]
      simp only [Option.bind_some]
      rw [Z1z,show (0:Int)=((0:Nat):Int) from rfl]
      refine Vu h1 _ (fun o=>∃ r,o=some r∧r.length≤4∧∀ t∈r,SmallT t) (fun rg hrg=>?_) 6 0 1000001 [] (by decide) (by decide) (Nat.le_refl _)
      rw [Z20,Az (by simp;omega) (by decide)]
      simp only [Option.bind_some]
      rw [Z1y,Bd (n:=4) (by omega) (by decide)]
      refine ih (j+1) n _ (by omega) (by omega) (by simp;omega) ?_
      intro t ht
      rcases List.mem_append.1 ht with ht | ht
      · exact hs t ht
      · simp only [List.mem_cons, List.not_mem_nil, or_false] at ht
        subst ht;exact ⟨hrg,hbl,hbs⟩
    · rw [Z21, if_neg (by simp; omega)]
      exact ⟨out,rfl,by omega,hs⟩
theorem Jde (p:List api_Thread):∃ r,Z1w 1000001 p=some r∧r.length≤4∧∀ t∈r,SmallT t:=Hm p 4 0 1000001 [] (by decide) (by decide) (Nat.le_refl _) (fun x hx=>nomatch hx)
theorem Ic (p:api_Prog) (k:List api_Claim→Option api_Prog) (P:Option api_Prog→Prop) (hk:∀ r:List api_Claim,r.length≤6→(∀ c∈r,c.E.length≤60)→P (k r)):∀ (d j n:Nat) (out:List api_Claim),j+d=6→d < n→out.length≤j→(∀ c∈out,c.E.length≤60)→
    P (Z1s 1000001 k p n out (j:Int)):=by
  intro d
  induction d with
  | zero =>
    intro j n out hj hn ho hs
    obtain ⟨n,rfl⟩:∃ m,n=m+1:=⟨n - 1,by omega⟩
    rw [Z1s,if_neg (by simp;omega)]
    exact hk out (by omega) hs
  | succ d ih =>
    intro j n out hj hn ho hs
    obtain ⟨n,rfl⟩:∃ m,n=m+1:=⟨n - 1,by omega⟩
    by_cases h1:j < p.Claims.length
    · rw [Z1s, if_pos (by simp; omega), Aw rfl h1]
      simp only [Option.bind_some]
      obtain ⟨e,he,hel⟩:=JbP p.Claims[j].E
      rw [he]
      simp only [Option.bind_some]
      rw [Az (by simp;omega) (by decide)]
      simp only [Option.bind_some]
      rw [Bd (n:=6) (by omega) (by decide)]
      refine ih (j+1) n _ (by omega) (by omega) (by simp;omega) ?_
      intro t ht
      rcases List.mem_append.1 ht with ht | ht
      · exact hs t ht
      · simp only [List.mem_cons, List.not_mem_nil, or_false] at ht
        subst ht;exact hel
    · rw [Z1s, if_neg (by simp; omega)]
      exact hk out (by omega) hs
theorem Sv (p:api_Prog) (k:List (List api_Cell)→Option api_Prog) (P:Option api_Prog→Prop) (hk:∀ r:List (List api_Cell),r.length≤6→(∀ c∈r,c.length≤8)→P (k r)):∀ (d j n:Nat) (out:List (List api_Cell)),j+d=6→d < n→out.length≤j→(∀ c∈out,c.length≤8)→
    P (Z1r 1000001 k p n out (j:Int)):=by
  intro d
  induction d with
  | zero =>
    intro j n out hj hn ho hs
    obtain ⟨n,rfl⟩:∃ m,n=m+1:=⟨n - 1,by omega⟩
    rw [Z1r,if_neg (by simp;omega)]
    exact hk out (by omega) hs
  | succ d ih =>
    intro j n out hj hn ho hs
    obtain ⟨n,rfl⟩:∃ m,n=m+1:=⟨n - 1,by omega⟩
    by_cases h1:j < p.Lines.length
    · rw [Z1r, if_pos (by simp; omega), Aw rfl h1]
      simp only [Option.bind_some]
      obtain ⟨e,he,hel⟩:=JbR p.Lines[j]
      rw [he]
      simp only [Option.bind_some]
      rw [Az (by simp;omega) (by decide)]
      simp only [Option.bind_some]
      rw [Bd (n:=6) (by omega) (by decide)]
      refine ih (j+1) n _ (by omega) (by omega) (by simp;omega) ?_
      intro t ht
      rcases List.mem_append.1 ht with ht | ht
      · exact hs t ht
      · simp only [List.mem_cons, List.not_mem_nil, or_false] at ht
        subst ht;exact hel
    · rw [Z1r, if_neg (by simp; omega)]
      exact hk out (by omega) hs
theorem Jd9 (p:api_Prog):∃ r,Z1n 1000001 p=some r∧SmallP r:=by
  unfold Z1n
  obtain ⟨v,hv,hvl⟩:=JbR p.Vols
  obtain ⟨k,hk,hkl⟩:=JbR p.Locks
  obtain ⟨t,ht,htl,hts⟩:=Jde p.Threads
  obtain ⟨u,hu,hul,hus⟩:=Jde p.Recover
  rw [hv,hk,ht,hu]
  simp only [Option.bind_some]
  rw [Z1o,show (0:Int)=((0:Nat):Int) from rfl]
  refine Sv p _ (fun o=>∃ r,o=some r∧SmallP r) (fun ls h1 h2=>?_) 6 0 1000001 [] (by decide) (by decide) (Nat.le_refl _) (fun x hx=>nomatch hx)
  rw [Z1p,show (0:Int)=((0:Nat):Int) from rfl]
  refine Ic p _ (fun o=>∃ r,o=some r∧SmallP r) (fun cs h3 h4=>?_) 6 0 1000001 [] (by decide) (by decide) (Nat.le_refl _) (fun x hx=>nomatch hx)
  exact ⟨_,rfl,h1,h2,hvl,hkl,htl,hts,hul,hus,h3,h4⟩
def Be (p:api_Prog):List api_Cell:=p.Lines.flatten ++ p.Vols
theorem Uj:∀ (l:List (List api_Cell)),(∀ x∈l,x.length≤8)→l.flatten.length≤8 * l.length
  | [],_=>Nat.zero_le _
  | x :: r, h => by
    have:=Uj r (fun y hy=>h y (.tail _ hy))
    have:=h x (.head _)
    simp only [List.flatten_cons,List.length_append,List.length_cons]
    omega
theorem Cf {p:api_Prog} (hp:SmallP p):(Be p).length≤56:=by
  have h1:=Uj p.Lines hp.line
  have h2:=hp.lines
  have h3:=hp.vols
  simp only [Be,List.length_append]
  omega
def lineN:List (List api_Cell)→Nat→Nat→Nat
  | [],i,a=>i+a
  | l :: r,i,a=>if a < l.length then i else lineN r (i+1) (a - l.length)
theorem Ql:∀ (ls:List (List api_Cell)) (i a:Nat),i≤lineN ls i a
  | [],i,a=>by simp [lineN]
  | l :: r, i, a => by
    rw [lineN];split
    · exact Nat.le_refl _
    · have:=Ql r (i+1) (a - l.length);omega
theorem Ma:∀ (ls:List (List api_Cell)) (i a:Nat),lineN ls i a≤lineN ls i (a+1)
  | [],i,a=>by simp only [lineN];omega
  | l :: r, i, a => by
    simp only [lineN]
    by_cases h1:a+1 < l.length
    · rw [if_pos (by omega),if_pos h1];exact Nat.le_refl _
    · rw [if_neg h1]
      by_cases h2:a < l.length
      · rw [if_pos h2];have:=Ql r (i+1) (a+1 - l.length);omega
      · rw [if_neg h2, show a + 1 - l.length = (a - l.length) + 1 from by omega]
        exact Ma r (i+1) _
theorem Qm:∀ (ls:List (List api_Cell)) (i a:Nat),a < ls.flatten.length→lineN ls i a < i+ls.length
  | [],i,a,h=>by simp at h
  | l :: r, i, a, h => by
    simp only [List.flatten_cons,List.length_append] at h
    simp only [lineN,List.length_cons]
    split
    · omega
    · have:=Qm r (i+1) (a - l.length) (by omega);omega
theorem Vj {N:Nat} (hN:5000≤N) {p:api_Prog} (hp:SmallP p) (k:List api_Cell→Option (List api_Cell)):∀ (d j n:Nat) (out:List api_Cell),j+d=p.Lines.length→d < n→out.length≤8 * j→Z3r N k p n out (j:Int)=k (out ++ (p.Lines.drop j).flatten):=by
  intro d
  have hL:=hp.lines
  induction d with
  | zero =>
    intro j n out hj hn hv
    obtain ⟨n,rfl⟩:∃ m,n=m+1:=⟨n - 1,by omega⟩
    rw [Z3r,if_neg (by omega),List.drop_of_length_le (by omega)]
    simp
  | succ d ih =>
    intro j n out hj hn hv
    obtain ⟨n,rfl⟩:∃ m,n=m+1:=⟨n - 1,by omega⟩
    have h1:j < p.Lines.length:=by omega
    have h2:=hp.line _ (List.getElem_mem h1)
    rw [Z3r,if_pos (by omega),Aw rfl h1]
    simp only [Option.bind_some]
    rw [Az (by omega) (by decide)]
    simp only [Option.bind_some]
    rw [Bd h1 (by omega),ih (j+1) n _ (by omega) (by omega) (by simp;omega),List.drop_eq_getElem_cons h1,List.flatten_cons,List.append_assoc]
theorem Il {N:Nat} (hN:5000≤N) {p:api_Prog} (hp:SmallP p):Z3p N p=some (Be p):=by
  have hL:=hp.lines
  have hC:=Cf hp
  simp only [Be,List.length_append] at hC
  unfold Z3p
  rw [show (0:Int)=((0:Nat):Int) from rfl,Vj hN hp _ p.Lines.length 0 N [] (by omega) (by omega) (Nat.le_refl _),List.drop_zero,List.nil_append,Z3q,Az (by omega) (by decide)]
  rfl
theorem Pm {N:Nat} (hN:5000≤N) {l:List api_Cell} (hl:l.length≤200):∀ (d j n:Nat) (out:List Str),j+d=l.length→d < n→out.length≤j→Z4k N Z4j l n out (j:Int)=some (out ++ (l.drop j).map (·.Name)):=by
  intro d
  induction d with
  | zero =>
    intro j n out hj hn hv
    obtain ⟨n,rfl⟩:∃ m,n=m+1:=⟨n - 1,by omega⟩
    rw [Z4k,if_neg (by omega),List.drop_of_length_le (by omega),Z4j]
    simp
  | succ d ih =>
    intro j n out hj hn hv
    obtain ⟨n,rfl⟩:∃ m,n=m+1:=⟨n - 1,by omega⟩
    have h1:j < l.length:=by omega
    rw [Z4k,if_pos (by omega),Aw rfl h1]
    simp only [Option.bind_some]
    rw [Az (by simp;omega) (by decide)]
    simp only [Option.bind_some]
    rw [Bd h1 (by omega),ih (j+1) n _ (by omega) (by omega) (by simp;omega),List.drop_eq_getElem_cons h1,List.map_cons,List.append_assoc]
    rfl
theorem Kv {N:Nat} (hN:5000≤N) {l:List api_Cell} (hl:l.length≤200):Z4i N l=some (l.map (·.Name)):=by
  have:=Pm hN hl l.length 0 N [] (by omega) (by omega) (Nat.le_refl _)
  rw [List.drop_zero,List.nil_append] at this
  exact this
theorem Gf {N:Nat} (hN:5000≤N) {p:api_Prog} (hp:SmallP p):Z3s N p=some ((Be p).map (·.Name)):=by
  have hC:=Cf hp
  unfold Z3s
  rw [Il hN hp]
  simp only [Option.bind_some]
  rw [Kv hN (by omega)];rfl
theorem Ji {N:Nat} (hN:5000≤N) {p:api_Prog} (hp:SmallP p):Z4h N p=some (p.Locks.map (·.Name)):=by
  have hL:=hp.locks
  unfold Z4h
  rw [Kv hN (by omega)];rfl
theorem Hu {N:Nat} (hN:5000≤N) {p:api_Prog} (hp:SmallP p):Z4o N p=some (p.Lines.flatten.length:Int):=by
  have hC:=Cf hp
  have hlen:(Be p).length=p.Lines.flatten.length+p.Vols.length:=by simp [Be]
  unfold Z4o
  rw [Il hN hp]
  simp only [Option.bind_some]
  rw [w64 (by omega) (by omega)]
  congr 1;omega
theorem Nk {N:Nat} (hN:5000≤N) {l:List api_Cell} (hl:l.length≤200):∀ (d j n:Nat) (out:List Int),j+d=l.length→d < n→out.length≤j→Z49 N Z48 l n out (j:Int)=some (out ++ (l.drop j).map (·.N)):=by
  intro d
  induction d with
  | zero =>
    intro j n out hj hn hv
    obtain ⟨n,rfl⟩:∃ m,n=m+1:=⟨n - 1,by omega⟩
    rw [Z49,if_neg (by omega),List.drop_of_length_le (by omega),Z48]
    simp
  | succ d ih =>
    intro j n out hj hn hv
    obtain ⟨n,rfl⟩:∃ m,n=m+1:=⟨n - 1,by omega⟩
    have h1:j < l.length:=by omega
    rw [Z49,if_pos (by omega),Aw rfl h1]
    simp only [Option.bind_some]
    rw [Az (by simp;omega) (by decide)]
    simp only [Option.bind_some]
    rw [Bd h1 (by omega),ih (j+1) n _ (by omega) (by omega) (by simp;omega),List.drop_eq_getElem_cons h1,List.map_cons,List.append_assoc]
    rfl
theorem Ps {N:Nat} (hN:5000≤N) {p:api_Prog} (hp:SmallP p):Z47 N p=some ((Be p).map (·.N)):=by
  have hC:=Cf hp
  unfold Z47
  rw [Il hN hp]
  simp only [Option.bind_some]
  have:=Nk hN (l:=Be p) (by omega) (Be p).length 0 N [] (by omega) (by omega) (Nat.le_refl _)
  rw [List.drop_zero,List.nil_append] at this
  rw [show (0:Int)=((0:Nat):Int) from rfl]
  exact this
theorem Rl {N:Nat} (hN:5000≤N) {p:api_Prog} (hp:SmallP p):∀ (d j n a:Nat),j+d=p.Lines.length→d < n→a≤1000→Z4g N (Z4f p) p n (a:Int) (j:Int)=some (lineN (p.Lines.drop j) j a:Int):=by
  intro d
  have hL:=hp.lines
  induction d with
  | zero =>
    intro j n a hj hn ha
    obtain ⟨n,rfl⟩:∃ m,n=m+1:=⟨n - 1,by omega⟩
    rw [Z4g,if_neg (by omega),List.drop_of_length_le (by omega),Z4f,w64 (by omega) (by omega),lineN]
    congr 1;omega
  | succ d ih =>
    intro j n a hj hn ha
    obtain ⟨n,rfl⟩:∃ m,n=m+1:=⟨n - 1,by omega⟩
    have h1:j < p.Lines.length:=by omega
    have h2:=hp.line _ (List.getElem_mem h1)
    rw [Z4g,if_pos (by omega),Aw rfl h1]
    simp only [Option.bind_some]
    rw [List.drop_eq_getElem_cons h1,lineN]
    by_cases h:a < p.Lines[j].length
    · rw [if_pos (by omega),if_pos h]
    · rw [if_neg (by omega),if_neg h,show IntKind.i64.wrap ((a:Int) - (p.Lines[j].length:Int))=((a - p.Lines[j].length:Nat):Int) from by rw [w64 (by omega) (by omega)];omega,Bd h1 (by omega),ih (j+1) n _ (by omega) (by omega) (by omega)]
theorem Mm {N:Nat} (hN:5000≤N) {p:api_Prog} (hp:SmallP p) {c:Int} (h:c < 0∨((Be p).length:Int)≤c):Z4d N p c=some (-1):=by
  unfold Z4d
  by_cases h0:c < 0
  · rw [if_pos h0];rfl
  · rw [if_neg h0, Il hN hp]
    simp only [Option.bind_some]
    rw [decide_eq_true (by omega)];rfl
theorem Iq {N:Nat} (hN:5000≤N) {p:api_Prog} (hp:SmallP p) {a:Nat} (h:a < (Be p).length):Z4d N p (a:Int)=some (lineN p.Lines 0 a:Int):=by
  have hC:=Cf hp
  have hL:=hp.lines
  unfold Z4d
  rw [if_neg (by omega),Il hN hp]
  simp only [Option.bind_some]
  rw [decide_eq_false (by omega),Z4e,if_neg (by decide),show (0:Int)=((0:Nat):Int) from rfl,Rl hN hp p.Lines.length 0 N a (by omega) (by omega) (by omega),List.drop_zero]
def Hn (a:Int):Bool:=decide (0≤a) && decide (a≤4000)
theorem Kp (N:Nat) (a:Int):Z3i N a=some (Hn a):=rfl
def cellB (most:Int) (c:api_Cell):Bool:=!(((!Dj c.Name) || (decide (c.N < 0))) || (decide (most < c.N))) && Hn c.At
def Lb (l:List api_Cell):Bool:=!decide (l.length=0) && l.all (cellB 4294967296)
open Classical in
noncomputable def Kw (l:List api_Stmt):Bool:=decide (∃ t,RB l t)
theorem Uw {l:List api_Stmt} (hl:l.length≤1000) (hs:∀ x∈l,Ec x):True∧Z2t 1000001 l=some (Kw l):=by
  obtain ⟨b,h2,h3⟩:=Jbz hl hs
  have:b=Kw l:=Sk h3
  rw [h2,this]
  exact ⟨trivial,rfl⟩
theorem Tc {l:List api_Stmt}:Kw l=true↔∃ t,RB l t:=by unfold Kw;simp
noncomputable def Fl (t:api_Thread):Bool:=Hn t.At && (t.Regs.all Dj && Kw t.Body)
noncomputable def Ho (t:api_Thread):Bool:=Dj t.Name && Fl t
noncomputable def Ev (t:api_Thread):Bool:=decide (t.Name=[]) && Fl t
noncomputable def Hj (c:api_Claim):Bool:=Hn c.At && Fc c.E
noncomputable def Nu (p:api_Prog):Bool:=p.Lines.all Lb && (p.Vols.all (cellB 4294967296) && (p.Locks.all (cellB 0) && (decide (p.Recover.length≤1) && (p.Threads.all Ho && (p.Recover.all Ev && p.Claims.all Hj)))))
theorem Rr {l:List api_Cell} (hl:l.length≤1000) (most:Int):∀ (d j n:Nat),j+d=l.length→d < n→Z3h 1000001 Z3f l most n (j:Int)=some ((l.drop j).all (cellB most)):=by
  intro d
  induction d with
  | zero =>
    intro j n hj hn
    obtain ⟨n,rfl⟩:∃ m,n=m+1:=⟨n - 1,by omega⟩
    rw [Z3h,if_neg (by omega),List.drop_of_length_le (by omega)];rfl
  | succ d ih =>
    intro j n hj hn
    obtain ⟨n,rfl⟩:∃ m,n=m+1:=⟨n - 1,by omega⟩
    have h1:j < l.length:=by omega
    rw [Z3h,if_pos (by omega),Aw rfl h1]
    simp only [Option.bind_some]
    rw [Fu (N:=1000001) (by decide)]
    simp only [Option.bind_some,Kp]
    rw [List.drop_eq_getElem_cons h1,List.all_cons]
    conv=>rhs;rw [cellB]
    cases (((!Dj l[j].Name) || (decide (l[j].N < 0))) || (decide (most < l[j].N))) with
    | true=>rw [if_pos rfl,Z3g,if_pos rfl];rfl
    | false =>
      rw [if_neg (by decide),Z3g]
      cases Hn l[j].At with
      | false=>rfl
      | true =>
        rw [if_neg (by decide),Bd h1 (by omega),ih (j+1) n (by omega) (by omega)];simp
theorem Kz {l:List api_Cell} (hl:l.length≤1000) (most:Int):Z3e 1000001 l most=some (l.all (cellB most)):=by
  have:=Rr hl most l.length 0 1000001 (by omega) (by omega)
  rw [List.drop_zero] at this
  exact this
theorem Sy {p:List api_Thread} {i:Nat} (hi:i < p.length) (hr:p[i].Regs.length≤1000) (k:Option Bool):∀ (d j n:Nat),j+d=p[i].Regs.length→d < n→Z3o 1000001 k p (i:Int) n (j:Int)=if (p[i].Regs.drop j).all Dj=true then k else some false:=by
  intro d
  induction d with
  | zero =>
    intro j n hj hn
    obtain ⟨n,rfl⟩:∃ m,n=m+1:=⟨n - 1,by omega⟩
    rw [Z3o,Aw rfl hi]
    simp only [Option.bind_some]
    rw [if_neg (by omega),List.drop_of_length_le (by omega)];rfl
  | succ d ih =>
    intro j n hj hn
    obtain ⟨n,rfl⟩:∃ m,n=m+1:=⟨n - 1,by omega⟩
    have h1:j < p[i].Regs.length:=by omega
    rw [Z3o,Aw rfl hi]
    simp only [Option.bind_some]
    rw [if_pos (by omega),Aw rfl h1]
    simp only [Option.bind_some]
    rw [Fu (N:=1000001) (by decide)]
    simp only [Option.bind_some]
    rw [List.drop_eq_getElem_cons h1,List.all_cons]
    cases Dj p[i].Regs[j] with
    | false=>rfl
    | true =>
      rw [if_pos rfl,Bd h1 (by omega),ih (j+1) n (by omega) (by omega)];simp
noncomputable def R8 (named:Bool) (t:api_Thread):Bool:=if named=true then Ho t else Ev t
theorem Ng {p:List api_Thread} (hl:p.length≤1000) (hs:∀ t∈p,SmallT t) (named:Bool):∀ (d j n:Nat),j+d=p.length→d < n→Z3n 1000001 Z3k p named n (j:Int)=some ((p.drop j).all (R8 named)):=by
  intro d
  induction d with
  | zero =>
    intro j n hj hn
    obtain ⟨n,rfl⟩:∃ m,n=m+1:=⟨n - 1,by omega⟩
    rw [Z3n,if_neg (by omega),List.drop_of_length_le (by omega)];rfl
  | succ d ih =>
    intro j n hj hn
    obtain ⟨n,rfl⟩:∃ m,n=m+1:=⟨n - 1,by omega⟩
    have h1:j < p.length:=by omega
    have ht:=hs _ (List.getElem_mem h1)
    rw [Z3n,if_pos (by omega),Aw rfl h1]
    simp only [Option.bind_some]
    rw [Fu (N:=1000001) (by decide)]
    simp only [Option.bind_some,Kp]
    rw [List.drop_eq_getElem_cons h1,List.all_cons]
    have hw:R8 named p[j]=(!((named != Dj p[j].Name) || ((!named) && (decide (p[j].Name≠[])))) && Fl p[j]):=by
      unfold R8 Ho Ev
      cases named with
      | true=>simp
      | false =>
        by_cases e:p[j].Name=[]
        · rw [e];simp [Dj]
        · simp [e]
    rw [hw,Fl]
    have fin:∀ b:Bool,Z3m 1000001 (Z3l (Z3n 1000001 Z3k p named n) (j:Int)) p (j:Int) b=some (!b && (p[j].Regs.all Dj && (p.drop (j+1)).all (R8 named))):=by
      intro b
      rw [Z3m]
      cases b with
      | true=>rfl
      | false =>
        rw [if_neg (by decide),show (0:Int)=((0:Nat):Int) from rfl,Sy h1 (by have:=ht.regs;omega) _ p[j].Regs.length 0 1000001 (by omega) (by have:=ht.regs;omega),List.drop_zero]
        cases p[j].Regs.all Dj with
        | false=>rfl
        | true=>rw [if_pos rfl,Z3l,Bd h1 (by omega),ih (j+1) n (by omega) (by omega)];rfl
    cases ((named != Dj p[j].Name) || ((!named) && (decide (p[j].Name≠[])))) with
    | true=>rw [if_pos rfl,fin];rfl
    | false =>
      rw [if_neg (by decide)]
      cases Hn p[j].At with
      | false=>rw [if_neg (by decide),fin];rfl
      | true =>
        rw [if_pos rfl,(Uw (by have:=ht.body;omega) ht.small).2]
        simp only [Option.bind_some]
        rw [fin]
        cases Kw p[j].Body <;> cases p[j].Regs.all Dj <;> simp
theorem Li {p:List api_Thread} (hl:p.length≤1000) (hs:∀ t∈p,SmallT t) (named:Bool):Z3j 1000001 p named=some (p.all (R8 named)):=by
  have:=Ng hl hs named p.length 0 1000001 (by omega) (by omega)
  rw [List.drop_zero] at this
  exact this
theorem Oy {p:api_Prog} (hp:SmallP p) (k:Option Bool):∀ (d j n:Nat),j+d=p.Claims.length→d < n→Z3d 1000001 k p n (j:Int)=if (p.Claims.drop j).all Hj=true then k else some false:=by
  intro d
  have hC:=hp.claims
  induction d with
  | zero =>
    intro j n hj hn
    obtain ⟨n,rfl⟩:∃ m,n=m+1:=⟨n - 1,by omega⟩
    rw [Z3d,if_neg (by omega),List.drop_of_length_le (by omega)];rfl
  | succ d ih =>
    intro j n hj hn
    obtain ⟨n,rfl⟩:∃ m,n=m+1:=⟨n - 1,by omega⟩
    have h1:j < p.Claims.length:=by omega
    rw [Z3d,if_pos (by omega),Aw rfl h1]
    simp only [Option.bind_some,Kp]
    rw [List.drop_eq_getElem_cons h1,List.all_cons]
    conv=>rhs;rw [Hj]
    cases Hn p.Claims[j].At with
    | false=>rw [if_neg (by decide),Z3b];rfl
    | true =>
      rw [if_pos rfl,Ig (N:=1000001) (by decide) (hp.claim _ (List.getElem_mem h1))]
      simp only [Option.bind_some]
      rw [Z3b]
      cases Fc p.Claims[j].E with
      | false=>rfl
      | true=>rw [if_neg (by decide),Bd h1 (by omega),ih (j+1) n (by omega) (by omega)];simp
theorem Rp {p:api_Prog} (hp:SmallP p) (k:Option Bool):∀ (d j n:Nat),j+d=p.Lines.length→d < n→Z3c 1000001 k p n (j:Int)=if (p.Lines.drop j).all Lb=true then k else some false:=by
  intro d
  have hC:=hp.lines
  induction d with
  | zero =>
    intro j n hj hn
    obtain ⟨n,rfl⟩:∃ m,n=m+1:=⟨n - 1,by omega⟩
    rw [Z3c,if_neg (by omega),List.drop_of_length_le (by omega)];rfl
  | succ d ih =>
    intro j n hj hn
    obtain ⟨n,rfl⟩:∃ m,n=m+1:=⟨n - 1,by omega⟩
    have h1:j < p.Lines.length:=by omega
    have h2:=hp.line _ (List.getElem_mem h1)
    rw [Z3c,if_pos (by omega),Aw rfl h1]
    simp only [Option.bind_some]
    rw [List.drop_eq_getElem_cons h1,List.all_cons]
    conv=>rhs;rw [Lb]
    by_cases h:p.Lines[j].length=0
    · rw [if_pos (by omega),decide_eq_true h,Z39];rfl
    · rw [if_neg (by omega), decide_eq_false h, Kz (by omega)]
      simp only [Option.bind_some]
      rw [Z39]
      cases p.Lines[j].all (cellB 4294967296) with
      | false=>rfl
      | true=>rw [if_neg (by decide),Bd h1 (by omega),ih (j+1) n (by omega) (by omega)];simp
theorem Vv {p:api_Prog} (hp:SmallP p):Z37 1000001 p=some (Nu p):=by
  have hL:=hp.lines
  have hC:=hp.claims
  unfold Z37
  rw [show (0:Int)=((0:Nat):Int) from rfl,Rp hp _ p.Lines.length 0 1000001 (by omega) (by omega),List.drop_zero]
  unfold Nu
  cases p.Lines.all Lb with
  | false=>rfl
  | true =>
    rw [if_pos rfl,Z38,show (0:Int)=((0:Nat):Int) from rfl,Oy hp _ p.Claims.length 0 1000001 (by omega) (by omega),List.drop_zero]
    have hj4:Z3a 1000001 p=some (p.Vols.all (cellB 4294967296) && (p.Locks.all (cellB 0) && (p.Threads.all Ho && (p.Recover.all Ev && decide (p.Recover.length≤1))))):=by
      rw [Z3a,Kz (by have:=hp.vols;omega)]
      simp only [Option.bind_some]
      cases p.Vols.all (cellB 4294967296) with
      | false=>rfl
      | true =>
        rw [if_pos rfl,Kz (by have:=hp.locks;omega)]
        simp only [Option.bind_some]
        cases p.Locks.all (cellB 0) with
        | false=>rfl
        | true =>
          rw [if_pos rfl,Li (by have:=hp.threads;omega) hp.thread]
          simp only [Option.bind_some]
          rw [show p.Threads.all (R8 true)=p.Threads.all Ho from rfl]
          cases p.Threads.all Ho with
          | false=>rfl
          | true =>
            rw [if_pos rfl,Li (by have:=hp.recover;omega) hp.recov]
            simp only [Option.bind_some]
            rw [show p.Recover.all (R8 false)=p.Recover.all Ev from rfl]
            congr 1
            rw [show decide ((p.Recover.length:Int)≤1)=decide (p.Recover.length≤1) from by congr 1;exact propext (by omega)]
            simp
    rw [hj4]
    cases p.Claims.all Hj <;> cases p.Vols.all (cellB 4294967296) <;> cases p.Locks.all (cellB 0) <;> cases p.Threads.all Ho <;> cases p.Recover.all Ev <;> cases decide (p.Recover.length≤1) <;> rfl
end Go.MD.BINZ.R
namespace Go.MD.BINZ.R
open Go Go.MD Go.MD.BINZ
def D9 (p:api_Prog):List api_Thread:=p.Threads ++ p.Recover
theorem Jl {p:api_Prog} (hp:SmallP p):(D9 p).length≤8∧∀ t∈D9 p,SmallT t:=by
  refine ⟨?_,fun t ht=>(List.mem_append.1 ht).elim (hp.thread t) (hp.recov t)⟩
  have:=hp.threads;have:=hp.recover
  simp only [D9,List.length_append];omega
theorem H9 {p:api_Prog} (hp:SmallP p):Z4p 1000001 p=some (D9 p):=by
  have h1:=hp.threads
  have h2:=hp.recover
  unfold Z4p
  rw [Az (by simp;omega) (by decide)]
  simp only [Option.bind_some,List.nil_append]
  rw [Az (by omega) (by decide)]
  rfl
def Mu (l:List api_Cell):Bool:=!decide (4 < l.length)
def Yg (t:api_Thread):Bool:=!decide (4 < t.Regs.length)
def Re (p:api_Prog):Bool:=!(p.Lines.all Mu && (D9 p).all Yg) || decide (4 < p.Lines.length∨4 < p.Vols.length∨2 < p.Locks.length∨p.Threads.length < 1∨3 < p.Threads.length∨4 < p.Claims.length)
theorem Sr {p:api_Prog} (hp:SmallP p) (k:Option Bool):∀ (d j n:Nat),j+d=p.Lines.length→d < n→Z4t 1000001 k p n (j:Int)=if (p.Lines.drop j).all Mu=true then k else some true:=by
  intro d
  have hC:=hp.lines
  induction d with
  | zero =>
    intro j n hj hn
    obtain ⟨n,rfl⟩:∃ m,n=m+1:=⟨n - 1,by omega⟩
    rw [Z4t,if_neg (by omega),List.drop_of_length_le (by omega)];rfl
  | succ d ih =>
    intro j n hj hn
    obtain ⟨n,rfl⟩:∃ m,n=m+1:=⟨n - 1,by omega⟩
    have h1:j < p.Lines.length:=by omega
    rw [Z4t,if_pos (by omega),Aw rfl h1]
    simp only [Option.bind_some]
    rw [List.drop_eq_getElem_cons h1,List.all_cons]
    conv=>rhs;rw [Mu]
    by_cases h:4 < p.Lines[j].length
    · rw [if_pos (by omega),decide_eq_true h];rfl
    · rw [if_neg (by omega),decide_eq_false h,Bd h1 (by omega),ih (j+1) n (by omega) (by omega)];simp
theorem Vt {l:List api_Thread} (hl:l.length≤1000) (k:Option Bool):∀ (d j n:Nat),j+d=l.length→d < n→Z4u 1000001 k l n (j:Int)=if (l.drop j).all Yg=true then k else some true:=by
  intro d
  induction d with
  | zero =>
    intro j n hj hn
    obtain ⟨n,rfl⟩:∃ m,n=m+1:=⟨n - 1,by omega⟩
    rw [Z4u,if_neg (by omega),List.drop_of_length_le (by omega)];rfl
  | succ d ih =>
    intro j n hj hn
    obtain ⟨n,rfl⟩:∃ m,n=m+1:=⟨n - 1,by omega⟩
    have h1:j < l.length:=by omega
    rw [Z4u,if_pos (by omega),Aw rfl h1]
    simp only [Option.bind_some]
    rw [List.drop_eq_getElem_cons h1,List.all_cons]
    conv=>rhs;rw [Yg]
    by_cases h:4 < l[j].Regs.length
    · rw [if_pos (by omega),decide_eq_true h];rfl
    · rw [if_neg (by omega),decide_eq_false h,Bd h1 (by omega),ih (j+1) n (by omega) (by omega)];simp
theorem JaK {p:api_Prog} (hp:SmallP p):Z4q 1000001 p=some (Re p):=by
  have hL:=hp.lines
  have hT:=(Jl hp).1
  unfold Z4q Re
  rw [show (0:Int)=((0:Nat):Int) from rfl,Sr hp _ p.Lines.length 0 1000001 (by omega) (by omega),List.drop_zero]
  cases p.Lines.all Mu with
  | false=>rfl
  | true =>
    rw [if_pos rfl,Z4r,H9 hp]
    simp only [Option.bind_some]
    rw [show (0:Int)=((0:Nat):Int) from rfl,Vt (by omega) _ (D9 p).length 0 1000001 (by omega) (by omega),List.drop_zero]
    cases (D9 p).all Yg with
    | false=>rfl
    | true =>
      rw [if_pos rfl,Z4s]
      congr 1
      rw [Bool.eq_iff_iff]
      simp only [Bool.or_eq_true,decide_eq_true_eq,Bool.and_self,Bool.not_true,Bool.false_or]
      omega
def B.wild:B→Int→Option Int
  | .nil,_=>none
  | .cons x a c r,n=>if 64 < (if x.Kind=12 then n * x.N else n) then some x.At else ((a.wild (if x.Kind=12 then n * x.N else n)).or (c.wild (if x.Kind=12 then n * x.N else n))).or (r.wild n)
theorem B.app_wild:∀ (b c:B) (n:Int),(b.app c).wild n=(b.wild n).or (c.wild n)
  | .nil,c,n=>rfl
  | .cons x a d r, c, n => by
    simp only [B.app,B.wild]
    generalize (if x.Kind=12 then n * x.N else n)=m
    split
    · rfl
    · rw [B.app_wild r c n];simp only [Option.or_assoc]
theorem B.app_size:∀ b c:B,(b.app c).size=b.size+c.size
  | .nil,c=>by simp [B.app,B.size]
  | .cons x a d r,c=>by simp only [B.app,B.size,B.app_size r c];omega
theorem B.app_depth:∀ b c:B,(b.app c).depth=max b.depth c.depth
  | .nil,c=>by simp [B.app,B.depth]
  | .cons x a d r, c => by
    simp only [B.app,B.depth,B.app_depth r c]
    split <;> omega
theorem B.app_okN {c:B} (hc:c.okN):∀ b:B,b.okN→(b.app c).okN
  | .nil,_=>hc
  | .cons x a d r,⟨h1,h2,h3,h4⟩=>⟨h1,h2,h3,B.app_okN hc r h4⟩
theorem OKB.ac {x:api_Stmt} {a c r:B} (h:OKB (.cons x a c r)):OKB (a.app c):=by
  have ha:=h.a
  have hc:=h.c
  obtain ⟨⟨p,hg⟩,hn,hs,hd⟩:=h
  have hdd:=Ls x a c r p hg
  simp only [B.size] at hs
  refine ⟨⟨inL x p,B.app_good hg.2.2.2.2.2.2.1 a hg.2.2.2.2.2.1⟩,B.app_okN hn.2.2.1 a hn.2.1,?_,?_⟩
  · rw [B.app_size];omega
  · rw [B.app_depth];omega
theorem Wl {l:List api_Stmt} {i:Nat} {x:api_Stmt} {a c r:B} (hl:l.length≤40) (hb:OKB (.cons x a c r)) (h:l.drop i=(B.cons x a c r).flat) :
    Dc l ((i+1:Nat):Int) ((i+1+a.size+c.size:Nat):Int)=some (a.app c).flat:=by
  obtain ⟨h1,h2,w1,w2,w3,s1,s2,s3,s4⟩:=parts hl hb h
  rw [show i+1+a.size+c.size=(i+1)+(a.size+c.size) from by omega,G9 (by omega)]
  have e:l.drop (i+1)=a.flat ++ (c.flat ++ r.flat):=by
    have:=congrArg (List.drop 1) h
    rw [List.drop_drop] at this
    simpa [B.flat] using this
  rw [e,← List.append_assoc,← B.app_flat,List.take_left']
  rw [B.flat_len,B.app_size]
theorem Iv:∀ (b:B) (n:Int) {v:Int},b.wild n=some v→∃ x∈b.flat,v=x.At
  | .nil,n,v,h=>by simp [B.wild] at h
  | .cons x a c r, n, v, h => by
    simp only [B.wild] at h
    generalize (if x.Kind=12 then n * x.N else n)=m at h
    split at h
    · injection h with h;exact ⟨x,.head _,h.symm⟩
    · rw [Option.or_eq_some_iff, Option.or_eq_some_iff] at h
      rcases h with (h | ⟨_,h⟩) | ⟨_,h⟩
      · obtain ⟨y,hy,e⟩:=Iv a _ h;exact ⟨y,by simp [B.flat,hy],e⟩
      · obtain ⟨y,hy,e⟩:=Iv c _ h;exact ⟨y,by simp [B.flat,hy],e⟩
      · obtain ⟨y,hy,e⟩:=Iv r _ h;exact ⟨y,by simp [B.flat,hy],e⟩
theorem Jah:∀ (f:Nat) (b:B),OKB b→(∀ x∈b.flat,0≤x.At)→b.size+2≤f→∀ m:Int,0≤m→m≤64→Z5b f b.flat m=some ((b.wild m).getD (-1)):=by
  intro f
  induction f with
  | zero=>intro b _ _ h;omega
  | succ f ih =>
    intro b hb hat hf m hm0 hm
    cases b with
    | nil=>rfl
    | cons x a c r =>
      have hl:(B.cons x a c r).flat.length≤40:=by rw [B.flat_len];exact hb.size
      obtain ⟨h1,h2,w2,w3,s1,s2,s3⟩:=Ov hb rfl
      have s5:=Wl (i:=0) hl hb List.drop_zero
      simp only [Nat.zero_add] at s5
      simp only [B.size] at hf
      have hac:∀ y∈(a.app c).flat,0≤y.At:=fun y hy=>hat y (by rw [B.app_flat] at hy;simp only [B.flat,List.mem_cons,List.mem_append];rcases List.mem_append.1 hy with h | h <;> simp [h])
      have hr:∀ y∈r.flat,0≤y.At:=fun y hy=>hat y (by simp [B.flat,hy])
      have next:∀ q:Int,0≤q→q=(if x.Kind=12 then m * x.N else m)→Z5c (Z5b f) (B.cons x a c r).flat m x q=some (((B.cons x a c r).wild m).getD (-1)):=by
        intro q hq0 hq
        rw [Z5c,B.wild,← hq]
        by_cases h64:64 < q
        · rw [if_pos h64,if_pos h64];rfl
        · rw [if_neg h64, if_neg h64]
          simp only [w2,w3]
          rw [show (1:Int)=((1:Nat):Int) from rfl,s5]
          simp only [Option.bind_some]
          rw [ih (a.app c) hb.ac hac (by rw [B.app_size];omega) q hq0 (by omega)]
          simp only [Option.bind_some]
          have hsp:=B.app_wild a c q
          cases hw:(a.app c).wild q with
          | some v =>
            rw [hw] at hsp
            obtain ⟨y,hy,e⟩:=Iv _ _ hw
            have:=hac y hy
            rw [← hsp,Option.getD_some,if_pos (by omega)];rfl
          | none =>
            rw [hw] at hsp
            rw [← hsp,Option.getD_none,if_neg (by decide),s3]
            simp only [Option.bind_some]
            rw [ih r hb.r hr (by omega) m hm0 hm];rfl
      generalize hl:(B.cons x a c r).flat=l at h1 h2 next
      rw [Z5b,if_neg (by omega),h2]
      simp only [Option.bind_some]
      by_cases k2:x.Kind=12
      · have hN := hb.okN.1 k2
        rw [if_pos k2]
        obtain ⟨u,rfl⟩:∃ u:Nat,m=(u:Int):=⟨m.toNat,by omega⟩
        obtain ⟨z,hz⟩:∃ z:Nat,x.N=(z:Int):=⟨x.N.toNat,by omega⟩
        have hb2:u * z≤64 * 8:=Nat.mul_le_mul (by omega) (by omega)
        have hw:IntKind.i64.wrap ((u:Int) * x.N)=(u:Int) * x.N:=by
          rw [hz,← Int.natCast_mul]
          generalize u * z=y at hb2
          rw [w64 (by omega) (by omega)]
        rw [hw]
        exact next _ (by rw [hz,← Int.natCast_mul];omega) (by rw [if_pos k2])
      · rw [if_neg k2]
        exact next m hm0 (by rw [if_neg k2])
def Hy:List (Str×Int)→List Str→Option Int
  | [],_=>none
  | e :: r,seen=>if e.1∈seen then some e.2 else Hy r (seen ++ [e.1])
def Hq (p:api_Prog):List (Str×Int):=(Be p).map (fun c=>(c.Name,c.At)) ++ (p.Locks.map (fun c=>(c.Name,c.At)) ++ p.Threads.map fun t=>(t.Name,t.At))
theorem Jq:∀ (a b:List Str) (s:Str) (k:Nat),Cd (a ++ b) s k=if s∈a then Cd a s k else Cd b s (k+a.length)
  | [],b,s,k=>by simp
  | x :: a, b, s, k => by
    simp only [List.cons_append,Cd,List.mem_cons,List.length_cons]
    by_cases h:x=s
    · rw [if_pos h,if_pos (.inl h.symm),if_pos h]
    · rw [if_neg h, if_neg h, Jq a b s (k + 1)]
      by_cases h2:s∈a
      · rw [if_pos h2,if_pos (.inr h2)]
      · rw [if_neg h2, if_neg (by rintro (q | q); exact h q.symm; exact h2 q)]
        congr 1;omega
theorem L9 {l:List Str} {j:Nat} (hj:j < l.length):Cd l (l[j]'hj) 0 < (j:Int)↔(l[j]'hj)∈l.take j:=by
  have e:l=l.take j ++ l.drop j:=(List.take_append_drop j l).symm
  have hlen:(l.take j).length=j:=by rw [List.length_take];omega
  have e2:Cd l (l[j]'hj) 0=Cd (l.take j ++ l.drop j) (l[j]'hj) 0:=by rw [← e]
  rw [e2,Jq]
  by_cases h:(l[j]'hj)∈l.take j
  · rw [if_pos h]
    have:=((Ci (l.take j) (l[j]'hj) 0).2 h).2
    rw [hlen] at this
    exact ⟨fun _=>h,fun _=>by omega⟩
  · rw [if_neg h, List.drop_eq_getElem_cons hj, Cd, if_pos rfl, hlen]
    exact ⟨fun q=>by omega,fun q=>absurd q h⟩
theorem Gp {l:List Str} {s:Str}:0≤Cd l s 0↔s∈l:=(Ci l s 0).1
def Wq (c:api_Cell):Str×Int:=(c.Name,c.At)
theorem Wi {l:List api_Cell} (hl:l.length≤200):∀ (d j n:Nat),j+d=l.length→d < n→Z56 1000001 Z54 l (l.map (·.Name)) n (j:Int)=some ((Hy ((l.drop j).map Wq) ((l.take j).map (·.Name))).getD (-1)):=by
  intro d
  induction d with
  | zero =>
    intro j n hj hn
    obtain ⟨n,rfl⟩:∃ m,n=m+1:=⟨n - 1,by omega⟩
    rw [Z56,if_neg (by omega),List.drop_of_length_le (by omega)]
    rfl
  | succ d ih =>
    intro j n hj hn
    obtain ⟨n,rfl⟩:∃ m,n=m+1:=⟨n - 1,by omega⟩
    have h1:j < l.length:=by omega
    rw [Z56,if_pos (by omega),Aw rfl h1]
    simp only [Option.bind_some]
    rw [C9 (by simp;omega) (by simp;omega)]
    simp only [Option.bind_some]
    rw [List.drop_eq_getElem_cons h1,List.map_cons,Hy]
    have hb:=L9 (l:=l.map (·.Name)) (j:=j) (by simpa using h1)
    rw [List.getElem_map,← List.map_take] at hb
    by_cases h:l[j].Name∈(l.take j).map (·.Name)
    · have h' : (Wq l[j]).1 ∈ (l.take j).map (·.Name) := h
      rw [if_pos (hb.2 h),if_pos h'];rfl
    · have h' : ¬ (Wq l[j]).1 ∈ (l.take j).map (·.Name) := h
      rw [if_neg (fun q=>h (hb.1 q)),if_neg h',Bd h1 (by omega),ih (j+1) n (by omega) (by omega),List.take_succ_eq_append_getElem h1,List.map_append]
      rfl
theorem Jaj {p:api_Prog} (hT:p.Threads.length≤100) (k:List api_Cell→Option Int):∀ (d j n:Nat) (out:List api_Cell),j+d=p.Threads.length→d < n→out.length≤1000+j→
    Z55 1000001 k p n out (j:Int)=k (out ++ (p.Threads.drop j).map fun t=>api_Cell.mk t.Name 0 t.At):=by
  intro d
  induction d with
  | zero =>
    intro j n out hj hn ho
    obtain ⟨n,rfl⟩:∃ m,n=m+1:=⟨n - 1,by omega⟩
    rw [Z55,if_neg (by omega),List.drop_of_length_le (by omega)]
    simp
  | succ d ih =>
    intro j n out hj hn ho
    obtain ⟨n,rfl⟩:∃ m,n=m+1:=⟨n - 1,by omega⟩
    have h1:j < p.Threads.length:=by omega
    rw [Z55,if_pos (by omega),Aw rfl h1]
    simp only [Option.bind_some]
    rw [Az (by simp;omega) (by decide)]
    simp only [Option.bind_some]
    rw [Bd h1 (by omega),ih (j+1) n _ (by omega) (by omega) (by simp;omega),List.drop_eq_getElem_cons h1,List.map_cons,List.append_assoc]
    rfl
theorem Yy {p:api_Prog} (hp:SmallP p):Z52 1000001 p=some ((Hy (Hq p) []).getD (-1)):=by
  have h1:=hp.locks
  have h2:=hp.threads
  have hC:=Cf hp
  unfold Z52
  rw [Il (N:=1000001) (by decide) hp]
  simp only [Option.bind_some]
  rw [Az (by simp;omega) (by decide)]
  simp only [Option.bind_some,List.nil_append]
  rw [Az (by omega) (by decide)]
  simp only [Option.bind_some]
  rw [show (0:Int)=((0:Nat):Int) from rfl,Jaj (by omega) _ p.Threads.length 0 1000001 _ (by omega) (by omega) (by simp;omega),List.drop_zero,Z53]
  have hl:(Be p ++ p.Locks ++ p.Threads.map fun t=>api_Cell.mk t.Name 0 t.At).length≤200:=by simp;omega
  rw [Kv (N:=1000001) (by decide) hl]
  simp only [Option.bind_some]
  have e:=Wi hl _ 0 1000001 (Nat.zero_add _) (by omega)
  rw [List.drop_zero,List.take_zero] at e
  refine Eq.trans e ?_
  congr 2
  unfold Hq
  simp only [List.map_append,List.append_assoc,List.map_map]
  rfl
def Lh (p:api_Prog):List Str:=(Be p).map (·.Name) ++ p.Locks.map (·.Name)
def Ni:List Str→List Str→Bool
  | _,[]=>false
  | K,s :: r=>if s∈K then true else Ni (K ++ [s]) r
theorem Ka {p:api_Prog} {s:Str}:s∈Lh p↔s∈(Be p).map (·.Name)∨s∈p.Locks.map (·.Name):=by
  unfold Lh;exact List.mem_append
theorem Qp {p:api_Prog} (hp:SmallP p) {l:List api_Thread} {i:Nat} (hi:i < l.length) (hr:l[i].Regs.length≤200) (k:Option (Int×Int)):∀ (d j n:Nat),j+d=l[i].Regs.length→d < n→
    Z45 1000001 k p l (i:Int) n (j:Int)=if Ni (Lh p ++ l[i].Regs.take j) (l[i].Regs.drop j)=true then some (10,l[i].At) else k:=by
  intro d
  have hC:=Cf hp
  have hL:=hp.locks
  induction d with
  | zero =>
    intro j n hj hn
    obtain ⟨n,rfl⟩:∃ m,n=m+1:=⟨n - 1,by omega⟩
    rw [Z45,Aw rfl hi]
    simp only [Option.bind_some]
    rw [if_neg (by omega),List.drop_of_length_le (by omega)]
    simp [Ni]
  | succ d ih =>
    intro j n hj hn
    obtain ⟨n,rfl⟩:∃ m,n=m+1:=⟨n - 1,by omega⟩
    have h1:j < l[i].Regs.length:=by omega
    rw [Z45,Aw rfl hi]
    simp only [Option.bind_some]
    rw [if_pos (by omega),Aw rfl h1]
    simp only [Option.bind_some]
    rw [C9 (by omega) (by omega)]
    simp only [Option.bind_some]
    rw [List.drop_eq_getElem_cons h1,Ni]
    have hb:=L9 h1
    by_cases h:l[i].Regs[j]∈l[i].Regs.take j
    · rw [if_pos (hb.2 h),if_pos (List.mem_append_right _ h),Z3z,if_pos rfl];rfl
    · rw [if_neg (fun q => h (hb.1 q)), Gf (N := 1000001) (by decide) hp]
      simp only [Option.bind_some]
      rw [C9 (by simp;omega) (by simp;omega)]
      simp only [Option.bind_some]
      by_cases h2:l[i].Regs[j]∈(Be p).map (·.Name)
      · rw [if_pos (Gp.2 h2),if_pos (List.mem_append_left _ (Ka.2 (.inl h2))),Z3z,if_pos rfl];rfl
      · rw [if_neg (fun q => h2 (Gp.1 q)), Ji (N := 1000001) (by decide) hp]
        simp only [Option.bind_some]
        rw [C9 (by simp;omega) (by simp;omega)]
        simp only [Option.bind_some]
        by_cases h3:l[i].Regs[j]∈p.Locks.map (·.Name)
        · rw [decide_eq_true (Gp.2 h3),if_pos (List.mem_append_left _ (Ka.2 (.inr h3))),Z3z,if_pos rfl];rfl
        · have h4 : ¬ l[i].Regs[j]∈Lh p ++ l[i].Regs.take j:=by
            intro q
            rcases List.mem_append.1 q with q | q
            · rcases Ka.1 q with q | q
              · exact h2 q
              · exact h3 q
            · exact h q
          rw [decide_eq_false (fun q=>h3 (Gp.1 q)),if_neg h4,Z3z,if_neg (by decide),Bd h1 (by omega),ih (j+1) n (by omega) (by omega),List.take_succ_eq_append_getElem h1,List.append_assoc]
theorem Pr:∀ (l K:List Str),Ni K l=false→∀ s∈l,s ∉ K
  | [],_,_,s,hs=>by cases hs
  | x :: l, K, h, s, hs => by
    rw [Ni] at h
    split at h
    · cases h
    · rename_i hx
      rcases List.mem_cons.1 hs with rfl | hs
      · exact hx
      · exact fun q=>Pr l _ h s hs (List.mem_append_left _ q)
def A1 (p:api_Prog):List Str:=p.Lines.flatten.map (·.Name)
def A2 (p:api_Prog):List Str:=p.Vols.map (·.Name)
def K1 (p:api_Prog):List Str:=p.Locks.map (·.Name)
def He (p:api_Prog) (G:List Str) (s:Str):Int:=if s∈A1 p then 1 else if s∈A2 p then 2 else if s∈K1 p then 3 else if s∈G then 5 else 0
theorem Da (p:api_Prog):(Be p).map (·.Name)=A1 p ++ A2 p:=by simp [Be,A1,A2]
structure Apt (p:api_Prog) (G:List Str):Prop where
  locks:∀ s∈K1 p,s ∉ A1 p ++ A2 p
  regs:∀ s∈G,s ∉ A1 p ++ A2 p∧s ∉ K1 p
theorem Jbw {p:api_Prog} {G:List Str} {s:Str}:He p G s=1↔s∈A1 p:=by
  unfold He;split
  · simp [*]
  · split
    · simp [*]
    · split
      · simp [*]
      · split <;> simp [*]
theorem Ym {p:api_Prog} {G:List Str} {s:Str}:(He p G s=1∨He p G s=2)↔s∈A1 p ++ A2 p:=by
  unfold He;rw [List.mem_append];split
  · simp [*]
  · split
    · simp [*]
    · split
      · simp [*]
      · split <;> simp [*]
theorem Jbk {p:api_Prog} {G:List Str} (ha:Apt p G) {s:Str}:He p G s=3↔s∈K1 p:=by
  have h:=ha.locks s
  rw [List.mem_append] at h
  unfold He;split
  · rename_i q;simp only [show ¬ (1:Int)=3 by decide,false_iff];exact fun k=>h k (.inl q)
  · split
    · rename_i q;simp only [show ¬ (2:Int)=3 by decide,false_iff];exact fun k=>h k (.inr q)
    · split
      · simp [*]
      · split <;> simp [*]
theorem T8 {p:api_Prog} {G:List Str} (ha:Apt p G) {s:Str}:He p G s=5↔s∈G:=by
  have h:=ha.regs s
  rw [List.mem_append] at h
  unfold He;split
  · rename_i q;simp only [show ¬ (1:Int)=5 by decide,false_iff];exact fun k=>(h k).1 (.inl q)
  · split
    · rename_i q;simp only [show ¬ (2:Int)=5 by decide,false_iff];exact fun k=>(h k).1 (.inr q)
    · split
      · rename_i q;simp only [show ¬ (3:Int)=5 by decide,false_iff];exact fun k=>(h k).2 q
      · split <;> simp [*]
structure use0 where
  name:Str
  at':Int
  may:List Int
def Jas (l:List api_Node):List use0:=l.filterMap fun x=>if x.Op=2 then some ⟨x.Name,x.At,[5]⟩ else none
def Ky (k:Int):List Int:=if k=5∨k=6 then [1] else if k=9∨k=10 then [3] else [1,2]
def JbX (x:api_Stmt):List use0:=(if x.Reg≠[] then [⟨x.Reg,x.At,[5]⟩] else []) ++ ((if x.Name≠[] then [⟨x.Name,x.At,Ky x.Kind⟩] else []) ++ (Jas x.E ++ Jas x.F))
theorem Ih {l:List Str} {s:Str} (h:s ∉ l) (k:Nat):Cd l s k < 0:=by
  have:=(Ci l s k).1
  have h2:=fun z=>h (this.1 z)
  exact Int.not_le.1 h2
def Vf (p:api_Prog) (G:List Str) (u:use0):Option Int:=if He p G u.name∈u.may then none else some u.at'
def Nb (p:api_Prog) (G:List Str) (x:api_Stmt):Option Int:=(JbX x).findSome? (Vf p G)
def Gi (names:List Str) (x:api_Node):Option Int:=if x.Op=2∧x.Name ∉ names then some x.At else none
theorem Tn {l:List api_Node} {names:List Str} (hl:l.length≤1000) (hnm:names.length≤1000):∀ (d j n:Nat),j+d=l.length→d < n→
    Z5a 1000001 Z58 l names n (j:Int)=some (((l.drop j).findSome? (Gi names)).getD (-1)):=by
  intro d
  induction d with
  | zero =>
    intro j n hj hn
    obtain ⟨n,rfl⟩:∃ m,n=m+1:=⟨n - 1,by omega⟩
    rw [Z5a,if_neg (by omega),List.drop_of_length_le (by omega)];rfl
  | succ d ih =>
    intro j n hj hn
    obtain ⟨n,rfl⟩:∃ m,n=m+1:=⟨n - 1,by omega⟩
    have h1:j < l.length:=by omega
    rw [Z5a,if_pos (by omega),Aw rfl h1]
    simp only [Option.bind_some]
    rw [List.drop_eq_getElem_cons h1,List.findSome?_cons]
    have go:Z59 (Z5a 1000001 Z58 l names n) l (j:Int) false=some (((l.drop (j+1)).findSome? (Gi names)).getD (-1)):=by
      rw [Z59,if_neg (by decide),Bd h1 (by omega),ih (j+1) n (by omega) (by omega)]
    by_cases h:l[j].Op=2
    · rw [if_pos h, C9 hnm (by omega)]
      simp only [Option.bind_some]
      by_cases q:l[j].Name∈names
      · rw [decide_eq_false (fun k=>by have:=(Gp (l:=names) (s:=l[j].Name)).2 q;omega),go,Gi,if_neg (fun k=>k.2 q)]
      · rw [decide_eq_true (Ih q 0), Z59, if_pos rfl, Aw rfl h1, Gi, if_pos ⟨h, q⟩]
        rfl
    · rw [if_neg h,go,Gi,if_neg (fun k=>h k.1)]
theorem Lx {l:List api_Node} {names:List Str} (hl:l.length≤1000) (hn:names.length≤1000):Z57 1000001 l names=some ((l.findSome? (Gi names)).getD (-1)):=by
  have:=Tn hl hn l.length 0 1000001 (by omega) (by omega)
  rw [List.drop_zero] at this
  exact this
theorem Mx {p:api_Prog} {G:List Str} (ha:Apt p G):∀ l:List api_Node,(Jas l).findSome? (Vf p G)=l.findSome? (Gi G)
  | []=>rfl
  | x :: l => by
    rw [List.findSome?_cons,← Mx ha l]
    unfold Jas
    rw [List.filterMap_cons]
    by_cases h:x.Op=2
    · rw [if_pos h]
      simp only [List.findSome?_cons,Vf,Gi,List.mem_cons,List.not_mem_nil,or_false]
      by_cases q:x.Name∈G
      · rw [if_pos ((T8 ha).2 q),if_neg (fun k=>k.2 q)]
      · rw [if_neg (fun k=>q ((T8 ha).1 k)),if_pos ⟨h,q⟩]
    · rw [if_neg h]
      simp only [Gi,if_neg (fun k:x.Op=2∧x.Name ∉ G=>h k.1)]
theorem Qx {α:Type} {f:α→Option Int} {l:List α} {v:Int} (h:l.findSome? f=some v):∃ x∈l,f x=some v:=List.exists_of_findSome?_eq_some h
theorem Xq {names:List Str} {l:List api_Node} (hl:∀ x∈l,0≤x.At) {v:Int} (h:l.findSome? (Gi names)=some v):0≤v:=by
  obtain ⟨x,hx,e⟩:=Qx h
  unfold Gi at e
  split at e
  · injection e with e;subst e;exact hl x hx
  · cases e
theorem N3 {x:api_Stmt} (h:Dr x=true):(x.Name=[]↔¬ (x.Kind=2∨x.Kind=3∨x.Kind=4∨x.Kind=5∨x.Kind=6∨x.Kind=9∨x.Kind=10)):=by
  simp only [Dr,Bool.and_eq_true,decide_eq_true_eq] at h
  obtain ⟨⟨hk,_⟩,_,ht,_⟩:=h
  have cases14:x.Kind=1∨x.Kind=2∨x.Kind=3∨x.Kind=4∨x.Kind=5∨x.Kind=6∨x.Kind=7∨x.Kind=8∨x.Kind=9∨x.Kind=10∨x.Kind=11∨x.Kind=12∨x.Kind=13∨x.Kind=14:=by omega
  have nn:∀ s:Str,Dj s=true→s≠[]:=by intro s hs e;subst e;simp [Dj] at hs
  rcases cases14 with k | k | k | k | k | k | k | k | k | k | k | k | k | k <;> rw [k] at ht ⊢ <;>
    first
    | (have ht':Gl true x.Name=true:=ht;have:=nn _ (by simpa [Gl] using ht');simp [this])
    | (have ht' : Gl false x.Name = true := ht; have : x.Name = [] := by simpa [Gl] using ht'
       simp [this])
theorem Yk {is:Bool} {l:List api_Node} (h:Fy is l=true):l.length≤40∧∀ x∈l,0≤x.At∧x.At≤4000:=by
  unfold Fy at h
  split at h
  · have h' : ∃ t, RightE l t := by unfold Fc at h; simpa using h
    obtain ⟨t,ht⟩:=h'
    refine ⟨ht.len,fun x hx=>?_⟩
    have:=ht.may x hx
    unfold Ku at this
    rw [Bool.and_eq_true,decide_eq_true_eq] at this
    exact this.1
  · have := of_decide_eq_true h
    subst this
    exact ⟨by simp,fun x hx=>by cases hx⟩
theorem Oi {x:api_Stmt} (h:Dr x=true):(0≤x.At∧x.At≤4000)∧(x.E.length≤40∧∀ y∈x.E,0≤y.At∧y.At≤4000)∧(x.F.length≤40∧∀ y∈x.F,0≤y.At∧y.At≤4000):=by
  simp only [Dr,Bool.and_eq_true,decide_eq_true_eq] at h
  obtain ⟨⟨hk,_⟩,_,_,he,hf⟩:=h
  exact ⟨⟨hk.2.2.1,hk.2.2.2⟩,Yk he,Yk hf⟩
def Jd (p:api_Prog) (G:List Str) (x:api_Stmt):Option Int:=if x.Name≠[]∧He p G x.Name ∉ Ky x.Kind then some x.At else none
def Ja7 (G:List Str) (x:api_Stmt):Option Int:=if x.Reg≠[]∧x.Reg ∉ G then some x.At else none
theorem Om {p:api_Prog} {G:List Str} (ha:Apt p G) (x:api_Stmt):Nb p G x=(Ja7 G x).or ((Jd p G x).or ((x.E.findSome? (Gi G)).or (x.F.findSome? (Gi G)))):=by
  unfold Nb JbX
  rw [List.findSome?_append,List.findSome?_append,List.findSome?_append,Mx ha,Mx ha]
  congr 1
  · unfold Ja7
    by_cases h:x.Reg≠[]
    · rw [if_pos h]
      simp only [List.findSome?_cons,List.findSome?_nil,Vf,List.mem_cons,List.not_mem_nil,or_false]
      by_cases q:x.Reg∈G
      · rw [if_pos ((T8 ha).2 q),if_neg (fun k=>k.2 q)]
      · rw [if_neg (fun k=>q ((T8 ha).1 k)),if_pos ⟨h,q⟩]
    · rw [if_neg h,if_neg (fun k=>h k.1)];rfl
  · congr 1
    unfold Jd
    by_cases h:x.Name≠[]
    · rw [if_pos h]
      simp only [List.findSome?_cons,List.findSome?_nil,Vf]
      by_cases q:He p G x.Name∈Ky x.Kind
      · rw [if_pos q,if_neg (fun k=>k.2 q)]
      · rw [if_neg q,if_pos ⟨h,q⟩]
    · rw [if_neg h,if_neg (fun k=>h k.1)];rfl
theorem JaI {t:api_Thread} {x:api_Stmt} (hx:Dr x=true) (hr:t.Regs.length≤1000):Z4x 1000001 t x=some (((x.E.findSome? (Gi t.Regs)).or (x.F.findSome? (Gi t.Regs))).getD (-1)):=by
  obtain ⟨_,⟨he,hea⟩,⟨hf,_⟩⟩:=Oi hx
  rw [Z4x,Lx (by omega) hr]
  simp only [Option.bind_some]
  cases h:x.E.findSome? (Gi t.Regs) with
  | some v =>
    have:=Xq (fun y hy=>(hea y hy).1) h
    rw [if_pos (by simpa using this)];rfl
  | none =>
    rw [if_neg (by simp),Lx (by omega) hr];rfl
theorem Td {p:api_Prog} (hp:SmallP p) {x:api_Stmt} {G:List Str} (ha:Apt p G) (hx:Dr x=true) (k:Option Int) :
    (if x.Kind=2 then Z4y 1000001 k p x (Cd ((Be p).map (·.Name)) x.Name 0) (decide (x.Kind=2)) else
      if x.Kind=3 then Z4y 1000001 k p x (Cd ((Be p).map (·.Name)) x.Name 0) (decide (x.Kind=3)) else
        Z4y 1000001 k p x (Cd ((Be p).map (·.Name)) x.Name 0) (decide (x.Kind=4)))=(match Jd p G x with | some v=>some v | none=>k):=by
  have hC:=Cf hp
  have hL:=hp.locks
  have hn:=N3 hx
  have ix:=Gp (l:=(Be p).map (·.Name)) (s:=x.Name)
  have e1:(if x.Kind=2 then Z4y 1000001 k p x (Cd ((Be p).map (·.Name)) x.Name 0) (decide (x.Kind=2)) else
      if x.Kind=3 then Z4y 1000001 k p x (Cd ((Be p).map (·.Name)) x.Name 0) (decide (x.Kind=3)) else
        Z4y 1000001 k p x (Cd ((Be p).map (·.Name)) x.Name 0) (decide (x.Kind=4)))=Z4y 1000001 k p x (Cd ((Be p).map (·.Name)) x.Name 0) (decide (x.Kind=2∨x.Kind=3∨x.Kind=4)):=by
    by_cases h2:x.Kind=2
    · rw [if_pos h2,decide_eq_true h2,decide_eq_true (.inl h2)]
    · rw [if_neg h2]
      by_cases h3:x.Kind=3
      · rw [if_pos h3,decide_eq_true h3,decide_eq_true (.inr (.inl h3))]
      · rw [if_neg h3];congr 1;exact decide_eq_decide.2 (by omega)
  rw [e1,Z4y]
  by_cases c1:x.Kind=2∨x.Kind=3∨x.Kind=4
  · have hne : x.Name ≠ [] := fun e => hn.1 e (by omega)
    have hm:Ky x.Kind=[1,2]:=by unfold Ky;rw [if_neg (by omega),if_neg (by omega)]
    rw [decide_eq_true c1,if_pos rfl,Jd,hm]
    have hw:=Ym (p:=p) (G:=G) (s:=x.Name)
    rw [← Da] at hw
    simp only [List.mem_cons,List.not_mem_nil,or_false]
    by_cases q:x.Name∈(Be p).map (·.Name)
    · rw [if_neg (by have:=ix.2 q;omega),if_neg (fun z=>z.2 (hw.2 q))]
    · rw [if_pos (Ih q 0),if_pos ⟨hne,fun z=>q (hw.1 z)⟩]
  rw [decide_eq_false c1,if_neg (by decide)]
  have e2:(if x.Kind=5 then Z4z 1000001 k p x (Cd ((Be p).map (·.Name)) x.Name 0) (decide (x.Kind=5)) else Z4z 1000001 k p x (Cd ((Be p).map (·.Name)) x.Name 0) (decide (x.Kind=6))) =
      Z4z 1000001 k p x (Cd ((Be p).map (·.Name)) x.Name 0) (decide (x.Kind=5∨x.Kind=6)):=by
    by_cases h2:x.Kind=5
    · rw [if_pos h2,decide_eq_true h2,decide_eq_true (.inl h2)]
    · rw [if_neg h2];congr 1;exact decide_eq_decide.2 (by omega)
  rw [e2,Z4z]
  by_cases c2:x.Kind=5∨x.Kind=6
  · have hne : x.Name ≠ [] := fun e => hn.1 e (by omega)
    have hm:Ky x.Kind=[1]:=if_pos c2
    rw [decide_eq_true c2,if_pos rfl,Jd,hm]
    simp only [List.mem_cons,List.not_mem_nil,or_false]
    have hw:=Jbw (p:=p) (G:=G) (s:=x.Name)
    have hA:(A1 p).length=p.Lines.flatten.length:=List.length_map _
    have hi:=Jq (A1 p) (A2 p) x.Name 0
    have hn1:=Ci (A1 p) x.Name 0
    have hn2:=Ci (A2 p) x.Name (0+(A1 p).length)
    rw [Da] at ix ⊢
    by_cases q:x.Name∈A1 p
    · rw [if_pos q] at hi
      have h1:=hn1.2 q
      rw [hi,if_neg (by omega),Hu (N:=1000001) (by decide) hp]
      simp only [Option.bind_some]
      rw [Z50,decide_eq_false (by omega),if_neg (by decide),if_neg (fun z=>z.2 (hw.2 q))]
    · rw [if_neg q] at hi
      rw [hi]
      by_cases q2:x.Name∈A2 p
      · have h1 := hn2.2 q2
        rw [if_neg (by omega),Hu (N:=1000001) (by decide) hp]
        simp only [Option.bind_some]
        rw [Z50,decide_eq_true (by omega),if_pos rfl,if_pos ⟨hne,fun z=>q (hw.1 z)⟩]
      · rw [if_pos (Ih q2 _),Z50,if_pos rfl,if_pos ⟨hne,fun z=>q (hw.1 z)⟩]
  rw [decide_eq_false c2,if_neg (by decide)]
  have e3:(if x.Kind=9 then Z51 1000001 k p x (decide (x.Kind=9)) else Z51 1000001 k p x (decide (x.Kind=10)))=Z51 1000001 k p x (decide (x.Kind=9∨x.Kind=10)):=by
    by_cases h2:x.Kind=9
    · rw [if_pos h2,decide_eq_true h2,decide_eq_true (.inl h2)]
    · rw [if_neg h2];congr 1;exact decide_eq_decide.2 (by omega)
  rw [e3,Z51]
  by_cases c3:x.Kind=9∨x.Kind=10
  · have hne : x.Name ≠ [] := fun e => hn.1 e (by omega)
    rw [decide_eq_true c3,if_pos rfl,Ji (N:=1000001) (by decide) hp]
    simp only [Option.bind_some]
    have hm:Ky x.Kind=[3]:=by unfold Ky;rw [if_neg c2,if_pos c3]
    rw [C9 (by simp;omega) (by simp;omega),Jd,hm]
    simp only [Option.bind_some,List.mem_cons,List.not_mem_nil,or_false]
    have hw:=Jbk ha (s:=x.Name)
    have iy:=Gp (l:=p.Locks.map (·.Name)) (s:=x.Name)
    by_cases q:x.Name∈p.Locks.map (·.Name)
    · rw [if_neg (by have:=iy.2 q;omega),if_neg (fun z=>z.2 (hw.2 q))]
    · rw [if_pos (Ih q 0),if_pos ⟨hne,fun z=>q (hw.1 z)⟩]
  · rw [decide_eq_false c3,if_neg (by decide),Jd,if_neg (fun z=>z.1 (hn.2 (by omega)))]
theorem JaF {p:api_Prog} (hp:SmallP p) {t:api_Thread} (hr:t.Regs.length≤1000) {x:api_Stmt} (ha:Apt p t.Regs) (hx:Dr x=true):Z4v 1000001 p t x=some ((Nb p t.Regs x).getD (-1)):=by
  have hC:=Cf hp
  rw [Om ha]
  have go:Z4w 1000001 p t x false=some (((Jd p t.Regs x).or ((x.E.findSome? (Gi t.Regs)).or (x.F.findSome? (Gi t.Regs)))).getD (-1)):=by
    rw [Z4w,if_neg (by decide),Gf (N:=1000001) (by decide) hp]
    simp only [Option.bind_some]
    rw [C9 (by simp;omega) (by simp;omega)]
    simp only [Option.bind_some]
    rw [Td hp ha hx,JaI hx hr]
    cases Jd p t.Regs x <;> rfl
  unfold Z4v Ja7
  by_cases h:x.Reg≠[]
  · rw [if_pos h, C9 hr (by omega)]
    simp only [Option.bind_some]
    have ix:=Gp (l:=t.Regs) (s:=x.Reg)
    by_cases q:x.Reg∈t.Regs
    · rw [decide_eq_false (by have:=ix.2 q;omega),go,if_neg (fun z=>z.2 q),Option.none_or]
    · rw [decide_eq_true (Ih q 0),Z4w,if_pos rfl,if_pos ⟨h,q⟩];rfl
  · rw [if_neg h,go,if_neg (fun z=>h z.1),Option.none_or]
theorem JaE {p:api_Prog} {G:List Str} {x:api_Stmt} (hx:Dr x=true) {v:Int} (h:Nb p G x=some v):0≤v∧v≤4000:=by
  obtain ⟨h1,⟨_,h2⟩,⟨_,h3⟩⟩:=Oi hx
  obtain ⟨u,hu,e⟩:=Qx h
  have hv:u.at'=v:=by
    unfold Vf at e;split at e
    · cases e
    · exact Option.some.inj e
  subst hv
  simp only [JbX,List.mem_append] at hu
  have node:∀ {l:List api_Node},(∀ y∈l,0≤y.At∧y.At≤4000)→u∈Jas l→0≤u.at'∧u.at'≤4000:=by
    intro l hl hu
    obtain ⟨y,hy,e⟩:=List.mem_filterMap.1 hu
    split at e
    · injection e with e;subst e;exact hl y hy
    · cases e
  rcases hu with hu | hu | hu | hu
  · split at hu
    · simp only [List.mem_cons,List.not_mem_nil,or_false] at hu;subst hu;exact h1
    · cases hu
  · split at hu
    · simp only [List.mem_cons,List.not_mem_nil,or_false] at hu;subst hu;exact h1
    · cases hu
  · exact node h2 hu
  · exact node h3 hu
structure PB (p:api_Prog):Prop where
  line:∀ l∈p.Lines,Lb l=true
  vols:∀ c∈p.Vols,cellB 4294967296 c=true
  locks:∀ c∈p.Locks,cellB 0 c=true
  recover:p.Recover.length≤1
  named:∀ t∈p.Threads,Ho t=true
  unnamed:∀ t∈p.Recover,Ev t=true
  claims:∀ c∈p.Claims,Hj c=true
theorem Nq {p:api_Prog}:Nu p=true↔PB p:=by
  simp only [Nu,Bool.and_eq_true,List.all_eq_true,decide_eq_true_eq]
  exact ⟨fun ⟨a,b,c,d,e,f,g⟩=>⟨a,b,c,d,e,f,g⟩,fun ⟨a,b,c,d,e,f,g⟩=>⟨a,b,c,d,e,f,g⟩⟩
theorem Md {a:Int}:Hn a=true↔0≤a∧a≤4000:=by simp [Hn]
theorem Qs {m:Int} {c:api_Cell} (h:cellB m c=true):0≤c.At∧c.At≤4000:=by
  unfold cellB at h;rw [Bool.and_eq_true] at h;exact Md.1 h.2
theorem PB.cell {p:api_Prog} (h:PB p):∀ c∈Be p,cellB 4294967296 c=true:=by
  intro c hc
  rcases List.mem_append.1 hc with hc | hc
  · obtain ⟨l, hl, hcl⟩ := List.mem_flatten.1 hc
    have:=h.line l hl
    unfold Lb at this
    rw [Bool.and_eq_true,List.all_eq_true] at this
    exact this.2 c hcl
  · exact h.vols c hc
theorem PB.thread {p:api_Prog} (h:PB p):∀ t∈D9 p,Fl t=true:=by
  intro t ht
  rcases List.mem_append.1 ht with ht | ht
  · have:=h.named t ht;unfold Ho at this;rw [Bool.and_eq_true] at this;exact this.2
  · have:=h.unnamed t ht;unfold Ev at this;rw [Bool.and_eq_true] at this;exact this.2
theorem Gn {t:api_Thread} (h:Fl t=true):(0≤t.At∧t.At≤4000)∧(∀ s∈t.Regs,Dj s=true)∧∃ b,RB t.Body b:=by
  unfold Fl at h
  rw [Bool.and_eq_true,Bool.and_eq_true,List.all_eq_true] at h
  exact ⟨Md.1 h.1,h.2.1,Tc.1 h.2.2⟩
theorem Vo {p:api_Prog} (h:PB p):∀ e∈Hq p,0≤e.2∧e.2≤4000:=by
  intro e he
  simp only [Hq,List.mem_append,List.mem_map] at he
  rcases he with ⟨x,hx,rfl⟩ | ⟨x,hx,rfl⟩ | ⟨x,hx,rfl⟩
  · exact Qs (h.cell x hx)
  · exact Qs (h.locks x hx)
  · exact (Gn (h.thread x (List.mem_append_left _ hx))).1
theorem Ui:∀ {l:List (Str×Int)} {seen:List Str} {v:Int},Hy l seen=some v→∃ e∈l,e.2=v
  | [],_,_,h=>by simp [Hy] at h
  | e :: l, seen, v, h => by
    rw [Hy] at h
    split at h
    · exact ⟨e,.head _,Option.some.inj h⟩
    · obtain ⟨x,h1,h2⟩:=Ui h;exact ⟨x,.tail _ h1,h2⟩
theorem M9:∀ (a b:List (Str×Int)) (seen:List Str),Hy (a ++ b) seen=none→Hy a seen=none∧Hy b (seen ++ a.map (·.1))=none
  | [],b,seen,h=>⟨rfl,by simpa using h⟩
  | e :: a, b, seen, h => by
    simp only [List.cons_append,Hy] at h ⊢
    split at h
    · cases h
    · rename_i q
      have:=M9 a b _ h
      rw [if_neg q]
      refine ⟨this.1,?_⟩
      have:=this.2
      rw [List.append_assoc] at this
      simpa using this
theorem Ro:∀ (l:List (Str×Int)) (seen:List Str),Hy l seen=none→∀ e∈l,e.1 ∉ seen
  | [],_,_,e,he=>by cases he
  | x :: l, seen, h, e, he => by
    rw [Hy] at h
    split at h
    · cases h
    · rename_i q
      rcases List.mem_cons.1 he with rfl | he
      · exact q
      · exact fun k=>Ro l _ h e he (List.mem_append_left _ k)
theorem Yj {p:api_Prog} {G:List Str} (h1:Hy (Hq p) []=none) (h2:Ni (Lh p) G=false):Apt p G:=by
  have h3:=(M9 _ _ _ h1).2
  have h4:=(M9 _ _ _ h3).1
  refine ⟨fun s hs=>?_,fun s hs=>?_⟩
  · obtain ⟨c, hc, rfl⟩ := List.mem_map.1 hs
    have:=Ro _ _ h4 (c.Name,c.At) (List.mem_map.2 ⟨c,hc,rfl⟩)
    rw [← Da]
    simpa [Function.comp_def] using this
  · have := Pr G _ h2 s hs
    rw [Ka,Da,not_or] at this
    exact this
def Lj (t:api_Thread):Option Int:=(Z5b 1000001 t.Body 1).bind fun r=>if r = -1 then none else some r
theorem Xp {t:api_Thread} {o:Option Int} (h:Z5b 1000001 t.Body 1=some (o.getD (-1))) (ho:∀ v,o=some v→0≤v):Lj t=o:=by
  unfold Lj;rw [h]
  cases o with
  | none=>rfl
  | some v =>
    have:=ho v rfl
    show (if v = -1 then none else some v)=_
    rw [if_neg (by omega)]
theorem Jb2 {t:api_Thread} (h:Fl t=true):True∧Z5b 1000001 t.Body 1=some ((Lj t).getD (-1))∧∀ v,Lj t=some v→0≤v∧v≤4000:=by
  obtain ⟨_,_,b,hb⟩:=Gn h
  have hat:∀ x∈b.flat,0≤x.At∧x.At≤4000:=fun x hx=>(Oi (hb.fits x (by rw [hb.flat];exact hx))).1
  have hlen:b.size≤40:=by have:=hb.len;rw [hb.flat,B.flat_len] at this;exact this
  have e2:=Jah 1000001 b hb.ok (fun x hx=>(hat x hx).1) (by omega) 1 (by decide) (by decide)
  rw [← hb.flat] at e2
  rw [Xp e2 (fun v hv=>by obtain ⟨x,hx,rfl⟩:=Iv b 1 hv;exact (hat x hx).1)]
  refine ⟨trivial,e2,fun v hv=>?_⟩
  obtain ⟨x,hx,rfl⟩:=Iv b 1 hv
  exact hat x hx
def out (c:Int) (o:Option Int) (k:Option (Int×Int)):Option (Int×Int):=match o with | some v=>some (c,v) | none=>k
theorem Jb6 {l:List api_Thread} (hl:l.length≤1000) (ht:∀ t∈l,Fl t=true) (k:Option (Int×Int)):∀ (d j n:Nat),j+d=l.length→d < n→Z43 1000001 k l n (j:Int)=out 11 ((l.drop j).findSome? Lj) k:=by
  intro d
  induction d with
  | zero =>
    intro j n hj hn
    obtain ⟨n,rfl⟩:∃ m,n=m+1:=⟨n - 1,by omega⟩
    rw [Z43,if_neg (by omega),List.drop_of_length_le (by omega)];rfl
  | succ d ih =>
    intro j n hj hn
    obtain ⟨n,rfl⟩:∃ m,n=m+1:=⟨n - 1,by omega⟩
    have h1:j < l.length:=by omega
    have hw:=Jb2 (ht _ (List.getElem_mem h1))
    rw [Z43,if_pos (by omega),Aw rfl h1]
    simp only [Option.bind_some]
    rw [hw.2.1,List.drop_eq_getElem_cons h1,List.findSome?_cons]
    simp only [Option.bind_some]
    cases hv:Lj l[j] with
    | some v=>rw [if_pos (by have:=(hw.2.2 v hv).1;simpa using this)];rfl
    | none=>rw [if_neg (by simp),Bd h1 (by omega),ih (j+1) n (by omega) (by omega)]
def Qj (p:api_Prog) (t:api_Thread):Option Int:=if Ni (Lh p) t.Regs=true then some t.At else none
theorem JbN {p:api_Prog} (hp:SmallP p) {l:List api_Thread} (hl:l.length≤1000) (ht:∀ t∈l,SmallT t) (k:Option (Int×Int)):∀ (d j n:Nat),j+d=l.length→d < n→Z44 1000001 k p l n (j:Int)=out 10 ((l.drop j).findSome? (Qj p)) k:=by
  intro d
  induction d with
  | zero =>
    intro j n hj hn
    obtain ⟨n,rfl⟩:∃ m,n=m+1:=⟨n - 1,by omega⟩
    rw [Z44,if_neg (by omega),List.drop_of_length_le (by omega)];rfl
  | succ d ih =>
    intro j n hj hn
    obtain ⟨n,rfl⟩:∃ m,n=m+1:=⟨n - 1,by omega⟩
    have h1:j < l.length:=by omega
    have hs:=ht _ (List.getElem_mem h1)
    rw [Z44,if_pos (by omega),show (0:Int)=((0:Nat):Int) from rfl,Qp hp h1 (by have:=hs.regs;omega) _ l[j].Regs.length 0 1000001 (by omega) (by have:=hs.regs;omega),
      List.take_zero,List.append_nil,List.drop_zero,List.drop_eq_getElem_cons h1,List.findSome?_cons]
    unfold Qj
    cases Ni (Lh p) l[j].Regs with
    | true=>rfl
    | false=>rw [if_neg (by decide),Z3y,Bd h1 (by omega),ih (j+1) n (by omega) (by omega)];rfl
def N1 (p:api_Prog) (t:api_Thread):Option Int:=t.Body.findSome? (Nb p t.Regs)
theorem Jca {p:api_Prog} (hp:SmallP p) {l:List api_Thread} {i:Nat} (hi:i < l.length) (hs:SmallT l[i]) (hf:∀ x∈l[i].Body,Dr x=true) (ha:Apt p l[i].Regs) (k:Option (Int×Int)):∀ (d j n:Nat),j+d=l[i].Body.length→d < n→
    Z41 1000001 k p l (i:Int) n (j:Int)=out 9 ((l[i].Body.drop j).findSome? (Nb p l[i].Regs)) k:=by
  intro d
  have hB:=hs.body
  induction d with
  | zero =>
    intro j n hj hn
    obtain ⟨n,rfl⟩:∃ m,n=m+1:=⟨n - 1,by omega⟩
    rw [Z41,Aw rfl hi]
    simp only [Option.bind_some]
    rw [if_neg (by omega),List.drop_of_length_le (by omega)];rfl
  | succ d ih =>
    intro j n hj hn
    obtain ⟨n,rfl⟩:∃ m,n=m+1:=⟨n - 1,by omega⟩
    have h1:j < l[i].Body.length:=by omega
    have hx:=hf _ (List.getElem_mem h1)
    rw [Z41,Aw rfl hi]
    simp only [Option.bind_some]
    rw [if_pos (by omega),Aw rfl h1]
    simp only [Option.bind_some]
    rw [JaF hp (by have:=hs.regs;omega) ha hx,List.drop_eq_getElem_cons h1,List.findSome?_cons]
    simp only [Option.bind_some]
    cases hv:Nb p l[i].Regs l[i].Body[j] with
    | some v=>rw [if_pos (by have:=(JaE hx hv).1;simpa using this)];rfl
    | none=>rw [if_neg (by simp),Bd h1 (by omega),ih (j+1) n (by omega) (by omega)]
theorem Jaw {p:api_Prog} (hp:SmallP p) {l:List api_Thread} (hl:l.length≤1000) (ht:∀ t∈l,SmallT t) (hf:∀ t∈l,∀ x∈t.Body,Dr x=true) (ha:∀ t∈l,Apt p t.Regs) (k:Option (Int×Int)):∀ (d j n:Nat),j+d=l.length→d < n→
    Z46 1000001 k p l n (j:Int)=out 9 ((l.drop j).findSome? (N1 p)) k:=by
  intro d
  induction d with
  | zero =>
    intro j n hj hn
    obtain ⟨n,rfl⟩:∃ m,n=m+1:=⟨n - 1,by omega⟩
    rw [Z46,if_neg (by omega),List.drop_of_length_le (by omega)];rfl
  | succ d ih =>
    intro j n hj hn
    obtain ⟨n,rfl⟩:∃ m,n=m+1:=⟨n - 1,by omega⟩
    have h1:j < l.length:=by omega
    have hm:=List.getElem_mem h1
    have hs:=ht _ hm
    rw [Z46,if_pos (by omega),show (0:Int)=((0:Nat):Int) from rfl,Jca hp h1 hs (hf _ hm) (ha _ hm) _ l[j].Body.length 0 1000001 (by omega) (by have:=hs.body;omega),List.drop_zero,List.drop_eq_getElem_cons h1,List.findSome?_cons]
    unfold N1
    cases l[j].Body.findSome? (Nb p l[j].Regs) with
    | some v=>rfl
    | none=>simp only [out];rw [Z3v,Bd h1 (by omega),ih (j+1) n (by omega) (by omega)];rfl
def Mg (p:api_Prog) (c:api_Claim):Option Int:=c.E.findSome? (Gi (A1 p))
theorem Xt {c:api_Claim} (h:Hj c=true):∀ x∈c.E,0≤x.At∧x.At≤4000:=by
  unfold Hj at h
  rw [Bool.and_eq_true] at h
  exact (Yk (is:=true) (l:=c.E) h.2).2
theorem Xs {p:api_Prog} (hp:SmallP p) (hc:∀ c∈p.Claims,Hj c=true) (k:Option (Int×Int)):∀ (d j n:Nat),j+d=p.Claims.length→d < n→Z42 1000001 k p (A1 p) n (j:Int)=out 9 ((p.Claims.drop j).findSome? (Mg p)) k:=by
  intro d
  have hC:=hp.claims
  have hF:=Cf hp
  have hA:(A1 p).length≤56:=by have e:=congrArg List.length (Da p);simp only [List.length_map,List.length_append] at e;omega
  induction d with
  | zero =>
    intro j n hj hn
    obtain ⟨n,rfl⟩:∃ m,n=m+1:=⟨n - 1,by omega⟩
    rw [Z42,if_neg (by omega),List.drop_of_length_le (by omega)];rfl
  | succ d ih =>
    intro j n hj hn
    obtain ⟨n,rfl⟩:∃ m,n=m+1:=⟨n - 1,by omega⟩
    have h1:j < p.Claims.length:=by omega
    have hs:=hp.claim _ (List.getElem_mem h1)
    rw [Z42,if_pos (by omega),Aw rfl h1]
    simp only [Option.bind_some]
    rw [Lx (by omega) (by omega),List.drop_eq_getElem_cons h1,List.findSome?_cons]
    simp only [Option.bind_some]
    unfold Mg
    cases hv:p.Claims[j].E.findSome? (Gi (A1 p)) with
    | some v=>rw [if_pos (by have:=Xq (fun x hx=>(Xt (hc _ (List.getElem_mem h1)) x hx).1) hv;simpa using this)];rfl
    | none=>rw [if_neg (by simp),Bd h1 (by omega),ih (j+1) n (by omega) (by omega)];rfl
noncomputable def Kx (p:api_Prog):Option (Int×Int):=
  if Nu p=true then if Re p=true then some (2,0) else
    out 11 ((D9 p).findSome? Lj) (out 10 (Hy (Hq p) []) (out 10 ((D9 p).findSome? (Qj p)) (out 9 ((D9 p).findSome? (N1 p)) (out 9 (p.Claims.findSome? (Mg p)) (some (0,0))))))
  else some (8,0)
theorem Ep {α β:Type} {f:α→Option β} {l:List α} (h:l.findSome? f=none):∀ x∈l,f x=none:=List.findSome?_eq_none_iff.1 h
theorem Wc {p:api_Prog} (hp:SmallP p):Z3t 1000001 p=Kx p:=by
  have hA:=Jl hp
  have hF:=Cf hp
  unfold Z3t Kx
  rw [Vv hp]
  simp only [Option.bind_some]
  cases hq:Nu p with
  | false=>rfl
  | true =>
    have hB:=Nq.1 hq
    rw [if_pos rfl,if_pos rfl,JaK hp]
    simp only [Option.bind_some]
    cases Re p with
    | true=>rfl
    | false =>
      rw [if_neg (by decide),if_neg (by decide),H9 hp]
      simp only [Option.bind_some]
      have e1:=Jb6 (l:=D9 p) (by omega) hB.thread (Z3u 1000001 p (D9 p)) (D9 p).length 0 1000001 (by omega) (by omega)
      rw [List.drop_zero] at e1
      refine Eq.trans e1 ?_
      suffices hj:Z3u 1000001 p (D9 p)=out 10 (Hy (Hq p) []) (out 10 ((D9 p).findSome? (Qj p)) (out 9 ((D9 p).findSome? (N1 p)) (out 9 (p.Claims.findSome? (Mg p)) (some (0,0))))) by rw [hj]
      rw [Z3u,Yy hp]
      simp only [Option.bind_some]
      cases hd:Hy (Hq p) [] with
      | some v =>
        obtain ⟨e,he,hv⟩:=Ui hd
        have:=(Vo hB e he).1
        rw [Option.getD_some,if_pos (show v≥0 by omega)];simp only [out]
      | none =>
        rw [if_neg (by simp)]
        have e1:=JbN hp (l:=D9 p) (by omega) hA.2 (Z3x 1000001 p (D9 p)) (D9 p).length 0 1000001 (by omega) (by omega)
        rw [List.drop_zero] at e1
        refine Eq.trans e1 ?_
        cases hr:(D9 p).findSome? (Qj p) with
        | some v=>rfl
        | none =>
          have hr':∀ t∈D9 p,Ni (Lh p) t.Regs=false:=by
            intro t ht
            have:=Ep hr t ht
            unfold Qj at this
            split at this
            · cases this
            · rename_i z;simpa using z
          simp only [out]
          rw [Z3x]
          have e2:=Jaw hp (l:=D9 p) (by omega) hA.2 (fun t ht x hx=>by
            obtain ⟨_,_,b,hb⟩:=Gn (hB.thread t ht)
            exact hb.fits x hx) (fun t ht=>Yj hd (hr' t ht)) (Z40 1000001 p) (D9 p).length 0 1000001 (by omega) (by omega)
          rw [List.drop_zero] at e2
          refine Eq.trans e2 ?_
          cases (D9 p).findSome? (N1 p) with
          | some v=>rfl
          | none =>
            simp only [out]
            rw [Z40,Gf (N:=1000001) (by decide) hp,Hu (N:=1000001) (by decide) hp]
            simp only [Option.bind_some]
            have hlen:(Be p).length=p.Lines.flatten.length+p.Vols.length:=by simp [Be]
            rw [Eg (by omega) (by omega) (by simp only [List.length_map];omega)]
            simp only [Option.bind_some]
            have hst:((List.map (fun x:api_Cell=>x.Name) (Be p)).take (p.Lines.flatten.length:Int).toNat).drop (0:Int).toNat=A1 p:=by
              rw [Da,Int.toNat_natCast,show (0:Int).toNat=0 from rfl,List.drop_zero,List.take_left' (by simp only [A1,List.length_map])]
            rw [hst]
            have e3:=Xs hp hB.claims Z3w p.Claims.length 0 1000001 (by omega) (by have:=hp.claims;omega)
            rw [List.drop_zero] at e3
            exact e3
theorem Rj {p:api_Prog}:∃ r,Kx p=some r:=by
  unfold Kx
  split
  · split
    · exact ⟨_,rfl⟩
    · unfold out
      split
      · exact ⟨_,rfl⟩
      · split
        · exact ⟨_,rfl⟩
        · split
          · exact ⟨_,rfl⟩
          · split
            · exact ⟨_,rfl⟩
            · split <;> exact ⟨_,rfl⟩
  · exact ⟨_,rfl⟩
end Go.MD.BINZ.R
