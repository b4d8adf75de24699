/- The document's Check. No condition: plain lemmas. -/
import Derived.Test.YtchhelkhllkpkaaGreatDoorSWTO
namespace Go.MD.SWAPS.R
open Go Go.MD Go.MD.SWAPS
open Go.IntKind (i64)
def ar (k:Int):Int:=if k=1∨k=2 then 0 else if k=3∨k=4 then 1 else if 5≤k∧k≤15 then 2 else -1
theorem Eg (N:Nat) (k:Int):Z1r N k=some (ar k):=by
  unfold Z1r ar
  simp only [kyb,kxc,decide_eq_true_eq]
  repeat' split
  all_goals rfl
theorem Nu (k:Int):(ar k=0∧(k=1∨k=2))∨(ar k=1∧(k=3∨k=4))∨(ar k=2∧5≤k∧k≤15)∨(ar k = -1∧(k < 1∨15 < k)):=by
  unfold ar
  repeat' split
  all_goals omega
inductive T
  | leaf (x:api_Node)
  | un (x:api_Node) (a:T)
  | bin (x:api_Node) (a b:T)
def T.flat:T→List api_Node
  | .leaf x=>[x]
  | .un x a=>x :: a.flat
  | .bin x a b=>x :: (a.flat ++ b.flat)
def T.size:T→Nat
  | .leaf _=>1
  | .un _ a=>a.size+1
  | .bin _ a b=>a.size+b.size+1
def T.depth:T→Nat
  | .leaf _=>1
  | .un _ a=>a.depth+1
  | .bin _ a b=>max a.depth b.depth+1
def T.wk:T→Prop
  | .leaf x=>ar x.Op=0
  | .un x a=>ar x.Op=1∧a.wk
  | .bin x a b=>ar x.Op=2∧a.wk∧b.wk
theorem T.flat_len:∀ t:T,t.flat.length=t.size
  | .leaf _=>rfl
  | .un _ a=>by simp [T.flat,T.size,T.flat_len a]
  | .bin _ a b=>by simp [T.flat,T.size,T.flat_len a,T.flat_len b]
theorem T.depth_le:∀ t:T,t.depth≤t.size
  | .leaf _=>kxb _
  | .un _ a=>by have:=T.depth_le a;simp [T.depth,T.size];omega
  | .bin _ a b=>by have:=T.depth_le a;have:=T.depth_le b;simp only [T.depth,T.size];omega
theorem T.size_pos:∀ t:T,0 < t.size
  | .leaf _=>Nat.zero_lt_one
  | .un _ _=>Nat.succ_pos _
  | .bin _ _ _=>Nat.succ_pos _
def Hz:Nat→List api_Node→Option (List api_Node)
  | 0,s=>some s
  | _+1,[]=>none
  | w+1,x :: s=>if ar x.Op < 0 then none else Hz (w+(ar x.Op).toNat) s
theorem Jd (s:List api_Node):Hz 0 s=some s:=by cases s <;> rfl
theorem Fg (w:Nat) (x:api_Node) (s:List api_Node):Hz (w+1) (x :: s)=if ar x.Op < 0 then none else Hz (w+(ar x.Op).toNat) s:=rfl
theorem Wj (v:Nat):∀ (s:List api_Node) (w:Nat),Hz (w+v) s=(Hz w s).bind (Hz v)
  | s,0=>by rw [kxs,Jd];rfl
  | [],w+1=>by rw [show w+1+v=(w+v)+1 by omega];rfl
  | x :: s, w + 1 => by
    rw [show w+1+v=(w+v)+1 by omega,Fg,Fg]
    split
    · rfl
    · rw [show w + v + (ar x.Op).toNat = w + (ar x.Op).toNat + v by omega]
      exact Wj v s _
theorem Pf:∀ (s:List api_Node) (w:Nat) {r:List api_Node},Hz w s=some r→∃ p,s=p ++ r
  | s,0,r,h=>by rw [Jd] at h;cases h;exact ⟨[],rfl⟩
  | [],w+1,r,h=>by cases h
  | x :: s, w + 1, r, h => by
    rw [Fg] at h
    split at h
    · cases h
    · obtain ⟨p, hp⟩ := Pf s _ h
      exact ⟨x :: p,by rw [hp];rfl⟩
theorem Lb:∀ (t:T) (w:Nat) (s:List api_Node),t.wk→Hz (w+1) (t.flat ++ s)=Hz w s
  | .leaf x, w, s, h => by
    have h':ar x.Op=0:=h
    show Hz (w+1) (x :: s)=_
    rw [Fg,if_neg (by omega),h'];rfl
  | .un x a, w, s, h => by
    obtain ⟨h1,h2⟩:=h
    show Hz (w+1) (x :: (a.flat ++ s))=_
    rw [Fg,if_neg (by omega),h1]
    exact Lb a w s h2
  | .bin x a b, w, s, h => by
    obtain ⟨h1,h2,h3⟩:=h
    show Hz (w+1) (x :: ((a.flat ++ b.flat) ++ s))=_
    rw [Fg,if_neg (by omega),h1,kxw]
    show Hz ((w+1)+1) _=_
    rw [Lb a (w+1) _ h2,Lb b w s h3]
theorem Pt:∀ (n:Nat) (s:List api_Node) (w:Nat) (r:List api_Node),s.length≤n→Hz (w+1) s=some r→∃ (t:T) (s':List api_Node),t.wk∧s=t.flat ++ s'∧Hz w s'=some r
  | 0, s, w, r, hl, h => by
    have:s=[]:=kza (by omega)
    subst this;cases h
  | n+1,[],w,r,hl,h=>by cases h
  | n + 1, x :: s, w, r, hl, h => by
    rw [Fg] at h
    simp only [kxz] at hl
    rcases Nu x.Op with ⟨h1,_⟩ | ⟨h1,_⟩ | ⟨h1,_⟩ | ⟨h1,_⟩
    · rw [if_neg (by omega), h1] at h
      exact ⟨.leaf x,s,h1,rfl,h⟩
    · rw [if_neg (by omega), h1] at h
      obtain ⟨a,s',k1,k2,k3⟩:=Pt n s w r (by omega) h
      exact ⟨.un x a,s',⟨h1,k1⟩,by rw [k2];rfl,k3⟩
    · rw [if_neg (by omega), h1] at h
      obtain ⟨a,s',k1,k2,k3⟩:=Pt n s (w+1) r (by omega) h
      have hs':s'.length≤n:=by rw [k2] at hl;simp at hl;omega
      obtain ⟨b,s'',j1,j2,j3⟩:=Pt n s' w r hs' k3
      exact ⟨.bin x a b,s'',⟨h1,k1,j1⟩,by rw [k2,j2];simp [T.flat],j3⟩
    · rw [if_pos (by omega)] at h;cases h
def Lw (w:Nat) (l:List api_Node) (i:Nat):Int:=match Hz w (l.drop i) with | some r=>(l.length:Int) - (r.length:Int) | none=>-1
theorem Sy {l p q:List api_Node} {t:T} (hl:l=p ++ (t.flat ++ q)) (ht:t.wk):Lw 1 l p.length=((p.length+t.size:Nat):Int):=by
  unfold Lw
  rw [hl,kzn,Lb t 0 q ht,Jd]
  simp only [kxk,T.flat_len]
  omega
theorem JaV {l:List api_Node} (hl:l.length≤1000):∀ (N i:Nat),i≤l.length→(l.length - i)+5≤N→Z1n N l (i:Int)=some (Lw 1 l i):=by
  intro N
  induction N with
  | zero=>intro i hi hN;omega
  | succ N ih =>
    intro i hi hN
    rw [Z1n]
    by_cases h1:i < l.length
    · rw [if_neg (by simp; omega), Al rfl h1]
      simp only [kxa,Eg]
      have he:Lw 1 l i=if ar l[i].Op < 0 then -1 else Lw (ar l[i].Op).toNat l (i+1):=by
        unfold Lw
        rw [kxe h1,Fg,kxs]
        by_cases hq:ar l[i].Op < 0
        · rw [if_pos hq,if_pos hq]
        · rw [if_neg hq,if_neg hq]
      rw [he,Z1o]
      obtain ⟨M,rfl⟩:∃ M,N=M+4:=⟨N - 4,by omega⟩
      have step:∀ (n:Nat) (v k:Int),Z1q (Z1n (M+4)) (M+4) Z1p l (i:Int) (n+1) v k=if k < ar l[i].Op∧0≤v then (Z1n (M+4) l v).bind fun r=>Z1q (Z1n (M+4)) (M+4) Z1p l (i:Int) n r (i64.wrap (k+1)) else some v:=by
        intro n v k
        rw [Z1q,Al rfl h1]
        simp only [kxa,Eg,kxc,decide_eq_true_eq]
        rfl
      have w1:i64.wrap (0+1)=1:=by decide
      have w2:i64.wrap (1+1)=2:=by decide
      rcases Nu l[i].Op with ⟨a1,_⟩ | ⟨a1,_⟩ | ⟨a1,_⟩ | ⟨a1,_⟩
      · rw [if_neg (by simp; omega), if_neg (by omega), a1, Bf h1 (by omega), step, if_neg (by omega)]
        unfold Lw
        rw [show (0:Int).toNat=0 from rfl,Jd]
        simp;omega
      · rw [if_neg (by simp; omega), if_neg (by omega), Bf h1 (by omega), step, if_pos (by omega), ih (i + 1) (by omega) (by omega)]
        simp only [kxa]
        rw [w1,step,if_neg (by omega),a1];rfl
      · rw [if_neg (by simp; omega), if_neg (by omega), Bf h1 (by omega), step, if_pos (by omega), ih (i + 1) (by omega) (by omega)]
        simp only [kxa]
        rw [w1,step,a1]
        have e2:Lw (2:Int).toNat l (i+1)=match Hz 1 (l.drop (i+1)) with | some r=>(match Hz 1 r with | some r'=>(l.length:Int) - (r'.length:Int) | none=>-1) | none=>-1:=by
          unfold Lw
          rw [show (2:Int).toNat=1+1 from rfl,Wj]
          cases Hz 1 (l.drop (i+1)) <;> rfl
        rw [e2]
        have e1:Lw 1 l (i+1)=match Hz 1 (l.drop (i+1)) with | some r=>(l.length:Int) - (r.length:Int) | none=>-1:=rfl
        rw [e1]
        cases hr:Hz 1 (l.drop (i+1)) with
        | none=>simp only;rw [if_neg (by omega)]
        | some r =>
          obtain ⟨p,hp⟩:=Pf _ _ hr
          have hlen:(l.drop (i+1)).length=p.length+r.length:=by rw [hp,kxk]
          rw [kzo] at hlen
          simp only
          have hd:l.drop (l.length - r.length)=r:=by
            have:=congrArg (List.drop p.length) hp
            rw [kyr,kzn] at this
            rw [show l.length - r.length=i+1+p.length by omega]
            exact this
          have hb:r.length≤l.length:=by omega
          rw [if_pos (by omega),show (l.length:Int) - (r.length:Int)=((l.length - r.length:Nat):Int) by omega,ih (l.length - r.length) (by omega) (by omega)]
          simp only [kxa]
          rw [w2,step,if_neg (by omega)]
          unfold Lw
          rw [hd]
      · rw [if_pos (by simp;omega),if_pos (by omega)]
    · rw [if_pos (by simp; omega), Z1o, if_pos rfl]
      unfold Lw
      rw [kxh (by omega)]
      rfl
section
variable {l:List api_Node}
theorem Jd8 {p q:List api_Node} {x:api_Node} {a:T} (hl:l=p ++ ((T.un x a).flat ++ q)):l=(p ++ [x]) ++ (a.flat ++ q):=by rw [hl];simp [T.flat]
theorem Jec {p q:List api_Node} {x:api_Node} {a b:T} (hl:l=p ++ ((T.bin x a b).flat ++ q)):l=(p ++ [x]) ++ (a.flat ++ (b.flat ++ q)):=by rw [hl];simp [T.flat]
theorem Jen {p q:List api_Node} {x:api_Node} {a b:T} (hl:l=p ++ ((T.bin x a b).flat ++ q)):l=(p ++ [x] ++ a.flat) ++ (b.flat ++ q):=by rw [hl];simp [T.flat]
def T.head:T→api_Node
  | .leaf x=>x
  | .un x _=>x
  | .bin x _ _=>x
theorem Ky {p q:List api_Node} {t:T} (hl:l=p ++ (t.flat ++ q)):getI l (p.length:Int)=some t.head:=by
  rw [Gr,hl]
  cases t <;> simp [T.flat,T.head]
theorem Lp {N:Nat} (hl1:l.length≤1000) (hN:l.length+5≤N) {p q:List api_Node} {t:T} (hl:l=p ++ (t.flat ++ q)) (ht:t.wk):Z1n N l (p.length:Int)=some ((p.length+t.size:Nat):Int):=by
  rw [JaV hl1 N p.length (by rw [hl];simp) (by omega),Sy hl ht]
theorem w01:i64.wrap (0+1)=1:=by decide
theorem w12:i64.wrap (1+1)=2:=by decide
theorem Nn (hl1:l.length≤1000):∀ (t:T) (N:Nat) (p q:List api_Node),l=p ++ (t.flat ++ q)→t.wk→l.length+6+t.depth≤N→Z1x N l (p.length:Int)=some (t.depth:Int)
  | .leaf x, N, p, q, hl, ht, hN => by
    have h1:getI l (p.length:Int)=some x:=Ky hl
    obtain ⟨N,rfl⟩:∃ M,N=M+2:=⟨N - 2,by omega⟩
    have h0:ar x.Op=0:=ht
    rw [Z1x,Z1z,h1]
    simp only [kxa,Eg]
    rw [if_neg (by omega),Z1y]
    rfl
  | .un x a, N, p, q, hl, ht, hN => by
    have h1:getI l (p.length:Int)=some x:=Ky hl
    have hd:=T.depth_le (T.un x a)
    have hp:p.length+(T.un x a).size≤l.length:=by rw [hl];simp [T.flat_len] <;> omega
    simp only [T.depth] at hN hd ⊢
    obtain ⟨N,rfl⟩:∃ M,N=M+3:=⟨N - 3,by omega⟩
    have ih:=Nn hl1 a (N+2) _ _ (Jd8 hl) ht.2 (by omega)
    have e:=Lp hl1 (by omega:l.length+5≤N+2) (Jd8 hl) ht.2
    rw [kxk,kxm] at ih e
    have h0:=ht.1
    rw [Z1x,Z1z,h1]
    simp only [kxa,Eg]
    rw [if_pos (by omega),Bf (j:=p.length) (n:=l.length) (by omega) (by omega),ih]
    simp only [kxa]
    rw [e]
    simp only [kxa]
    rw [w01,Z1z,h1]
    simp only [kxa,Eg]
    rw [if_neg (by omega),Z1y,w64 (by omega) (by omega)]
    first | rfl | (congr 1;omega)
  | .bin x a b, N, p, q, hl, ht, hN => by
    have h1:getI l (p.length:Int)=some x:=Ky hl
    have hd:=T.depth_le (T.bin x a b)
    have hp:p.length+(T.bin x a b).size≤l.length:=by rw [hl];simp [T.flat_len] <;> omega
    simp only [T.depth] at hN hd ⊢
    obtain ⟨N,rfl⟩:∃ M,N=M+4:=⟨N - 4,by omega⟩
    have ih:=Nn hl1 a (N+3) _ _ (Jec hl) ht.2.1 (by omega)
    have ih2:=Nn hl1 b (N+3) _ _ (Jen hl) ht.2.2 (by omega)
    have e:=Lp hl1 (by omega:l.length+5≤N+3) (Jec hl) ht.2.1
    have e2:=Lp hl1 (by omega:l.length+5≤N+3) (Jen hl) ht.2.2
    rw [kxk,kxm] at ih e
    rw [kxk,kxk,kxm,T.flat_len] at ih2 e2
    have h0:=ht.1
    rw [Z1x,Z1z,h1]
    simp only [kxa,Eg]
    rw [if_pos (by omega),Bf (j:=p.length) (n:=l.length) (by omega) (by omega),ih]
    simp only [kxa]
    rw [e]
    simp only [kxa]
    rw [w01,Z1z,h1]
    simp only [kxa,Eg]
    rw [if_pos (by omega),ih2]
    simp only [kxa]
    rw [e2]
    simp only [kxa]
    rw [w12,Z1z,h1]
    simp only [kxa,Eg]
    rw [if_neg (by omega),Z1y,w64 (by omega) (by omega)]
    first | rfl | (congr 1;omega)
def Cq:List Str→Str→Nat→Int
  | [],_,_=>-1
  | x :: r,s,k=>if x=s then (k:Int) else Cq r s (k+1)
theorem Do {N:Nat} {names:List Str} {s:Str} (hl:names.length≤1000) (hN:names.length < N):Z3t N names s=some (Cq names s 0):=by
  have key:∀ (d j n:Nat),j+d=names.length→d < n→Z3v N Z3u names s n (j:Int)=some (Cq (names.drop j) s j):=by
    intro d
    induction d with
    | zero =>
      intro j n hj hn
      obtain ⟨n,rfl⟩:∃ m,n=m+1:=⟨n - 1,by omega⟩
      rw [Z3v,if_neg (by omega),kxh (by omega)];rfl
    | succ d ih =>
      intro j n hj hn
      obtain ⟨n,rfl⟩:∃ m,n=m+1:=⟨n - 1,by omega⟩
      have h1:j < names.length:=by omega
      rw [Z3v,if_pos (by omega),Al rfl h1]
      simp only [kxa]
      rw [kxe h1,Cq]
      by_cases e:names[j]=s
      · rw [if_pos e,if_pos e]
      · rw [if_neg e, if_neg e, Bf h1 (by omega)]
        exact ih (j+1) n (by omega) (by omega)
  unfold Z3t
  exact key names.length 0 N (by omega) hN
theorem Cx:∀ (names:List Str) (s:Str) (k:Nat),(0≤Cq names s k↔s∈names)∧(s∈names→(k:Int)≤Cq names s k∧Cq names s k < (k:Int)+(names.length:Int))
  | [],s,k=>⟨⟨fun h=>by simp [Cq] at h,fun h=>by cases h⟩,fun h=>by cases h⟩
  | x :: r, s, k => by
    obtain ⟨h1,h2⟩:=Cx r s (k+1)
    unfold Cq
    by_cases e:x=s
    · rw [if_pos e]
      exact ⟨⟨fun _=>by rw [e];exact .head _,fun _=>by omega⟩,fun _=>by simp;omega⟩
    · rw [if_neg e]
      have hm:s∈x :: r↔s∈r:=⟨fun h=>by
        rcases kxg.1 h with h | h
        · exact absurd h.symm e
        · exact h,fun h=>.tail _ h⟩
      rw [hm]
      refine ⟨h1,fun h=>?_⟩
      have:=h2 h
      simp;omega
end
def Yi (c:Int):Bool:=(decide (97≤c) && decide (c≤122)) || decide (c=95)
def JeL (c:Int):Bool:=decide (48≤c) && decide (c≤57)
def keptL:List Str:=[[108,105,110,101],[118,111,108],[108,111,99,107],[116,104,114,101,97,100],[114,101,103],[108,111,97,100],[115,116,111,114,101],[99,97,115],[102,108,117,115,104],[111,112,116],[115,102,101,110,99,101],[109,102,101,110,99,101],[116,97,107,101],[103,105,118,101],[105,102],[101,108,115,101],[108,111,111,112],[98,114,101,97,107],[99,104,101,99,107],[114,101,99,111,118,101,114],[97,108,119,97,121,115]]
theorem Ph {N:Nat} (hN:5000≤N) (s:Str) (n:Nat) (j:Int):Z1f N Z1e s (n+1) j=if j < (keptL.length:Int) then (getI keptL j).bind fun x6=>if x6=s then some true else Z1f N Z1e s n (i64.wrap (j+1)) else some false:=rfl
theorem JbB {N:Nat} (hN:5000≤N) (s:Str):Z1d N s=some (decide (s∈keptL)):=by
  have key:∀ (d j n:Nat),j+d=keptL.length→d < n→Z1f N Z1e s n (j:Int)=some (decide (s∈keptL.drop j)):=by
    intro d
    induction d with
    | zero =>
      intro j n hj hn
      obtain ⟨n,rfl⟩:∃ m,n=m+1:=⟨n - 1,by omega⟩
      rw [Ph hN,if_neg (by omega),kxh (by omega)]
      rfl
    | succ d ih =>
      intro j n hj hn
      obtain ⟨n,rfl⟩:∃ m,n=m+1:=⟨n - 1,by omega⟩
      have h1:j < keptL.length:=by omega
      have hk:keptL.length=21:=rfl
      rw [Ph hN,if_pos (by omega),Al rfl h1]
      simp only [kxa]
      rw [kxe h1]
      by_cases e:keptL[j]=s
      · rw [if_pos e];simp [e]
      · rw [if_neg e, Bf h1 (by omega), ih (j + 1) n (by omega) (by omega)]
        have e' : ¬ s=keptL[j]:=fun h=>e h.symm
        simp only [kxg,e',false_or]
  exact key keptL.length 0 N (by omega) (by have:keptL.length=21:=rfl;omega)
def nmS (b:UInt8):Bool:=Yi (b.toNat:Int) || JeL (b.toNat:Int)
def Ej (s:Str):Bool:=match s with | []=>false | b :: r=>decide ((b :: r).length≤16) && Yi (b.toNat:Int) && !decide ((b :: r)∈keptL) && (b :: r).all nmS
theorem Wu {N:Nat} (hN:5000≤N) {s:Str} (hl:s.length≤1000):∀ (d j n:Nat),j+d=s.length→d < n→Z1k N Z1i s n (j:Int)=some ((s.drop j).all nmS):=by
  intro d
  induction d with
  | zero =>
    intro j n hj hn
    obtain ⟨n,rfl⟩:∃ m,n=m+1:=⟨n - 1,by omega⟩
    rw [Z1k,if_neg (by omega),kxh (by omega)];rfl
  | succ d ih =>
    intro j n hj hn
    obtain ⟨n,rfl⟩:∃ m,n=m+1:=⟨n - 1,by omega⟩
    have h1:j < s.length:=by omega
    have go:∀ b,Z1j (Z1k N Z1i s n) (j:Int) b=some (!b && (s.drop (j+1)).all nmS):=by
      intro b
      rw [Z1j]
      cases b with
      | true=>rfl
      | false=>rw [if_neg (by decide),Bf h1 (by omega),ih (j+1) n (by omega) (by omega)];rfl
    rw [Z1k,if_pos (by omega)]
    unfold Pn
    rw [Al rfl h1]
    simp only [Option.map_some,kxa,Z1m,Z1l,go]
    rw [kxe h1,kxv]
    show (if Yi (s[j].toNat:Int)=true then _ else some (!(!JeL (s[j].toNat:Int)) && _))=some ((Yi (s[j].toNat:Int) || JeL (s[j].toNat:Int)) && _)
    cases Yi (s[j].toNat:Int) <;> simp
theorem Hv {N:Nat} (hN:5000≤N) (s:Str):Z1g N s=some (Ej s):=by
  unfold Z1g
  cases s with
  | nil=>rfl
  | cons b r =>
    by_cases h:16 < (b :: r).length
    · rw [if_pos (by simp at h ⊢; omega), Z1h, if_pos rfl]
      have : ¬ ((b :: r).length≤16):=by omega
      simp only [Ej,decide_eq_false this,Bool.false_and]
    · rw [if_neg (by simp at h ⊢; omega)]
      have hb:Pn (b :: r) 0=some (b.toNat:Int):=rfl
      rw [hb]
      simp only [kxa,Z1m]
      show (if Yi (b.toNat:Int)=true then _ else _)=_
      have hle:(b :: r).length≤16:=by omega
      simp only [Ej,decide_eq_true hle,kyf]
      cases hlt:Yi (b.toNat:Int) with
      | false=>rfl
      | true =>
        rw [if_pos rfl,JbB hN]
        simp only [kxa,kyf]
        rw [Z1h]
        by_cases hk:(b :: r)∈keptL
        · rw [decide_eq_true hk];rfl
        · rw [decide_eq_false hk, if_neg (by decide), show (0 : Int) = ((0 : Nat) : Int) from rfl, Wu hN (by omega) (b :: r).length 0 N (by omega) (by omega)]
          rfl
def Oc (x:api_Node):Bool:=decide (0≤x.At∧x.At≤4000) && (if x.Op=1 then decide (0≤x.N∧x.N≤4294967296∧x.Name=[]) else if x.Op=2 then decide (x.N=0) && Ej x.Name else decide (x.N=0∧x.Name=[]))
structure RightE (l:List api_Node) (t:T):Prop where
  len:l.length≤40
  may:∀ x∈l,Oc x=true
  flat:l=t.flat
  wk:t.wk
  depth:t.depth≤12
theorem Jc {l:List api_Node} {t:T} (h:l=t.flat):l=[] ++ (t.flat ++ []):=by rw [h];simp
theorem Jhf {l:List api_Node} (h0:0 < l.length) (h:Lw 1 l 0=(l.length:Int)):∃ t:T,t.wk∧l=t.flat:=by
  unfold Lw at h
  rw [kxf] at h
  cases he:Hz 1 l with
  | none=>rw [he] at h;simp only at h;omega
  | some r =>
    rw [he] at h
    simp only at h
    have hr:r=[]:=kza (by omega)
    subst hr
    obtain ⟨t,s',h1,h2,h3⟩:=Pt l.length l 0 [] (kxb _) he
    rw [Jd] at h3
    cases h3
    exact ⟨t,h1,by rw [h2];simp⟩
theorem JbL {l:List api_Node} {t:T} (h1:t.wk) (h2:l=t.flat):Lw 1 l 0=(l.length:Int):=by
  have:=Sy (Jc h2) h1
  simp only [kzb,kxs] at this
  rw [this,h2,T.flat_len]
theorem Vg {N:Nat} (hN:5000≤N) {l:List api_Node} (hl:l.length≤60):∀ (d j n:Nat),j+d=l.length→d < n→Z1w N (Z1u N l) l n (j:Int)=if (l.drop j).all Oc=true then Z1u N l else some false:=by
  intro d
  induction d with
  | zero =>
    intro j n hj hn
    obtain ⟨n,rfl⟩:∃ m,n=m+1:=⟨n - 1,by omega⟩
    rw [Z1w,if_neg (by omega),kxh (by omega)];rfl
  | succ d ih =>
    intro j n hj hn
    obtain ⟨n,rfl⟩:∃ m,n=m+1:=⟨n - 1,by omega⟩
    have h1:j < l.length:=by omega
    have go:∀ b,b = !Oc l[j]→Z1v (Z1w N (Z1u N l) l n) (j:Int) b=if (l.drop j).all Oc=true then Z1u N l else some false:=by
      intro b hb
      rw [Z1v,kxe h1,kxv]
      cases hm:Oc l[j] with
      | true=>rw [hb,hm,if_neg (by decide),Bf h1 (by omega),ih (j+1) n (by omega) (by omega),kyf]
      | false=>rw [hb,hm,if_pos (by decide),Bool.false_and,if_neg (by decide)]
    rw [Z1w,if_pos (by omega),Al rfl h1]
    simp only [kxa]
    generalize l[j]=x at go ⊢
    split
    · rename_i hc
      refine go true ?_
      unfold Oc
      by_cases ha:0≤x.At∧x.At≤4000
      · rw [decide_eq_true ha]
        simp only [kyb,kxc,decide_eq_true_eq] at hc
        by_cases e1:x.Op=1
        · rw [if_pos e1]
          have : ¬ (0≤x.N∧x.N≤4294967296∧x.Name=[]):=by
            rintro ⟨q1,q2,q3⟩
            rcases hc with ((((h | h) | h) | h) | h) | h
            · omega
            · omega
            · exact h.1 e1
            · exact h.2 q3
            · omega
            · omega
          rw [decide_eq_false this];rfl
        · rw [if_neg e1]
          by_cases e2:x.Op=2
          · rw [if_pos e2]
            have : ¬ x.N=0:=by
              intro q
              rcases hc with ((((h | h) | h) | h) | h) | h
              · omega
              · omega
              · exact h.2 q
              · exact h.1 e2
              · omega
              · omega
            rw [decide_eq_false this];rfl
          · rw [if_neg e2]
            have : ¬ (x.N=0∧x.Name=[]):=by
              rintro ⟨q1,q2⟩
              rcases hc with ((((h | h) | h) | h) | h) | h
              · omega
              · omega
              · exact h.2 q1
              · exact h.2 q2
              · omega
              · omega
            rw [decide_eq_false this];rfl
      · rw [decide_eq_false ha];rfl
    · rename_i hc
      simp only [kyb,kxc,decide_eq_true_eq,not_or,not_and,kzc,kyd] at hc
      obtain ⟨⟨⟨⟨⟨c1,c2⟩,c3⟩,c4⟩,c5⟩,c6⟩:=hc
      by_cases e2:x.Op=2
      · rw [if_pos e2, Hv hN]
        simp only [kxa]
        refine go _ ?_
        have hn:x.N=0:=c3 (by omega)
        unfold Oc
        rw [decide_eq_true (⟨c1,c2⟩:0≤x.At∧x.At≤4000),if_neg (by omega),if_pos e2,decide_eq_true hn]
        simp
      · rw [if_neg e2]
        refine go _ ?_
        have hnm:x.Name=[]:=c4 e2
        unfold Oc
        rw [decide_eq_true (⟨c1,c2⟩:0≤x.At∧x.At≤4000)]
        by_cases e1:x.Op=1
        · rw [if_pos e1,decide_eq_true ⟨c5,c6,hnm⟩];rfl
        · rw [if_neg e1,if_neg e2,decide_eq_true ⟨c3 e1,hnm⟩];rfl
theorem Nb {N:Nat} (hN:5000≤N) {l:List api_Node} (hl:l.length≤60):∃ b,Z1s N l=some b∧(b=true↔∃ t,RightE l t):=by
  unfold Z1s
  by_cases h:40 < l.length
  · rw [if_pos (by omega), Z1t, if_pos rfl]
    exact ⟨false,rfl,fun h=>(by cases h),fun ⟨t,ht⟩=>by have:=ht.len;omega⟩
  · rw [if_neg (by omega), show (0 : Int) = ((0 : Nat) : Int) from rfl, JaV (by omega) N 0 (kxt _) (by omega)]
    simp only [kxa]
    by_cases he:Lw 1 l 0=(l.length:Int)
    · have h0:0 < l.length:=by
        rcases kyz l.length with h | h
        · exfalso
          have:l=[]:=kza h
          subst this
          exact absurd he (by decide)
        · exact h
      obtain ⟨t,t1,t2⟩:=Jhf h0 he
      have ts:=T.depth_le t
      have tl:=congrArg List.length t2
      rw [T.flat_len] at tl
      have hd:=Nn (l:=l) (by omega) t N [] [] (Jc t2) t1 (by omega)
      rw [decide_eq_false (by simpa using he),Z1t,if_neg (by decide),show (0:Int)=((0:Nat):Int) from rfl,Vg hN hl l.length 0 N (by omega) (by omega),kxf]
      cases hm:l.all Oc with
      | false =>
        refine ⟨false,rfl,fun h=>(by cases h),fun ⟨t,ht⟩=>?_⟩
        rw [kxp.2 ht.may] at hm;cases hm
      | true =>
        rw [if_pos rfl,Z1u,show (0:Int)=(([]:List api_Node).length:Int) from rfl,hd]
        refine ⟨_,rfl,?_⟩
        rw [decide_eq_true_iff]
        constructor
        · intro h12
          exact ⟨t,by omega,fun x hx=>kxp.1 hm x hx,t2,t1,by omega⟩
        · rintro ⟨t', ht'⟩
          have hd':=Nn (l:=l) (by omega) t' N [] [] (Jc ht'.flat) ht'.wk (by have:=ht'.depth;omega)
          rw [hd] at hd'
          have:=kyh hd'
          have:=ht'.depth
          omega
    · rw [decide_eq_true (by simpa using he), Z1t, if_pos rfl]
      exact ⟨false,rfl,fun h=>(by cases h),fun ⟨t,ht⟩=>absurd (JbL ht.wk ht.flat) he⟩
open Classical in
theorem Jac {p:Prop} {b:Bool} (h:b=true↔p):b=decide p:=by
  cases b with
  | true=>exact (decide_eq_true (h.1 rfl)).symm
  | false=>exact (decide_eq_false (fun q=>by cases h.2 q)).symm
def tabS:List Str:=[[],[114,101],[114,110],[110,101],[114,110,101,102],[110],[110],[],[],[110],[110],[101,98],[107,98],[],[101]]
def hS (k:Int):Str:=if 1≤k∧k≤14 then (tabS[k.toNat]?).getD [] else []
theorem Jfk (k:Int):hS k∈tabS:=by
  unfold hS
  split
  · rename_i h
    have hk:k.toNat < tabS.length:=by show k.toNat < 15;omega
    rw [kxq hk]
    exact kxj hk
  · exact .head _
theorem Jdj {k:Int} (h:1≤k∧k≤14):getI tabS k=some (hS k):=by
  have hk:k.toNat < tabS.length:=by show k.toNat < 15;omega
  unfold hS
  rw [if_pos h,Al (j:=k.toNat) (by omega) hk,kxq hk]
  rfl
theorem JdT (N:Nat) (k:Int):Z20 N k=some (hS k):=by
  unfold Z20
  by_cases h:k < 1∨14 < k
  · rw [if_pos (by simpa using h)];unfold hS;rw [if_neg (by omega)]
  · rw [if_neg (by simpa using h)]
    have:=Jdj (k:=k) (by omega)
    unfold tabS at this
    rw [this];rfl
theorem Ku {k:Int} {c:Nat} (hc:c∈[114,110,101,102,107]):Z24 1000001 (hS k) (c:Int)=some (decide (UInt8.ofNat c∈hS k)):=by
  have h:∀ s∈tabS,∀ c∈([114,110,101,102,107]:List Nat),Z24 1000001 s (c:Int)=some (decide (UInt8.ofNat c∈s)):=by decide +kernel
  exact h _ (Jfk k) c hc
def Il (is:Bool) (s:Str):Bool:=if is=true then Ej s else decide (s=[])
open Classical in
noncomputable def Gw (l:List api_Node):Bool:=decide (∃ t,RightE l t)
noncomputable def Ic (is:Bool) (l:List api_Node):Bool:=if is=true then Gw l else decide (l=[])
theorem Kr {N:Nat} (hN:5000≤N) {l:List api_Node} (hl:l.length≤60):Z1s N l=some (Gw l):=by
  obtain ⟨b,h1,h2⟩:=Nb hN hl
  rw [h1]
  congr 1
  exact Jac h2
theorem Jal:Gw []=false:=by
  refine (Jac (b:=false) (p:=∃ t,RightE [] t) ⟨fun h=>(by cases h),fun ⟨t,ht⟩=>?_⟩).symm
  have e:=congrArg List.length ht.flat
  rw [T.flat_len] at e
  have:=T.size_pos t
  simp at e
  omega
noncomputable def Eo (x:api_Stmt):Bool:=
  decide (1≤x.Kind∧x.Kind≤14∧0≤x.At∧x.At≤4000) && (if 107∈hS x.Kind then decide (1≤x.N∧x.N≤8) else decide (x.N=0)) &&
  (Il (decide (114∈hS x.Kind)) x.Reg && (Il (decide (110∈hS x.Kind)) x.Name && (Ic (decide (101∈hS x.Kind)) x.E && Ic (decide (102∈hS x.Kind)) x.F)))
def Fe (x:api_Stmt):Prop:=x.E.length≤60∧x.F.length≤60
theorem Tq {is:Bool} {s:Str}:((is != Ej s) || ((!is) && (decide (s≠[])))) = !Il is s:=by
  unfold Il
  cases is with
  | true=>simp
  | false =>
    by_cases hs:s=[]
    · subst hs;rfl
    · simp [hs]
theorem Tt {is:Bool} {l:List api_Node}:((is != Gw l) || ((!is) && (decide (0 < (l.length:Int))))) = !Ic is l:=by
  unfold Ic
  cases is with
  | true=>simp
  | false =>
    by_cases hs:l=[]
    · subst hs;rw [Jal];rfl
    · have h1 : 0 < l.length := List.length_pos_iff.2 hs
      simp [hs,h1]
theorem Qd (x:api_Stmt) (v:Bool):Z2e 1000001 x (hS x.Kind) v=some ((!v) && (if 107∈hS x.Kind then decide (1≤x.N∧x.N≤8) else decide (x.N=0))):=by
  unfold Z2e
  cases v with
  | true=>rfl
  | false =>
    rw [if_neg (by decide),show (107:Int)=((107:Nat):Int) from rfl,Ku (by decide),show UInt8.ofNat 107=107 from rfl]
    simp only [kxa]
    by_cases h:(107:UInt8)∈hS x.Kind
    · rw [if_pos (by simpa using h),if_pos h,Bool.decide_and (1≤x.N)];rfl
    · rw [if_neg (by simpa using h),if_neg h];rfl
theorem Rw (x:api_Stmt) (hx:Fe x) (r t v:Bool):Z2d 1000001 x (hS x.Kind) r t v=some ((!v) && Ic r x.E && Ic t x.F && (if 107∈hS x.Kind then decide (1≤x.N∧x.N≤8) else decide (x.N=0))):=by
  unfold Z2d
  cases v with
  | true=>rfl
  | false =>
    rw [if_neg (by decide),Kr (N:=1000001) (by decide) hx.1]
    simp only [kxa,Tt]
    cases Ic r x.E with
    | false=>rw [if_pos (by decide),Qd];rfl
    | true =>
      rw [if_neg (by decide),Kr (N:=1000001) (by decide) hx.2]
      simp only [kxa,Tt,Qd]
      simp
theorem JdF (x:api_Stmt) (hx:Fe x):Z2c 1000001 x=some (Eo x):=by
  unfold Z2c Eo
  by_cases hc:1≤x.Kind∧x.Kind≤14∧0≤x.At∧x.At≤4000
  · rw [if_neg (by simp only [kyb, decide_eq_true_eq]; omega), decide_eq_true hc, JdT]
    simp only [kxa]
    rw [show (114:Int)=((114:Nat):Int) from rfl,show (110:Int)=((110:Nat):Int) from rfl,show (101:Int)=((101:Nat):Int) from rfl,show (102:Int)=((102:Nat):Int) from rfl,
      Ku (by decide),Ku (by decide),Ku (by decide),Ku (by decide),Hv (N:=1000001) (by decide)]
    simp only [kxa,Tq]
    have e1:UInt8.ofNat 114=114:=rfl
    have e2:UInt8.ofNat 110=110:=rfl
    have e3:UInt8.ofNat 101=101:=rfl
    have e4:UInt8.ofNat 102=102:=rfl
    rw [e1,e2,e3,e4]
    cases Il (decide (114∈hS x.Kind)) x.Reg with
    | false=>rw [if_pos (by decide),Rw x hx];simp
    | true =>
      rw [if_neg (by decide),Hv (N:=1000001) (by decide)]
      simp only [kxa,Tq,Rw x hx]
      congr 1
      cases Il (decide (110∈hS x.Kind)) x.Name <;> cases Ic (decide (101∈hS x.Kind)) x.E <;> cases Ic (decide (102∈hS x.Kind)) x.F <;> simp
  · rw [if_pos (by simp only [kyb,decide_eq_true_eq];omega),decide_eq_false hc];rfl
theorem Yu {l:List api_Stmt} (hl:l.length≤1000) (hs:∀ x∈l,Fe x) (k:Option Bool):∀ (d j n:Nat),j+d=l.length→d < n→Z23 1000001 k l n (j:Int)=if (l.drop j).all Eo=true then k else some false:=by
  intro d
  induction d with
  | zero =>
    intro j n hj hn
    obtain ⟨n,rfl⟩:∃ m,n=m+1:=⟨n - 1,by omega⟩
    rw [Z23,if_neg (by omega),kxh (by omega)]
    rfl
  | succ d ih =>
    intro j n hj hn
    obtain ⟨n,rfl⟩:∃ m,n=m+1:=⟨n - 1,by omega⟩
    have h1:j < l.length:=by omega
    rw [Z23,if_pos (by omega),Al rfl h1]
    simp only [kxa,JdF _ (hs _ (kxj h1))]
    rw [kxe h1,kxv]
    cases hk:Eo l[j] with
    | false=>simp
    | true =>
      rw [if_pos rfl,Bf h1 (by omega),ih (j+1) n (by omega) (by omega)]
      simp
end Go.MD.SWAPS.R
namespace Go.MD.SWAPS.R
open Go Go.MD Go.MD.SWAPS
open Go.IntKind (i64)
inductive B
  | nil
  | cons (x:api_Stmt) (a b r:B)
def B.flat:B→List api_Stmt
  | .nil=>[]
  | .cons x a b r=>x :: (a.flat ++ (b.flat ++ r.flat))
def B.size:B→Nat
  | .nil=>0
  | .cons _ a b r=>1+a.size+b.size+r.size
def Qo (x:api_Stmt):Prop:=x.Kind=11∨x.Kind=12
instance (x:api_Stmt):Decidable (Qo x):=inferInstanceAs (Decidable (_∨_))
def B.depth:B→Nat
  | .nil=>0
  | .cons x a b r=>if Qo x then max (max (a.depth+1) (b.depth+1)) r.depth else r.depth
def inL (x:api_Stmt) (p:Nat):Nat:=if x.Kind=12 then p+1 else p
def B.good:Nat→B→Prop
  | _,.nil=>True
  | p,.cons x a b r=>x.Body=(a.size:Int)∧x.Else=(b.size:Int)∧(¬ Qo x→a=.nil)∧(x.Kind≠11→b=.nil)∧¬ (x.Kind=13∧p=0)∧a.good (inL x p)∧b.good (inL x p)∧r.good p
theorem B.flat_len:∀ b:B,b.flat.length=b.size
  | .nil=>rfl
  | .cons x a b r=>by simp only [B.flat,B.size,kxz,kxk,a.flat_len,b.flat_len,r.flat_len];omega
theorem B.depth_le:∀ b:B,b.depth≤b.size
  | .nil=>kxb _
  | .cons x a b r => by
    have:=a.depth_le;have:=b.depth_le;have:=r.depth_le
    simp only [B.depth,B.size]
    split <;> omega
theorem B.split {l:List api_Stmt} {i:Nat} (hi:i < l.length) {b:B} {p:Nat} (hg:b.good p) (h:l.drop i=b.flat) :
    ∃ a c r,b=.cons l[i] a c r∧(l.drop (i+1)).take a.size=a.flat∧(l.drop (i+1+a.size)).take c.size=c.flat∧l.drop (i+1+a.size+c.size)=r.flat∧i+1+a.size+c.size≤l.length:=by
  cases b with
  | nil=>rw [kxe hi] at h;cases h
  | cons x a c r =>
    rw [kxe hi,B.flat] at h
    injection h with h1 h2
    have e1:=a.flat_len
    have e2:=c.flat_len
    refine ⟨a,c,r,by rw [h1],?_,?_,?_,?_⟩
    · rw [h2,← e1,List.take_left]
    · rw [← kyr,h2,← e1,kzn,← e2,List.take_left]
    · rw [← kyr,← kyr,h2,← e1,kzn,← e2,kzn]
    · have := congrArg List.length h2
      simp only [kzo,kxk,e1,e2] at this
      omega
theorem Jes {l:List api_Stmt} {i m n:Nat} (hi:i < l.length) (h:i+1+m+n≤l.length):l.drop i=l[i] :: ((l.drop (i+1)).take m ++ ((l.drop (i+1+m)).take n ++ l.drop (i+1+m+n))):=by
  rw [kxe hi]
  congr 1
  rw [← kyr (i:=n) (j:=i+1+m),kys,← kyr (i:=m) (j:=i+1),kys]
theorem Jdh {i n:Nat} {x y:Int} (hn:n≤40) (hi:i < n) (hx:0≤x) (hx2:x≤40) (hy:0≤y) (hy2:y≤40) :
    i64.wrap ((i:Int)+1)=((i+1:Nat):Int)∧i64.wrap (i64.wrap ((i:Int)+1)+x)=((i+1+x.toNat:Nat):Int)∧i64.wrap (i64.wrap (i64.wrap ((i:Int)+1)+x)+y)=((i+1+x.toNat+y.toNat:Nat):Int):=by
  have h1:i64.wrap ((i:Int)+1)=((i+1:Nat):Int):=Bf hi (by omega)
  have h2:i64.wrap (i64.wrap ((i:Int)+1)+x)=((i+1+x.toNat:Nat):Int):=by rw [h1,w64 (by omega) (by omega)];omega
  have h3:i64.wrap (i64.wrap (i64.wrap ((i:Int)+1)+x)+y)=((i+1+x.toNat+y.toNat:Nat):Int):=by rw [h2,w64 (by omega) (by omega)];omega
  exact ⟨h1,h2,h3⟩
theorem Ix {α:Type} {l:List α} {i j:Nat} (h:i+j≤l.length):Dj l (i:Int) ((i+j:Nat):Int)=some ((l.drop i).take j):=by
  rw [Ef (by omega) (by omega) (by omega)]
  congr 1
  simp only [kya]
  rw [List.drop_take]
  congr 1
  omega
def DR (l:List api_Stmt) (p i v:Nat) (r:Int):Prop:=
  (∃ b:B,b.good p∧l.drop i=b.flat∧r=((max v b.depth:Nat):Int))∨(r = -1∧∀ b:B,b.good p→l.drop i≠b.flat)
def stB (D:List api_Stmt→Int→Option Int) (L:Int→Int→Option Int) (p1:List api_Stmt) (p6 vB1 vB2:Int):Option Int:=
  if vB2 < (p1.length:Int) then
      (getI p1 vB2).bind fun x8=>
      if (((((decide (x8.Body < 0)) || (decide (x8.Else < 0))) || (decide (40 < x8.Body))) || (decide (40 < x8.Else))) || (decide ((p1.length:Int) < (i64.wrap ((i64.wrap ((i64.wrap (vB2+1))+x8.Body))+x8.Else)))))=true then
        some (-1)
      else
        if (((((decide (0 < x8.Body)) && (decide (x8.Kind≠11))) && (decide (x8.Kind≠12))) || ((decide (0 < x8.Else)) && (decide (x8.Kind≠11)))) || ((decide (x8.Kind=13)) && (decide (p6=0))))=true then
          some (-1)
        else
          if x8.Kind=12 then
            (Z29 D L p1 x8 vB1 vB2) (i64.wrap (p6+1))
          else
            (Z29 D L p1 x8 vB1 vB2) p6
    else
      some vB1
theorem JeZ (D:List api_Stmt→Int→Option Int) (N:Nat) (p1:List api_Stmt) (p6 vB1 vB2:Int) (n:Nat):Z2b D N Z28 p1 p6 (n+1) vB1 vB2=stB D (Z2b D N Z28 p1 p6 n) p1 p6 vB1 vB2:=rfl
theorem Jb8 (p:Nat):(p:Int)+1=((p+1:Nat):Int):=by omega
set_option maxHeartbeats 1000000 in
theorem JbC (D2:List api_Stmt→Int→Option Int) (L2:Int→Int→Option Int) {l:List api_Stmt} {i p v:Nat} (h40:l.length≤40) (hp:p+l.length≤1000) (hv:v≤100) (h1:i < l.length)
    (ih:∀ l':List api_Stmt,l'.length < l.length→∀ q:Nat,q≤p+1→∃ r,D2 l' (q:Int)=some r∧DR l' q 0 0 r)
    (nx:∀ j v':Nat,i < j→j≤l.length→v'≤100→∃ r,L2 (v':Int) (j:Int)=some r∧DR l p j v' r) :
    ∃ r,stB D2 L2 l (p:Int) (v:Int) (i:Int)=some r∧DR l p i v r:=by
  rw [stB,if_pos (by omega),Al rfl h1]
  simp only [kxa,kyb,kxc,decide_eq_true_eq,kyc,kym,decide_eq_false_iff_not]
  generalize hx:l[i]=x
  -- is there room
  by_cases hroom:0≤x.Body∧0≤x.Else∧(i:Int)+1+x.Body+x.Else≤(l.length:Int)
  rotate_left
  · refine ⟨-1, ?_, .inr ⟨rfl, fun b hg hb => ?_⟩⟩
    · rw [if_pos]
      by_cases q:0≤x.Body∧0≤x.Else∧x.Body≤40∧x.Else≤40
      · right;rw [(Jdh h40 h1 q.1 (by omega) q.2.1 (by omega)).2.2];omega
      · left;omega
    · obtain ⟨a, c, r, rfl, _, _, _, h5⟩ := B.split h1 hg hb
      rw [hx] at hg
      obtain ⟨g1,g2,_⟩:=hg
      omega
  obtain ⟨w1,w2,w3⟩:=Jdh (x:=x.Body) (y:=x.Else) h40 h1 hroom.1 (by omega) hroom.2.1 (by omega)
  obtain ⟨bn,hbn⟩:∃ q:Nat,x.Body=(q:Int):=⟨x.Body.toNat,by omega⟩
  obtain ⟨en,hen⟩:∃ q:Nat,x.Else=(q:Int):=⟨x.Else.toNat,by omega⟩
  rw [w3]
  have hB : ¬ ((((x.Body < 0∨x.Else < 0)∨40 < x.Body)∨40 < x.Else)∨(l.length:Int) < ((i+1+x.Body.toNat+x.Else.toNat:Nat):Int)):=by omega
  rw [if_neg hB]
  have hle:i+1+bn+en≤l.length:=by omega
  rw [hbn,hen,kya,kya] at w3
  rw [hbn,kya] at w2
  by_cases hk:(¬ Qo x∧0 < bn)∨(x.Kind≠11∧0 < en)∨(x.Kind=13∧p=0)
  · refine ⟨-1, ?_, .inr ⟨rfl, fun b hg hb => ?_⟩⟩
    · unfold Qo at hk
      rw [if_pos (by omega)]
    · obtain ⟨a, c, r, rfl, _, _, _, _⟩ := B.split h1 hg hb
      rw [hx] at hg
      obtain ⟨g1,g2,g3,g4,g5,_⟩:=hg
      rcases hk with ⟨q1,q2⟩ | ⟨q1,q2⟩ | q
      · rw [g3 q1] at g1;simp [B.size] at g1;omega
      · rw [g4 q1] at g2;simp [B.size] at g2;omega
      · exact g5 q
  have hk1 : ¬ Qo x→bn=0:=fun q=>by
    rcases kyz bn with h | h
    · exact h
    · exact absurd (.inl ⟨q,h⟩) hk
  have hk2:x.Kind≠11→en=0:=fun q=>by
    rcases kyz en with h | h
    · exact h
    · exact absurd (.inr (.inl ⟨q,h⟩)) hk
  have hk3 : ¬ (x.Kind=13∧p=0):=fun q=>hk (.inr (.inr q))
  have e1 : ¬ ((¬x.Kind=11∧¬x.Kind=12)∧0 < x.Body):=by
    rintro ⟨⟨q1,q2⟩,q3⟩
    have:=hk1 (fun h=>by rcases h with h | h <;> omega)
    omega
  have e2 : ¬ (x.Kind≠11∧0 < x.Else):=by
    rintro ⟨q1,q3⟩
    have:=hk2 q1
    omega
  have e3 : ¬ ((((0 < x.Body∧x.Kind≠11)∧x.Kind≠12)∨0 < x.Else∧x.Kind≠11)∨x.Kind=13∧(p:Int)=0):=by
    intro q
    rcases q with (q | q) | q
    · exact e1 ⟨⟨q.1.2,q.2⟩,q.1.1⟩
    · exact e2 ⟨q.2,q.1⟩
    · exact hk3 ⟨q.1,by omega⟩
  rw [if_neg e3]
  -- Jb comes behind
  have next:∀ v':Nat,v'≤100→∃ r,Z2a L2 x (i:Int) (v':Int)=some r∧DR l p (i+1+bn+en) v' r:=by
    intro v' hv'
    obtain ⟨r,r2,r3⟩:=nx (i+1+bn+en) v' (by omega) hle hv'
    refine ⟨r,?_,r3⟩
    · rw [Z2a,hbn,hen,w3,r2]
  have hpp:(if x.Kind=12 then Z29 D2 L2 l x (v:Int) (i:Int) (i64.wrap ((p:Int)+1)) else Z29 D2 L2 l x (v:Int) (i:Int) (p:Int)) =
      Z29 D2 L2 l x (v:Int) (i:Int) ((inL x p:Nat):Int):=by
    unfold inL
    by_cases q:x.Kind=12
    · rw [if_pos q,if_pos q,w64 (by omega) (by omega),Jb8]
    · rw [if_neg q,if_neg q]
  rw [hpp,Z29]
  by_cases hbl:Qo x
  · have hb2 : ((decide (x.Kind = 11)) || (decide (x.Kind = 12))) = true := by simpa [Qo] using hbl
    rw [if_pos hb2]
    rw [hbn,hen,w3,w2,w1,Ix (by omega),show i+1+bn+en=(i+1+bn)+en from rfl,Ix (i:=i+1+bn) (by omega)]
    simp only [kxa]
    have hil2:inL x p≤p+1:=by unfold inL;split <;> omega
    obtain ⟨r1,a2,a3⟩:=ih ((l.drop (i+1)).take bn) (by simp;omega) (inL x p) hil2
    obtain ⟨r2,c2,c3⟩:=ih ((l.drop (i+1+bn)).take en) (by simp;omega) (inL x p) hil2
    rw [a2]
    simp only [kxa]
    rw [c2]
    simp only [kxa]
    unfold DR at a3 c3
    rw [kxf] at a3 c3
    rcases a3 with ⟨ba,ga,fa,da⟩ | ⟨da,na⟩
    rotate_left
    · refine ⟨-1, ?_, .inr ⟨rfl, fun b hg hb => ?_⟩⟩
      · rw [if_pos (by simp [da])]
      · obtain ⟨a, c, r, rfl, s1, _⟩ := B.split h1 hg hb
        rw [hx] at hg
        obtain ⟨g1,g2,_,_,_,g6,_⟩:=hg
        have:a.size=bn:=by omega
        rw [this] at s1
        exact na a g6 s1
    rcases c3 with ⟨bc,gc,fc,dc⟩ | ⟨dc,nc⟩
    rotate_left
    · refine ⟨-1, ?_, .inr ⟨rfl, fun b hg hb => ?_⟩⟩
      · rw [if_pos (by simp [dc])]
      · obtain ⟨a, c, r, rfl, _, s2, _⟩ := B.split h1 hg hb
        rw [hx] at hg
        obtain ⟨g1,g2,_,_,_,_,g7,_⟩:=hg
        have q1:a.size=bn:=by omega
        have q2:c.size=en:=by omega
        rw [q1,q2] at s2
        exact nc c g7 s2
    have la:=congrArg List.length fa
    have lc:=congrArg List.length fc
    rw [B.flat_len] at la lc
    simp only [kyg,kzo] at la lc
    have sa:x.Body=(ba.size:Int):=by rw [hbn];clear hpp hB hk;omega
    have sc:x.Else=(bc.size:Int):=by rw [hen];clear hpp hB hk;omega
    have dla:=ba.depth_le
    have dlc:=bc.depth_le
    rw [if_neg (by simp [da,dc]),da,dc]
    have ex2:max (max (v:Int) (i64.wrap (1+((max 0 ba.depth:Nat):Int)))) (i64.wrap (1+((max 0 bc.depth:Nat):Int)))=((max (max v (ba.depth+1)) (bc.depth+1):Nat):Int):=by
      rw [w64 (by omega) (by omega),w64 (by omega) (by omega)];omega
    rw [ex2]
    clear ex2 hpp hB hk
    obtain ⟨r,r2',r3⟩:=next (max (max v (ba.depth+1)) (bc.depth+1)) (by omega)
    refine ⟨r,r2',?_⟩
    rcases r3 with ⟨br,gr,fr,dr⟩ | ⟨dr,nr⟩
    · refine .inl ⟨.cons x ba bc br, ⟨sa, sc, fun q => absurd hbl q, fun q => ?_, hk3, ga, gc, gr⟩, ?_, ?_⟩
      · have := hk2 q
        cases bc with
        | nil=>rfl
        | cons _ _ _ _=>simp only [B.size] at lc;omega
      · rw [Jes h1 hle,hx,fa,fc,fr];rfl
      · rw [dr];simp only [B.depth,if_pos hbl];omega
    · refine .inr ⟨dr, fun b hg hb => ?_⟩
      obtain ⟨a,c,r,rfl,_,_,s3,_⟩:=B.split h1 hg hb
      rw [hx] at hg
      obtain ⟨g1,g2,_,_,_,_,_,g8⟩:=hg
      have q1:a.size=bn:=by omega
      have q2:c.size=en:=by omega
      rw [q1,q2] at s3
      exact nr r g8 s3
  · have hb2 : ¬ (((decide (x.Kind = 11)) || (decide (x.Kind = 12))) = true) := by simpa [Qo] using hbl
    rw [if_neg hb2]
    have q1:=hk1 hbl
    have q2:=hk2 (fun h=>hbl (.inl h))
    subst q1;subst q2
    obtain ⟨r,r2',r3⟩:=next v hv
    refine ⟨r,r2',?_⟩
    rcases r3 with ⟨br,gr,fr,dr⟩ | ⟨dr,nr⟩
    · refine .inl ⟨.cons x .nil .nil br, ⟨hbn, hen, fun _ => rfl, fun _ => rfl, hk3, trivial, trivial, gr⟩, ?_, ?_⟩
      · rw [Jes h1 hle,hx,fr];simp [B.flat]
      · rw [dr,B.depth,if_neg hbl]
    · refine .inr ⟨dr, fun b hg hb => ?_⟩
      obtain ⟨a,c,r,rfl,_,_,s3,_⟩:=B.split h1 hg hb
      rw [hx] at hg
      obtain ⟨g1,g2,_,_,_,_,_,g8⟩:=hg
      have q1:a.size=0:=by omega
      have q2:c.size=0:=by omega
      rw [q1,q2] at s3
      exact nr r g8 s3
theorem Jbq:∀ (m:Nat) (l:List api_Stmt),l.length≤m→l.length≤40→∀ (p fuel:Nat),p+l.length≤1000→l.length+2≤fuel→
    ∃ r,Z27 fuel l (p:Int)=some r∧DR l p 0 0 r:=by
  intro m
  induction m with
  | zero =>
    intro l hm h40 p fuel hp hf
    have:l=[]:=kza (by omega)
    subst this
    obtain ⟨f,rfl⟩:∃ f,fuel=f+1+1:=⟨fuel - 2,by simp at hf;omega⟩
    refine ⟨0,?_,.inl ⟨.nil,trivial,rfl,rfl⟩⟩
    · rw [Z27,Z2b,if_neg (by simp)];rfl
  | succ m ih =>
    intro l hm h40 p fuel hp hf
    obtain ⟨f,rfl⟩:∃ f,fuel=f+1:=⟨fuel - 1,by omega⟩
    have key:∀ (d i n v:Nat),l.length - i≤d→i≤l.length→l.length - i < n→v≤100→
        ∃ r,Z2b (Z27 f) f Z28 l (p:Int) n (v:Int) (i:Int)=some r∧DR l p i v r:=by
      intro d
      induction d with
      | zero =>
        intro i n v hd hi hn hv
        obtain ⟨n,rfl⟩:∃ q,n=q+1:=⟨n - 1,by omega⟩
        refine ⟨v,?_,.inl ⟨.nil,trivial,by rw [kxh (by omega)];rfl,by simp [B.depth]⟩⟩
        · rw [Z2b,if_neg (by omega)];rfl
      | succ d ihd =>
        intro i n v hd hi hn hv
        obtain ⟨n,rfl⟩:∃ q,n=q+1:=⟨n - 1,by omega⟩
        by_cases hil:i=l.length
        · refine ⟨v, ?_, .inl ⟨.nil, trivial, by rw [kxh (by omega)]; rfl, by simp [B.depth]⟩⟩
          · rw [Z2b,if_neg (by omega)];rfl
        have h1:i < l.length:=by omega
        rw [JeZ]
        exact JbC (Z27 f) _ h40 hp hv h1 (fun l' hl' q hq=>ih l' (by omega) (by omega) q f (by omega) (by omega)) (fun j v' hj hj2 hv'=>ihd j n v' (by omega) hj2 (by omega) hv')
    obtain ⟨r,r2,r3⟩:=key l.length 0 f 0 (by omega) (kxt _) (by omega) (by omega)
    refine ⟨r,?_,r3⟩
    · rw [Z27];exact r2
theorem B.uniq:∀ {b c:B} {p q:Nat},b.good p→c.good q→b.flat=c.flat→b=c:=by
  intro b
  induction b with
  | nil=>intro c p q _ _ h;cases c with | nil=>rfl | cons _ _ _ _=>simp [B.flat] at h
  | cons x a d r iha ihd ihr =>
    intro c p q hb hc h
    cases c with
    | nil=>simp [B.flat] at h
    | cons y a' d' r' =>
      simp only [B.flat,List.cons.injEq] at h
      obtain ⟨rfl,h⟩:=h
      obtain ⟨b1,b2,_,_,_,b6,b7,b8⟩:=hb
      obtain ⟨c1,c2,_,_,_,c6,c7,c8⟩:=hc
      have e1:a.flat.length=a'.flat.length:=by rw [B.flat_len,B.flat_len];omega
      have e2:d.flat.length=d'.flat.length:=by rw [B.flat_len,B.flat_len];omega
      obtain ⟨h1,h2⟩:=List.append_inj h e1
      obtain ⟨h3,h4⟩:=List.append_inj h2 e2
      rw [iha b6 c6 h1,ihd b7 c7 h3,ihr b8 c8 h4]
structure RB (l:List api_Stmt) (t:B):Prop where
  len:l.length≤40
  fits:∀ x∈l,Eo x=true
  good:t.good 0
  flat:l=t.flat
  depth:t.depth≤12
theorem JeP {l:List api_Stmt} (hl:l.length≤1000) (hs:∀ x∈l,Fe x):∃ b,Z21 1000001 l=some b∧(b=true↔∃ t,RB l t):=by
  unfold Z21
  by_cases h:40 < l.length
  · rw [if_pos (by omega)]
    exact ⟨false,rfl,fun h=>(by cases h),fun ⟨t,ht⟩=>by have:=ht.len;omega⟩
  · rw [if_neg (by omega), show (0 : Int) = ((0 : Nat) : Int) from rfl, Yu hl hs _ l.length 0 1000001 (by omega) (by omega), kxf]
    cases hm:l.all Eo with
    | false =>
      refine ⟨false,by simp,fun h=>(by cases h),fun ⟨t,ht⟩=>?_⟩
      rw [kxp.2 ht.fits] at hm;cases hm
    | true =>
      obtain ⟨r,r2,r3⟩:=Jbq l.length l (kxb _) (by omega) 0 1000001 (by omega) (by omega)
      rw [if_pos rfl,Z22,show (0:Int)=((0:Nat):Int) from rfl,r2]
      simp only [kxa]
      rcases r3 with ⟨t,g,f,rfl⟩ | ⟨rfl,hn⟩
      · rw [kxf] at f
        refine ⟨decide (t.depth≤12),?_,?_⟩
        · congr 1;rw [kzi];simp only [kxc,decide_eq_true_eq];omega
        · rw [decide_eq_true_eq]
          constructor
          · intro hd;exact ⟨t,by omega,kxp.1 hm,g,f,hd⟩
          · rintro ⟨t', ht'⟩
            have:t=t':=B.uniq g ht'.good (by rw [← f,ht'.flat])
            subst this;exact ht'.depth
      · refine ⟨false, by decide, fun h => (by cases h), fun ⟨t, ht⟩ => ?_⟩
        exact absurd ht.flat (by have:=hn t ht.good;rwa [kxf] at this)
def B.okN:B→Prop
  | .nil=>True
  | .cons x a b r=>(x.Kind=12→1≤x.N∧x.N≤8)∧a.okN∧b.okN∧r.okN
theorem Jfc {x:api_Stmt} (h:Eo x=true):x.Kind=12→1≤x.N∧x.N≤8:=by
  intro hk
  unfold Eo at h
  rw [hk] at h
  simp only [kxc] at h
  have h1:=h.1.2
  rw [if_pos (by decide)] at h1
  simpa using h1
theorem Uz:∀ (b:B),(∀ x∈b.flat,Eo x=true)→b.okN
  | .nil,_=>trivial
  | .cons x a c r,h=>⟨Jfc (h x (.head _)),Uz a (fun y hy=>h y (by simp [B.flat,hy])),Uz c (fun y hy=>h y (by simp [B.flat,hy])),Uz r (fun y hy=>h y (by simp [B.flat,hy]))⟩
theorem Pw (x:api_Stmt) (a c r:B) (p:Nat) (hg:(B.cons x a c r).good p):a.depth≤(B.cons x a c r).depth∧c.depth≤(B.cons x a c r).depth∧r.depth≤(B.cons x a c r).depth:=by
  obtain ⟨_,_,g3,g4,_⟩:=hg
  by_cases hb:Qo x
  · rw [B.depth,if_pos hb];omega
  · rw [B.depth, if_neg hb]
    have e1:=g3 hb
    have e2:=g4 (fun h=>hb (.inl h))
    subst e1;subst e2
    simp [B.depth]
structure OKB (b:B):Prop where
  good:∃ p,b.good p
  okN:b.okN
  size:b.size≤40
  depth:b.depth≤12
theorem OKB.a {x:api_Stmt} {a c r:B} (h:OKB (.cons x a c r)):OKB a:=by
  obtain ⟨⟨p,hg⟩,hn,hs,hd⟩:=h
  have:=Pw x a c r p hg
  simp only [B.size] at hs
  exact ⟨⟨_,hg.2.2.2.2.2.1⟩,hn.2.1,by omega,by omega⟩
theorem OKB.c {x:api_Stmt} {a c r:B} (h:OKB (.cons x a c r)):OKB c:=by
  obtain ⟨⟨p,hg⟩,hn,hs,hd⟩:=h
  have:=Pw x a c r p hg
  simp only [B.size] at hs
  exact ⟨⟨_,hg.2.2.2.2.2.2.1⟩,hn.2.2.1,by omega,by omega⟩
theorem OKB.r {x:api_Stmt} {a c r:B} (h:OKB (.cons x a c r)):OKB r:=by
  obtain ⟨⟨p,hg⟩,hn,hs,hd⟩:=h
  have:=Pw x a c r p hg
  simp only [B.size] at hs
  exact ⟨⟨_,hg.2.2.2.2.2.2.2⟩,hn.2.2.2,by omega,by omega⟩
theorem RB.ok {l:List api_Stmt} {t:B} (h:RB l t):OKB t:=by
  refine ⟨⟨0,h.good⟩,Uz t (fun x hx=>h.fits x (by rw [h.flat];exact hx)),?_,h.depth⟩
  have:=congrArg List.length h.flat
  rw [B.flat_len] at this
  have:=h.len
  omega
theorem parts {l:List api_Stmt} {i:Nat} {x:api_Stmt} {a c r:B} (hl:l.length≤40) (hb:OKB (.cons x a c r)) (h:l.drop i=(B.cons x a c r).flat) :
    i < l.length∧getI l (i:Int)=some x∧i64.wrap ((i:Int)+1)=((i+1:Nat):Int)∧
    i64.wrap (((i+1:Nat):Int)+x.Body)=((i+1+a.size:Nat):Int)∧
    i64.wrap (((i+1+a.size:Nat):Int)+x.Else)=((i+1+a.size+c.size:Nat):Int)∧
    Dj l ((i+1:Nat):Int) ((i+1+a.size:Nat):Int)=some a.flat∧Dj l ((i+1+a.size:Nat):Int) ((i+1+a.size+c.size:Nat):Int)=some c.flat∧
    l.drop (i+1+a.size+c.size)=r.flat∧i+1+a.size+c.size+r.size=l.length:=by
  have hi:i < l.length:=by
    rcases Nat.lt_or_ge i l.length with h1 | h1
    · exact h1
    · rw [kxh h1] at h;simp [B.flat] at h
  obtain ⟨⟨p,hg⟩,hn,hs,hd⟩:=hb
  obtain ⟨a',c',r',e,s1,s2,s3,s4⟩:=B.split hi hg h
  injection e with e0 e1 e2 e3
  subst e1;subst e2;subst e3
  obtain ⟨g1,g2,_⟩:=hg
  have w:=Jdh (x:=x.Body) (y:=x.Else) hl hi (by omega) (by omega) (by omega) (by omega)
  have t1:x.Body.toNat=a.size:=by omega
  have t2:x.Else.toNat=c.size:=by omega
  obtain ⟨w1,w2,w3⟩:=w
  rw [t1,t2] at w3
  rw [t1] at w2
  rw [w2] at w3
  rw [w1] at w2
  refine ⟨hi,by rw [Al rfl hi,e0],w1,w2,w3,?_,?_,s3,?_⟩
  · rw [Ix (by omega),s1]
  · rw [Ix (by omega),s2]
  · have := congrArg List.length s3
    rw [B.flat_len,kzo] at this
    omega
theorem JbO (p:List api_Node):∀ (d j n:Nat) (out:List api_Node),j+d=60→d < n→out.length≤j→
    ∃ r,Zo 1000001 Zn p n out (j:Int)=some r∧r.length≤60:=by
  intro d
  induction d with
  | zero =>
    intro j n out hj hn ho
    obtain ⟨n,rfl⟩:∃ m,n=m+1:=⟨n - 1,by omega⟩
    rw [Zo,if_neg (by simp;omega)]
    exact ⟨out,rfl,by omega⟩
  | succ d ih =>
    intro j n out hj hn ho
    obtain ⟨n,rfl⟩:∃ m,n=m+1:=⟨n - 1,by omega⟩
    by_cases h1:j < p.length
    · rw [Zo, if_pos (by simp; omega), Al rfl h1]
      simp only [kxa]
      rw [Ef (by omega) (by omega) (by omega)]
      simp only [kxa]
      rw [Ax (by simp;omega) (by decide)]
      simp only [kxa]
      rw [Bf (n:=60) (by omega) (by decide)]
      exact ih (j+1) n _ (by omega) (by omega) (by simp;omega)
    · rw [Zo, if_neg (by simp; omega)]
      exact ⟨out,rfl,by omega⟩
theorem Jfs (p:List api_Node):∃ r,Zm 1000001 p=some r∧r.length≤60:=JbO p 60 0 1000001 [] (by decide) (by decide) (kxb _)
theorem JbN (p:List api_Stmt):∀ (d j n:Nat) (out:List api_Stmt),j+d=50→d < n→out.length≤j→(∀ x∈out,Fe x)→
    ∃ r,Zr 1000001 Zq p n out (j:Int)=some r∧r.length≤50∧∀ x∈r,Fe x:=by
  intro d
  induction d with
  | zero =>
    intro j n out hj hn ho hs
    obtain ⟨n,rfl⟩:∃ m,n=m+1:=⟨n - 1,by omega⟩
    rw [Zr,if_neg (by simp;omega)]
    exact ⟨out,rfl,by omega,hs⟩
  | succ d ih =>
    intro j n out hj hn ho hs
    obtain ⟨n,rfl⟩:∃ m,n=m+1:=⟨n - 1,by omega⟩
    by_cases h1:j < p.length
    · rw [Zr, if_pos (by simp; omega), Al rfl h1]
      simp only [kxa]
      rw [Ef (by omega) (by omega) (by omega)]
      simp only [kxa]
      rw [Ef (by omega) (by omega) (by omega)]
      simp only [kxa]
      obtain ⟨e,he,hel⟩:=Jfs p[j].E
      obtain ⟨g,hg,hgl⟩:=Jfs p[j].F
      rw [he,hg]
      simp only [kxa]
      rw [Ax (by simp;omega) (by decide)]
      simp only [kxa]
      rw [Bf (n:=50) (by omega) (by decide)]
      refine ih (j+1) n _ (by omega) (by omega) (by simp;omega) ?_
      intro x hx
      rcases kxi.1 hx with hx | hx
      · exact hs x hx
      · simp only [kxg, kxu, or_false] at hx
        subst hx;exact ⟨hel,hgl⟩
    · rw [Zr, if_neg (by simp; omega)]
      exact ⟨out,rfl,by omega,hs⟩
theorem Jhq (p:List api_Stmt):∃ r,Zp 1000001 p=some r∧r.length≤50∧∀ x∈r,Fe x:=JbN p 50 0 1000001 [] (by decide) (by decide) (kxb _) (fun x hx=>nomatch hx)
def B.app:B→B→B
  | .nil,c=>c
  | .cons x a b r,c=>.cons x a b (r.app c)
theorem B.app_flat:∀ b c:B,(b.app c).flat=b.flat ++ c.flat
  | .nil,c=>rfl
  | .cons x a b r,c=>by simp [B.app,B.flat,r.app_flat c]
theorem B.app_good {p:Nat} {c:B} (hc:c.good p):∀ b:B,b.good p→(b.app c).good p
  | .nil,_=>hc
  | .cons x a b r,⟨h1,h2,h3,h4,h5,h6,h7,h8⟩=>⟨h1,h2,h3,h4,h5,h6,h7,B.app_good hc r h8⟩
theorem Uj {l:List api_Stmt} {x:api_Stmt} {a c r:B} (hb:OKB (.cons x a c r)) (h:l=(B.cons x a c r).flat) :
    0 < l.length∧getI l 0=some x∧i64.wrap (1+x.Body)=((1+a.size:Nat):Int)∧i64.wrap (((1+a.size:Nat):Int)+x.Else)=((1+a.size+c.size:Nat):Int)∧
    Dj l 1 ((1+a.size:Nat):Int)=some a.flat∧Dj l ((1+a.size:Nat):Int) ((1+a.size+c.size:Nat):Int)=some c.flat∧
    Dj l ((1+a.size+c.size:Nat):Int) (l.length:Int)=some r.flat:=by
  have hl:l.length≤40:=by rw [h,B.flat_len];exact hb.size
  obtain ⟨h1,h2,w1,w2,w3,s1,s2,s3,s4⟩:=parts (i:=0) hl hb (by rw [kxf];exact h)
  simp only [kxs] at w1 w2 w3 s1 s2 s3 s4
  refine ⟨h1,h2,w2,w3,s1,s2,?_⟩
  rw [show (l.length:Int)=((1+a.size+c.size+r.size:Nat):Int) from by omega,Ix (by omega),s3,kzp (by rw [B.flat_len];exact kxb _)]
structure SmallT (t:api_Thread):Prop where
  regs:t.Regs.length≤6
  body:t.Body.length≤50
  small:∀ x∈t.Body,Fe x
structure SmallP (p:api_Prog):Prop where
  lines:p.Lines.length≤6
  line:∀ l∈p.Lines,l.length≤8
  vols:p.Vols.length≤8
  locks:p.Locks.length≤8
  threads:p.Threads.length≤4
  thread:∀ t∈p.Threads,SmallT t
  recover:p.Recover.length≤4
  recov:∀ t∈p.Recover,SmallT t
  claims:p.Claims.length≤6
  claim:∀ c∈p.Claims,c.E.length≤60
theorem Y9 (p:List api_Cell):∀ (d j n:Nat) (out:List api_Cell),j+d=8→d < n→out.length≤j→
    ∃ r,Z10 1000001 Zz p n out (j:Int)=some r∧r.length≤8:=by
  intro d
  induction d with
  | zero =>
    intro j n out hj hn ho
    obtain ⟨n,rfl⟩:∃ m,n=m+1:=⟨n - 1,by omega⟩
    rw [Z10,if_neg (by simp;omega)]
    exact ⟨out,rfl,by omega⟩
  | succ d ih =>
    intro j n out hj hn ho
    obtain ⟨n,rfl⟩:∃ m,n=m+1:=⟨n - 1,by omega⟩
    by_cases h1:j < p.length
    · rw [Z10, if_pos (by simp; omega), Al rfl h1]
      simp only [kxa]
      rw [Ef (by omega) (by omega) (by omega)]
      simp only [kxa]
      rw [Ax (by simp;omega) (by decide)]
      simp only [kxa]
      rw [Bf (n:=8) (by omega) (by decide)]
      exact ih (j+1) n _ (by omega) (by omega) (by simp;omega)
    · rw [Z10, if_neg (by simp; omega)]
      exact ⟨out,rfl,by omega⟩
theorem JeH (p:List api_Cell):∃ r,Zy 1000001 p=some r∧r.length≤8:=Y9 p 8 0 1000001 [] (by decide) (by decide) (kxb _)
theorem JbI {p:List api_Thread} {i:Nat} (hi:i < p.length) (k:List Str→Option (List api_Thread)) (P:Option (List api_Thread)→Prop) (hk:∀ r:List Str,r.length≤6→P (k r)):∀ (d j n:Nat) (out:List Str),j+d=6→d < n→out.length≤j→
    P (Z17 1000001 k p (i:Int) n out (j:Int)):=by
  intro d
  induction d with
  | zero =>
    intro j n out hj hn ho
    obtain ⟨n,rfl⟩:∃ m,n=m+1:=⟨n - 1,by omega⟩
    rw [Z17,Al rfl hi]
    simp only [kxa]
    rw [if_neg (by simp;omega)]
    exact hk out (by omega)
  | succ d ih =>
    intro j n out hj hn ho
    obtain ⟨n,rfl⟩:∃ m,n=m+1:=⟨n - 1,by omega⟩
    rw [Z17,Al rfl hi]
    simp only [kxa]
    by_cases h1:j < p[i].Regs.length
    · rw [if_pos (by simp; omega), Al rfl h1]
      simp only [kxa]
      rw [Ef (by omega) (by omega) (by omega)]
      simp only [kxa]
      rw [Ax (by simp;omega) (by decide)]
      simp only [kxa]
      rw [Bf (n:=6) (by omega) (by decide)]
      exact ih (j+1) n _ (by omega) (by omega) (by simp;omega)
    · rw [if_neg (by simp; omega)]
      exact hk out (by omega)
theorem Ug (p:List api_Thread):∀ (d j n:Nat) (out:List api_Thread),j+d=4→d < n→out.length≤j→(∀ t∈out,SmallT t)→
    ∃ r,Z16 1000001 Z12 p n out (j:Int)=some r∧r.length≤4∧∀ t∈r,SmallT t:=by
  intro d
  induction d with
  | zero =>
    intro j n out hj hn ho hs
    obtain ⟨n,rfl⟩:∃ m,n=m+1:=⟨n - 1,by omega⟩
    rw [Z16,if_neg (by simp;omega)]
    exact ⟨out,rfl,by omega,hs⟩
  | succ d ih =>
    intro j n out hj hn ho hs
    obtain ⟨n,rfl⟩:∃ m,n=m+1:=⟨n - 1,by omega⟩
    by_cases h1:j < p.length
    · rw [Z16, if_pos (by simp; omega), Al rfl h1]
      simp only [kxa]
      rw [Ef (by omega) (by omega) (by omega)]
      simp only [kxa]
      obtain ⟨b,hb,hbl,hbs⟩:=Jhq p[j].Body
      rw [hb]
      simp only [kxa]
      rw [Z14,show (0:Int)=((0:Nat):Int) from rfl]
      refine JbI h1 _ (fun o=>∃ r,o=some r∧r.length≤4∧∀ t∈r,SmallT t) (fun rg hrg=>?_) 6 0 1000001 [] (by decide) (by decide) (kxb _)
      rw [Z15,Ax (by simp;omega) (by decide)]
      simp only [kxa]
      rw [Z13,Bf (n:=4) (by omega) (by decide)]
      refine ih (j+1) n _ (by omega) (by omega) (by simp;omega) ?_
      intro t ht
      rcases kxi.1 ht with ht | ht
      · exact hs t ht
      · simp only [kxg, kxu, or_false] at ht
        subst ht;exact ⟨hrg,hbl,hbs⟩
    · rw [Z16, if_neg (by simp; omega)]
      exact ⟨out,rfl,by omega,hs⟩
theorem Jhi (p:List api_Thread):∃ r,Z11 1000001 p=some r∧r.length≤4∧∀ t∈r,SmallT t:=Ug p 4 0 1000001 [] (by decide) (by decide) (kxb _) (fun x hx=>nomatch hx)
theorem We (p:api_Prog) (k:List api_Claim→Option api_Prog) (P:Option api_Prog→Prop) (hk:∀ r:List api_Claim,r.length≤6→(∀ c∈r,c.E.length≤60)→P (k r)):∀ (d j n:Nat) (out:List api_Claim),j+d=6→d < n→out.length≤j→(∀ c∈out,c.E.length≤60)→
    P (Zx 1000001 k p n out (j:Int)):=by
  intro d
  induction d with
  | zero =>
    intro j n out hj hn ho hs
    obtain ⟨n,rfl⟩:∃ m,n=m+1:=⟨n - 1,by omega⟩
    rw [Zx,if_neg (by simp;omega)]
    exact hk out (by omega) hs
  | succ d ih =>
    intro j n out hj hn ho hs
    obtain ⟨n,rfl⟩:∃ m,n=m+1:=⟨n - 1,by omega⟩
    by_cases h1:j < p.Claims.length
    · rw [Zx, if_pos (by simp; omega), Al rfl h1]
      simp only [kxa]
      obtain ⟨e,he,hel⟩:=Jfs p.Claims[j].E
      rw [he]
      simp only [kxa]
      rw [Ax (by simp;omega) (by decide)]
      simp only [kxa]
      rw [Bf (n:=6) (by omega) (by decide)]
      refine ih (j+1) n _ (by omega) (by omega) (by simp;omega) ?_
      intro t ht
      rcases kxi.1 ht with ht | ht
      · exact hs t ht
      · simp only [kxg, kxu, or_false] at ht
        subst ht;exact hel
    · rw [Zx, if_neg (by simp; omega)]
      exact hk out (by omega) hs
theorem Jau (p:api_Prog) (k:List (List api_Cell)→Option api_Prog) (P:Option api_Prog→Prop) (hk:∀ r:List (List api_Cell),r.length≤6→(∀ c∈r,c.length≤8)→P (k r)):∀ (d j n:Nat) (out:List (List api_Cell)),j+d=6→d < n→out.length≤j→(∀ c∈out,c.length≤8)→
    P (Zw 1000001 k p n out (j:Int)):=by
  intro d
  induction d with
  | zero =>
    intro j n out hj hn ho hs
    obtain ⟨n,rfl⟩:∃ m,n=m+1:=⟨n - 1,by omega⟩
    rw [Zw,if_neg (by simp;omega)]
    exact hk out (by omega) hs
  | succ d ih =>
    intro j n out hj hn ho hs
    obtain ⟨n,rfl⟩:∃ m,n=m+1:=⟨n - 1,by omega⟩
    by_cases h1:j < p.Lines.length
    · rw [Zw, if_pos (by simp; omega), Al rfl h1]
      simp only [kxa]
      obtain ⟨e,he,hel⟩:=JeH p.Lines[j]
      rw [he]
      simp only [kxa]
      rw [Ax (by simp;omega) (by decide)]
      simp only [kxa]
      rw [Bf (n:=6) (by omega) (by decide)]
      refine ih (j+1) n _ (by omega) (by omega) (by simp;omega) ?_
      intro t ht
      rcases kxi.1 ht with ht | ht
      · exact hs t ht
      · simp only [kxg, kxu, or_false] at ht
        subst ht;exact hel
    · rw [Zw, if_neg (by simp; omega)]
      exact hk out (by omega) hs
theorem Jhw (p:api_Prog):∃ r,Zs 1000001 p=some r∧SmallP r:=by
  unfold Zs
  obtain ⟨v,hv,hvl⟩:=JeH p.Vols
  obtain ⟨k,hk,hkl⟩:=JeH p.Locks
  obtain ⟨t,ht,htl,hts⟩:=Jhi p.Threads
  obtain ⟨u,hu,hul,hus⟩:=Jhi p.Recover
  rw [hv,hk,ht,hu]
  simp only [kxa]
  rw [Zt,show (0:Int)=((0:Nat):Int) from rfl]
  refine Jau p _ (fun o=>∃ r,o=some r∧SmallP r) (fun ls h1 h2=>?_) 6 0 1000001 [] (by decide) (by decide) (kxb _) (fun x hx=>nomatch hx)
  rw [Zu,show (0:Int)=((0:Nat):Int) from rfl]
  refine We p _ (fun o=>∃ r,o=some r∧SmallP r) (fun cs h3 h4=>?_) 6 0 1000001 [] (by decide) (by decide) (kxb _) (fun x hx=>nomatch hx)
  exact ⟨_,rfl,h1,h2,hvl,hkl,htl,hts,hul,hus,h3,h4⟩
def Bd (p:api_Prog):List api_Cell:=p.Lines.flatten ++ p.Vols
theorem JaF:∀ (l:List (List api_Cell)),(∀ x∈l,x.length≤8)→l.flatten.length≤8 * l.length
  | [],_=>kxt _
  | x :: r, h => by
    have:=JaF r (fun y hy=>h y (.tail _ hy))
    have:=h x (.head _)
    simp only [kzq,kxk,kxz]
    omega
theorem Cv {p:api_Prog} (hp:SmallP p):(Bd p).length≤56:=by
  have h1:=JaF p.Lines hp.line
  have h2:=hp.lines
  have h3:=hp.vols
  simp only [Bd,kxk]
  omega
def lineN:List (List api_Cell)→Nat→Nat→Nat
  | [],i,a=>i+a
  | l :: r,i,a=>if a < l.length then i else lineN r (i+1) (a - l.length)
theorem Wy:∀ (ls:List (List api_Cell)) (i a:Nat),i≤lineN ls i a
  | [],i,a=>by simp [lineN]
  | l :: r, i, a => by
    rw [lineN];split
    · exact kxb _
    · have:=Wy r (i+1) (a - l.length);omega
theorem Ro:∀ (ls:List (List api_Cell)) (i a:Nat),lineN ls i a≤lineN ls i (a+1)
  | [],i,a=>by simp only [lineN];omega
  | l :: r, i, a => by
    simp only [lineN]
    by_cases h1:a+1 < l.length
    · rw [if_pos (by omega),if_pos h1];exact kxb _
    · rw [if_neg h1]
      by_cases h2:a < l.length
      · rw [if_pos h2];have:=Wy r (i+1) (a+1 - l.length);omega
      · rw [if_neg h2, show a + 1 - l.length = (a - l.length) + 1 from by omega]
        exact Ro r (i+1) _
theorem Xn:∀ (ls:List (List api_Cell)) (i a:Nat),a < ls.flatten.length→lineN ls i a < i+ls.length
  | [],i,a,h=>by simp at h
  | l :: r, i, a, h => by
    simp only [kzq,kxk] at h
    simp only [lineN,kxz]
    split
    · omega
    · have:=Xn r (i+1) (a - l.length) (by omega);omega
theorem Jbs {N:Nat} (hN:5000≤N) {p:api_Prog} (hp:SmallP p) (k:List api_Cell→Option (List api_Cell)):∀ (d j n:Nat) (out:List api_Cell),j+d=p.Lines.length→d < n→out.length≤8 * j→Z2z N k p n out (j:Int)=k (out ++ (p.Lines.drop j).flatten):=by
  intro d
  have hL:=hp.lines
  induction d with
  | zero =>
    intro j n out hj hn hv
    obtain ⟨n,rfl⟩:∃ m,n=m+1:=⟨n - 1,by omega⟩
    rw [Z2z,if_neg (by omega),kxh (by omega)]
    simp
  | succ d ih =>
    intro j n out hj hn hv
    obtain ⟨n,rfl⟩:∃ m,n=m+1:=⟨n - 1,by omega⟩
    have h1:j < p.Lines.length:=by omega
    have h2:=hp.line _ (kxj h1)
    rw [Z2z,if_pos (by omega),Al rfl h1]
    simp only [kxa]
    rw [Ax (by omega) (by decide)]
    simp only [kxa]
    rw [Bf h1 (by omega),ih (j+1) n _ (by omega) (by omega) (by simp;omega),kxe h1,kzq,kxw]
theorem Lg {N:Nat} (hN:5000≤N) {p:api_Prog} (hp:SmallP p):Z2x N p=some (Bd p):=by
  have hL:=hp.lines
  have hC:=Cv hp
  simp only [Bd,kxk] at hC
  unfold Z2x
  rw [show (0:Int)=((0:Nat):Int) from rfl,Jbs hN hp _ p.Lines.length 0 N [] (by omega) (by omega) (kxb _),kxf,kxl,Z2y,Ax (by omega) (by decide)]
  rfl
theorem Xw {N:Nat} (hN:5000≤N) {l:List api_Cell} (hl:l.length≤200):∀ (d j n:Nat) (out:List Str),j+d=l.length→d < n→out.length≤j→Z3s N Z3r l n out (j:Int)=some (out ++ (l.drop j).map (·.Name)):=by
  intro d
  induction d with
  | zero =>
    intro j n out hj hn hv
    obtain ⟨n,rfl⟩:∃ m,n=m+1:=⟨n - 1,by omega⟩
    rw [Z3s,if_neg (by omega),kxh (by omega),Z3r]
    simp
  | succ d ih =>
    intro j n out hj hn hv
    obtain ⟨n,rfl⟩:∃ m,n=m+1:=⟨n - 1,by omega⟩
    have h1:j < l.length:=by omega
    rw [Z3s,if_pos (by omega),Al rfl h1]
    simp only [kxa]
    rw [Ax (by simp;omega) (by decide)]
    simp only [kxa]
    rw [Bf h1 (by omega),ih (j+1) n _ (by omega) (by omega) (by simp;omega),kxe h1,kyt,kxw]
    rfl
theorem Ob {N:Nat} (hN:5000≤N) {l:List api_Cell} (hl:l.length≤200):Z3q N l=some (l.map (·.Name)):=by
  have:=Xw hN hl l.length 0 N [] (by omega) (by omega) (kxb _)
  rw [kxf,kxl] at this
  exact this
theorem H6 {N:Nat} (hN:5000≤N) {p:api_Prog} (hp:SmallP p):Z30 N p=some ((Bd p).map (·.Name)):=by
  have hC:=Cv hp
  unfold Z30
  rw [Lg hN hp]
  simp only [kxa]
  rw [Ob hN (by omega)];rfl
theorem Mr {N:Nat} (hN:5000≤N) {p:api_Prog} (hp:SmallP p):Z3p N p=some (p.Locks.map (·.Name)):=by
  have hL:=hp.locks
  unfold Z3p
  rw [Ob hN (by omega)];rfl
theorem Kb {N:Nat} (hN:5000≤N) {p:api_Prog} (hp:SmallP p):Z3w N p=some (p.Lines.flatten.length:Int):=by
  have hC:=Cv hp
  have hlen:(Bd p).length=p.Lines.flatten.length+p.Vols.length:=by simp [Bd]
  unfold Z3w
  rw [Lg hN hp]
  simp only [kxa]
  rw [w64 (by omega) (by omega)]
  congr 1;omega
theorem Sn {N:Nat} (hN:5000≤N) {l:List api_Cell} (hl:l.length≤200):∀ (d j n:Nat) (out:List Int),j+d=l.length→d < n→out.length≤j→Z3h N Z3g l n out (j:Int)=some (out ++ (l.drop j).map (·.N)):=by
  intro d
  induction d with
  | zero =>
    intro j n out hj hn hv
    obtain ⟨n,rfl⟩:∃ m,n=m+1:=⟨n - 1,by omega⟩
    rw [Z3h,if_neg (by omega),kxh (by omega),Z3g]
    simp
  | succ d ih =>
    intro j n out hj hn hv
    obtain ⟨n,rfl⟩:∃ m,n=m+1:=⟨n - 1,by omega⟩
    have h1:j < l.length:=by omega
    rw [Z3h,if_pos (by omega),Al rfl h1]
    simp only [kxa]
    rw [Ax (by simp;omega) (by decide)]
    simp only [kxa]
    rw [Bf h1 (by omega),ih (j+1) n _ (by omega) (by omega) (by simp;omega),kxe h1,kyt,kxw]
    rfl
theorem Wv {N:Nat} (hN:5000≤N) {p:api_Prog} (hp:SmallP p):Z3f N p=some ((Bd p).map (·.N)):=by
  have hC:=Cv hp
  unfold Z3f
  rw [Lg hN hp]
  simp only [kxa]
  have:=Sn hN (l:=Bd p) (by omega) (Bd p).length 0 N [] (by omega) (by omega) (kxb _)
  rw [kxf,kxl] at this
  rw [show (0:Int)=((0:Nat):Int) from rfl]
  exact this
theorem Wp {N:Nat} (hN:5000≤N) {p:api_Prog} (hp:SmallP p):∀ (d j n a:Nat),j+d=p.Lines.length→d < n→a≤1000→Z3o N (Z3n p) p n (a:Int) (j:Int)=some (lineN (p.Lines.drop j) j a:Int):=by
  intro d
  have hL:=hp.lines
  induction d with
  | zero =>
    intro j n a hj hn ha
    obtain ⟨n,rfl⟩:∃ m,n=m+1:=⟨n - 1,by omega⟩
    rw [Z3o,if_neg (by omega),kxh (by omega),Z3n,w64 (by omega) (by omega),lineN]
    congr 1;omega
  | succ d ih =>
    intro j n a hj hn ha
    obtain ⟨n,rfl⟩:∃ m,n=m+1:=⟨n - 1,by omega⟩
    have h1:j < p.Lines.length:=by omega
    have h2:=hp.line _ (kxj h1)
    rw [Z3o,if_pos (by omega),Al rfl h1]
    simp only [kxa]
    rw [kxe h1,lineN]
    by_cases h:a < p.Lines[j].length
    · rw [if_pos (by omega),if_pos h]
    · rw [if_neg (by omega),if_neg h,show i64.wrap ((a:Int) - (p.Lines[j].length:Int))=((a - p.Lines[j].length:Nat):Int) from by rw [w64 (by omega) (by omega)];omega,Bf h1 (by omega),ih (j+1) n _ (by omega) (by omega) (by omega)]
theorem Qq {N:Nat} (hN:5000≤N) {p:api_Prog} (hp:SmallP p) {c:Int} (h:c < 0∨((Bd p).length:Int)≤c):Z3l N p c=some (-1):=by
  unfold Z3l
  by_cases h0:c < 0
  · rw [if_pos h0];rfl
  · rw [if_neg h0, Lg hN hp]
    simp only [kxa]
    rw [decide_eq_true (by omega)];rfl
theorem Lo {N:Nat} (hN:5000≤N) {p:api_Prog} (hp:SmallP p) {a:Nat} (h:a < (Bd p).length):Z3l N p (a:Int)=some (lineN p.Lines 0 a:Int):=by
  have hC:=Cv hp
  have hL:=hp.lines
  unfold Z3l
  rw [if_neg (by omega),Lg hN hp]
  simp only [kxa]
  rw [decide_eq_false (by omega),Z3m,if_neg (by decide),show (0:Int)=((0:Nat):Int) from rfl,Wp hN hp p.Lines.length 0 N a (by omega) (by omega) (by omega),kxf]
def Ka (a:Int):Bool:=decide (0≤a) && decide (a≤4000)
theorem Og (N:Nat) (a:Int):Z2q N a=some (Ka a):=rfl
def cellB (most:Int) (c:api_Cell):Bool:=!(((!Ej c.Name) || (decide (c.N < 0))) || (decide (most < c.N))) && Ka c.At
def Oy (l:List api_Cell):Bool:=!decide (l.length=0) && l.all (cellB 4294967296)
open Classical in
noncomputable def Oi (l:List api_Stmt):Bool:=decide (∃ t,RB l t)
theorem Jbp {l:List api_Stmt} (hl:l.length≤1000) (hs:∀ x∈l,Fe x):True∧Z21 1000001 l=some (Oi l):=by
  obtain ⟨b,h2,h3⟩:=JeP hl hs
  have:b=Oi l:=Jac h3
  rw [h2,this]
  exact ⟨trivial,rfl⟩
theorem Jab {l:List api_Stmt}:Oi l=true↔∃ t,RB l t:=by unfold Oi;simp
noncomputable def Hg (t:api_Thread):Bool:=Ka t.At && (t.Regs.all Ej && Oi t.Body)
noncomputable def Jo (t:api_Thread):Bool:=Ej t.Name && Hg t
noncomputable def Gt (t:api_Thread):Bool:=decide (t.Name=[]) && Hg t
noncomputable def Jq (c:api_Claim):Bool:=Ka c.At && Gw c.E
noncomputable def S2 (p:api_Prog):Bool:=p.Lines.all Oy && (p.Vols.all (cellB 4294967296) && (p.Locks.all (cellB 0) && (decide (p.Recover.length≤1) && (p.Threads.all Jo && (p.Recover.all Gt && p.Claims.all Jq)))))
theorem Wq {l:List api_Cell} (hl:l.length≤1000) (most:Int):∀ (d j n:Nat),j+d=l.length→d < n→Z2p 1000001 Z2n l most n (j:Int)=some ((l.drop j).all (cellB most)):=by
  intro d
  induction d with
  | zero =>
    intro j n hj hn
    obtain ⟨n,rfl⟩:∃ m,n=m+1:=⟨n - 1,by omega⟩
    rw [Z2p,if_neg (by omega),kxh (by omega)];rfl
  | succ d ih =>
    intro j n hj hn
    obtain ⟨n,rfl⟩:∃ m,n=m+1:=⟨n - 1,by omega⟩
    have h1:j < l.length:=by omega
    rw [Z2p,if_pos (by omega),Al rfl h1]
    simp only [kxa]
    rw [Hv (N:=1000001) (by decide)]
    simp only [kxa,Og]
    rw [kxe h1,kxv]
    conv=>rhs;rw [cellB]
    cases (((!Ej l[j].Name) || (decide (l[j].N < 0))) || (decide (most < l[j].N))) with
    | true=>rw [if_pos rfl,Z2o,if_pos rfl];rfl
    | false =>
      rw [if_neg (by decide),Z2o]
      cases Ka l[j].At with
      | false=>rfl
      | true =>
        rw [if_neg (by decide),Bf h1 (by omega),ih (j+1) n (by omega) (by omega)];simp
theorem Ou {l:List api_Cell} (hl:l.length≤1000) (most:Int):Z2m 1000001 l most=some (l.all (cellB most)):=by
  have:=Wq hl most l.length 0 1000001 (by omega) (by omega)
  rw [kxf] at this
  exact this
theorem Ys {p:List api_Thread} {i:Nat} (hi:i < p.length) (hr:p[i].Regs.length≤1000) (k:Option Bool):∀ (d j n:Nat),j+d=p[i].Regs.length→d < n→Z2w 1000001 k p (i:Int) n (j:Int)=if (p[i].Regs.drop j).all Ej=true then k else some false:=by
  intro d
  induction d with
  | zero =>
    intro j n hj hn
    obtain ⟨n,rfl⟩:∃ m,n=m+1:=⟨n - 1,by omega⟩
    rw [Z2w,Al rfl hi]
    simp only [kxa]
    rw [if_neg (by omega),kxh (by omega)];rfl
  | succ d ih =>
    intro j n hj hn
    obtain ⟨n,rfl⟩:∃ m,n=m+1:=⟨n - 1,by omega⟩
    have h1:j < p[i].Regs.length:=by omega
    rw [Z2w,Al rfl hi]
    simp only [kxa]
    rw [if_pos (by omega),Al rfl h1]
    simp only [kxa]
    rw [Hv (N:=1000001) (by decide)]
    simp only [kxa]
    rw [kxe h1,kxv]
    cases Ej p[i].Regs[j] with
    | false=>rfl
    | true =>
      rw [if_pos rfl,Bf h1 (by omega),ih (j+1) n (by omega) (by omega)];simp
noncomputable def Yj (named:Bool) (t:api_Thread):Bool:=if named=true then Jo t else Gt t
theorem Sr {p:List api_Thread} (hl:p.length≤1000) (hs:∀ t∈p,SmallT t) (named:Bool):∀ (d j n:Nat),j+d=p.length→d < n→Z2v 1000001 Z2s p named n (j:Int)=some ((p.drop j).all (Yj named)):=by
  intro d
  induction d with
  | zero =>
    intro j n hj hn
    obtain ⟨n,rfl⟩:∃ m,n=m+1:=⟨n - 1,by omega⟩
    rw [Z2v,if_neg (by omega),kxh (by omega)];rfl
  | succ d ih =>
    intro j n hj hn
    obtain ⟨n,rfl⟩:∃ m,n=m+1:=⟨n - 1,by omega⟩
    have h1:j < p.length:=by omega
    have ht:=hs _ (kxj h1)
    rw [Z2v,if_pos (by omega),Al rfl h1]
    simp only [kxa]
    rw [Hv (N:=1000001) (by decide)]
    simp only [kxa,Og]
    rw [kxe h1,kxv]
    have hw:Yj named p[j]=(!((named != Ej p[j].Name) || ((!named) && (decide (p[j].Name≠[])))) && Hg p[j]):=by
      unfold Yj Jo Gt
      cases named with
      | true=>simp
      | false =>
        by_cases e:p[j].Name=[]
        · rw [e];simp [Ej]
        · simp [e]
    rw [hw,Hg]
    have fin:∀ b:Bool,Z2u 1000001 (Z2t (Z2v 1000001 Z2s p named n) (j:Int)) p (j:Int) b=some (!b && (p[j].Regs.all Ej && (p.drop (j+1)).all (Yj named))):=by
      intro b
      rw [Z2u]
      cases b with
      | true=>rfl
      | false =>
        rw [if_neg (by decide),show (0:Int)=((0:Nat):Int) from rfl,Ys h1 (by have:=ht.regs;omega) _ p[j].Regs.length 0 1000001 (by omega) (by have:=ht.regs;omega),kxf]
        cases p[j].Regs.all Ej with
        | false=>rfl
        | true=>rw [if_pos rfl,Z2t,Bf h1 (by omega),ih (j+1) n (by omega) (by omega)];rfl
    cases ((named != Ej p[j].Name) || ((!named) && (decide (p[j].Name≠[])))) with
    | true=>rw [if_pos rfl,fin];rfl
    | false =>
      rw [if_neg (by decide)]
      cases Ka p[j].At with
      | false=>rw [if_neg (by decide),fin];rfl
      | true =>
        rw [if_pos rfl,(Jbp (by have:=ht.body;omega) ht.small).2]
        simp only [kxa]
        rw [fin]
        cases Oi p[j].Body <;> cases p[j].Regs.all Ej <;> simp
theorem Pg {p:List api_Thread} (hl:p.length≤1000) (hs:∀ t∈p,SmallT t) (named:Bool):Z2r 1000001 p named=some (p.all (Yj named)):=by
  have:=Sr hl hs named p.length 0 1000001 (by omega) (by omega)
  rw [kxf] at this
  exact this
theorem Ui {p:api_Prog} (hp:SmallP p) (k:Option Bool):∀ (d j n:Nat),j+d=p.Claims.length→d < n→Z2l 1000001 k p n (j:Int)=if (p.Claims.drop j).all Jq=true then k else some false:=by
  intro d
  have hC:=hp.claims
  induction d with
  | zero =>
    intro j n hj hn
    obtain ⟨n,rfl⟩:∃ m,n=m+1:=⟨n - 1,by omega⟩
    rw [Z2l,if_neg (by omega),kxh (by omega)];rfl
  | succ d ih =>
    intro j n hj hn
    obtain ⟨n,rfl⟩:∃ m,n=m+1:=⟨n - 1,by omega⟩
    have h1:j < p.Claims.length:=by omega
    rw [Z2l,if_pos (by omega),Al rfl h1]
    simp only [kxa,Og]
    rw [kxe h1,kxv]
    conv=>rhs;rw [Jq]
    cases Ka p.Claims[j].At with
    | false=>rw [if_neg (by decide),Z2j];rfl
    | true =>
      rw [if_pos rfl,Kr (N:=1000001) (by decide) (hp.claim _ (kxj h1))]
      simp only [kxa]
      rw [Z2j]
      cases Gw p.Claims[j].E with
      | false=>rfl
      | true=>rw [if_neg (by decide),Bf h1 (by omega),ih (j+1) n (by omega) (by omega)];simp
theorem Vr {p:api_Prog} (hp:SmallP p) (k:Option Bool):∀ (d j n:Nat),j+d=p.Lines.length→d < n→Z2k 1000001 k p n (j:Int)=if (p.Lines.drop j).all Oy=true then k else some false:=by
  intro d
  have hC:=hp.lines
  induction d with
  | zero =>
    intro j n hj hn
    obtain ⟨n,rfl⟩:∃ m,n=m+1:=⟨n - 1,by omega⟩
    rw [Z2k,if_neg (by omega),kxh (by omega)];rfl
  | succ d ih =>
    intro j n hj hn
    obtain ⟨n,rfl⟩:∃ m,n=m+1:=⟨n - 1,by omega⟩
    have h1:j < p.Lines.length:=by omega
    have h2:=hp.line _ (kxj h1)
    rw [Z2k,if_pos (by omega),Al rfl h1]
    simp only [kxa]
    rw [kxe h1,kxv]
    conv=>rhs;rw [Oy]
    by_cases h:p.Lines[j].length=0
    · rw [if_pos (by omega),decide_eq_true h,Z2h];rfl
    · rw [if_neg (by omega), decide_eq_false h, Ou (by omega)]
      simp only [kxa]
      rw [Z2h]
      cases p.Lines[j].all (cellB 4294967296) with
      | false=>rfl
      | true=>rw [if_neg (by decide),Bf h1 (by omega),ih (j+1) n (by omega) (by omega)];simp
theorem Jbv {p:api_Prog} (hp:SmallP p):Z2f 1000001 p=some (S2 p):=by
  have hL:=hp.lines
  have hC:=hp.claims
  unfold Z2f
  rw [show (0:Int)=((0:Nat):Int) from rfl,Vr hp _ p.Lines.length 0 1000001 (by omega) (by omega),kxf]
  unfold S2
  cases p.Lines.all Oy with
  | false=>rfl
  | true =>
    rw [if_pos rfl,Z2g,show (0:Int)=((0:Nat):Int) from rfl,Ui hp _ p.Claims.length 0 1000001 (by omega) (by omega),kxf]
    have hj4:Z2i 1000001 p=some (p.Vols.all (cellB 4294967296) && (p.Locks.all (cellB 0) && (p.Threads.all Jo && (p.Recover.all Gt && decide (p.Recover.length≤1))))):=by
      rw [Z2i,Ou (by have:=hp.vols;omega)]
      simp only [kxa]
      cases p.Vols.all (cellB 4294967296) with
      | false=>rfl
      | true =>
        rw [if_pos rfl,Ou (by have:=hp.locks;omega)]
        simp only [kxa]
        cases p.Locks.all (cellB 0) with
        | false=>rfl
        | true =>
          rw [if_pos rfl,Pg (by have:=hp.threads;omega) hp.thread]
          simp only [kxa]
          rw [show p.Threads.all (Yj true)=p.Threads.all Jo from rfl]
          cases p.Threads.all Jo with
          | false=>rfl
          | true =>
            rw [if_pos rfl,Pg (by have:=hp.recover;omega) hp.recov]
            simp only [kxa]
            rw [show p.Recover.all (Yj false)=p.Recover.all Gt from rfl]
            congr 1
            rw [show decide ((p.Recover.length:Int)≤1)=decide (p.Recover.length≤1) from by congr 1;exact propext (by omega)]
            simp
    rw [hj4]
    cases p.Claims.all Jq <;> cases p.Vols.all (cellB 4294967296) <;> cases p.Locks.all (cellB 0) <;> cases p.Threads.all Jo <;> cases p.Recover.all Gt <;> cases decide (p.Recover.length≤1) <;> rfl
end Go.MD.SWAPS.R
namespace Go.MD.SWAPS.R
open Go Go.MD Go.MD.SWAPS
open Go.IntKind (i64)
def Fb (p:api_Prog):List api_Thread:=p.Threads ++ p.Recover
theorem My {p:api_Prog} (hp:SmallP p):(Fb p).length≤8∧∀ t∈Fb p,SmallT t:=by
  refine ⟨?_,fun t ht=>(kxi.1 ht).elim (hp.thread t) (hp.recov t)⟩
  have:=hp.threads;have:=hp.recover
  simp only [Fb,kxk];omega
theorem Kj {p:api_Prog} (hp:SmallP p):Z3x 1000001 p=some (Fb p):=by
  have h1:=hp.threads
  have h2:=hp.recover
  unfold Z3x
  rw [Ax (by simp;omega) (by decide)]
  simp only [kxa,kxl]
  rw [Ax (by omega) (by decide)]
  rfl
def Rl (l:List api_Cell):Bool:=!decide (4 < l.length)
def Jcy (t:api_Thread):Bool:=!decide (4 < t.Regs.length)
def Vz (p:api_Prog):Bool:=!(p.Lines.all Rl && (Fb p).all Jcy) || decide (4 < p.Lines.length∨4 < p.Vols.length∨2 < p.Locks.length∨p.Threads.length < 1∨3 < p.Threads.length∨4 < p.Claims.length)
theorem Jas {p:api_Prog} (hp:SmallP p) (k:Option Bool):∀ (d j n:Nat),j+d=p.Lines.length→d < n→Z41 1000001 k p n (j:Int)=if (p.Lines.drop j).all Rl=true then k else some true:=by
  intro d
  have hC:=hp.lines
  induction d with
  | zero =>
    intro j n hj hn
    obtain ⟨n,rfl⟩:∃ m,n=m+1:=⟨n - 1,by omega⟩
    rw [Z41,if_neg (by omega),kxh (by omega)];rfl
  | succ d ih =>
    intro j n hj hn
    obtain ⟨n,rfl⟩:∃ m,n=m+1:=⟨n - 1,by omega⟩
    have h1:j < p.Lines.length:=by omega
    rw [Z41,if_pos (by omega),Al rfl h1]
    simp only [kxa]
    rw [kxe h1,kxv]
    conv=>rhs;rw [Rl]
    by_cases h:4 < p.Lines[j].length
    · rw [if_pos (by omega),decide_eq_true h];rfl
    · rw [if_neg (by omega),decide_eq_false h,Bf h1 (by omega),ih (j+1) n (by omega) (by omega)];simp
theorem Jbi {l:List api_Thread} (hl:l.length≤1000) (k:Option Bool):∀ (d j n:Nat),j+d=l.length→d < n→Z42 1000001 k l n (j:Int)=if (l.drop j).all Jcy=true then k else some true:=by
  intro d
  induction d with
  | zero =>
    intro j n hj hn
    obtain ⟨n,rfl⟩:∃ m,n=m+1:=⟨n - 1,by omega⟩
    rw [Z42,if_neg (by omega),kxh (by omega)];rfl
  | succ d ih =>
    intro j n hj hn
    obtain ⟨n,rfl⟩:∃ m,n=m+1:=⟨n - 1,by omega⟩
    have h1:j < l.length:=by omega
    rw [Z42,if_pos (by omega),Al rfl h1]
    simp only [kxa]
    rw [kxe h1,kxv]
    conv=>rhs;rw [Jcy]
    by_cases h:4 < l[j].Regs.length
    · rw [if_pos (by omega),decide_eq_true h];rfl
    · rw [if_neg (by omega),decide_eq_false h,Bf h1 (by omega),ih (j+1) n (by omega) (by omega)];simp
theorem Jeh {p:api_Prog} (hp:SmallP p):Z3y 1000001 p=some (Vz p):=by
  have hL:=hp.lines
  have hT:=(My hp).1
  unfold Z3y Vz
  rw [show (0:Int)=((0:Nat):Int) from rfl,Jas hp _ p.Lines.length 0 1000001 (by omega) (by omega),kxf]
  cases p.Lines.all Rl with
  | false=>rfl
  | true =>
    rw [if_pos rfl,Z3z,Kj hp]
    simp only [kxa]
    rw [show (0:Int)=((0:Nat):Int) from rfl,Jbi (by omega) _ (Fb p).length 0 1000001 (by omega) (by omega),kxf]
    cases (Fb p).all Jcy with
    | false=>rfl
    | true =>
      rw [if_pos rfl,Z40]
      congr 1
      rw [kzi]
      simp only [kyb,decide_eq_true_eq,Bool.and_self,kyl,kzk]
      omega
def B.wild:B→Int→Option Int
  | .nil,_=>none
  | .cons x a c r,n=>if 64 < (if x.Kind=12 then n * x.N else n) then some x.At else ((a.wild (if x.Kind=12 then n * x.N else n)).or (c.wild (if x.Kind=12 then n * x.N else n))).or (r.wild n)
theorem B.app_wild:∀ (b c:B) (n:Int),(b.app c).wild n=(b.wild n).or (c.wild n)
  | .nil,c,n=>rfl
  | .cons x a d r, c, n => by
    simp only [B.app,B.wild]
    generalize (if x.Kind=12 then n * x.N else n)=m
    split
    · rfl
    · rw [B.app_wild r c n];simp only [Option.or_assoc]
theorem B.app_size:∀ b c:B,(b.app c).size=b.size+c.size
  | .nil,c=>by simp [B.app,B.size]
  | .cons x a d r,c=>by simp only [B.app,B.size,B.app_size r c];omega
theorem B.app_depth:∀ b c:B,(b.app c).depth=max b.depth c.depth
  | .nil,c=>by simp [B.app,B.depth]
  | .cons x a d r, c => by
    simp only [B.app,B.depth,B.app_depth r c]
    split <;> omega
theorem B.app_okN {c:B} (hc:c.okN):∀ b:B,b.okN→(b.app c).okN
  | .nil,_=>hc
  | .cons x a d r,⟨h1,h2,h3,h4⟩=>⟨h1,h2,h3,B.app_okN hc r h4⟩
theorem OKB.ac {x:api_Stmt} {a c r:B} (h:OKB (.cons x a c r)):OKB (a.app c):=by
  have ha:=h.a
  have hc:=h.c
  obtain ⟨⟨p,hg⟩,hn,hs,hd⟩:=h
  have hdd:=Pw x a c r p hg
  simp only [B.size] at hs
  refine ⟨⟨inL x p,B.app_good hg.2.2.2.2.2.2.1 a hg.2.2.2.2.2.1⟩,B.app_okN hn.2.2.1 a hn.2.1,?_,?_⟩
  · rw [B.app_size];omega
  · rw [B.app_depth];omega
theorem Jcg {l:List api_Stmt} {i:Nat} {x:api_Stmt} {a c r:B} (hl:l.length≤40) (hb:OKB (.cons x a c r)) (h:l.drop i=(B.cons x a c r).flat) :
    Dj l ((i+1:Nat):Int) ((i+1+a.size+c.size:Nat):Int)=some (a.app c).flat:=by
  obtain ⟨h1,h2,w1,w2,w3,s1,s2,s3,s4⟩:=parts hl hb h
  rw [show i+1+a.size+c.size=(i+1)+(a.size+c.size) from by omega,Ix (by omega)]
  have e:l.drop (i+1)=a.flat ++ (c.flat ++ r.flat):=by
    have:=congrArg (List.drop 1) h
    rw [kyr] at this
    simpa [B.flat] using this
  rw [e,← kxw,← B.app_flat,List.take_left']
  rw [B.flat_len,B.app_size]
theorem Lh:∀ (b:B) (n:Int) {v:Int},b.wild n=some v→∃ x∈b.flat,v=x.At
  | .nil,n,v,h=>by simp [B.wild] at h
  | .cons x a c r, n, v, h => by
    simp only [B.wild] at h
    generalize (if x.Kind=12 then n * x.N else n)=m at h
    split at h
    · injection h with h;exact ⟨x,.head _,h.symm⟩
    · rw [Option.or_eq_some_iff, Option.or_eq_some_iff] at h
      rcases h with (h | ⟨_,h⟩) | ⟨_,h⟩
      · obtain ⟨y,hy,e⟩:=Lh a _ h;exact ⟨y,by simp [B.flat,hy],e⟩
      · obtain ⟨y,hy,e⟩:=Lh c _ h;exact ⟨y,by simp [B.flat,hy],e⟩
      · obtain ⟨y,hy,e⟩:=Lh r _ h;exact ⟨y,by simp [B.flat,hy],e⟩
theorem Jco:∀ (f:Nat) (b:B),OKB b→(∀ x∈b.flat,0≤x.At)→b.size+2≤f→∀ m:Int,0≤m→m≤64→Z4j f b.flat m=some ((b.wild m).getD (-1)):=by
  intro f
  induction f with
  | zero=>intro b _ _ h;omega
  | succ f ih =>
    intro b hb hat hf m hm0 hm
    cases b with
    | nil=>rfl
    | cons x a c r =>
      have hl:(B.cons x a c r).flat.length≤40:=by rw [B.flat_len];exact hb.size
      obtain ⟨h1,h2,w2,w3,s1,s2,s3⟩:=Uj hb rfl
      have s5:=Jcg (i:=0) hl hb kxf
      simp only [kxs] at s5
      simp only [B.size] at hf
      have hac:∀ y∈(a.app c).flat,0≤y.At:=fun y hy=>hat y (by rw [B.app_flat] at hy;simp only [B.flat,kxg,kxi];rcases kxi.1 hy with h | h <;> simp [h])
      have hr:∀ y∈r.flat,0≤y.At:=fun y hy=>hat y (by simp [B.flat,hy])
      have next:∀ q:Int,0≤q→q=(if x.Kind=12 then m * x.N else m)→Z4k (Z4j f) (B.cons x a c r).flat m x q=some (((B.cons x a c r).wild m).getD (-1)):=by
        intro q hq0 hq
        rw [Z4k,B.wild,← hq]
        by_cases h64:64 < q
        · rw [if_pos h64,if_pos h64];rfl
        · rw [if_neg h64, if_neg h64]
          simp only [w2,w3]
          rw [show (1:Int)=((1:Nat):Int) from rfl,s5]
          simp only [kxa]
          rw [ih (a.app c) hb.ac hac (by rw [B.app_size];omega) q hq0 (by omega)]
          simp only [kxa]
          have hsp:=B.app_wild a c q
          cases hw:(a.app c).wild q with
          | some v =>
            rw [hw] at hsp
            obtain ⟨y,hy,e⟩:=Lh _ _ hw
            have:=hac y hy
            rw [← hsp,kzr,if_pos (by omega)];rfl
          | none =>
            rw [hw] at hsp
            rw [← hsp,Option.getD_none,if_neg (by decide),s3]
            simp only [kxa]
            rw [ih r hb.r hr (by omega) m hm0 hm];rfl
      generalize hl:(B.cons x a c r).flat=l at h1 h2 next
      rw [Z4j,if_neg (by omega),h2]
      simp only [kxa]
      by_cases k2:x.Kind=12
      · have hN := hb.okN.1 k2
        rw [if_pos k2]
        obtain ⟨u,rfl⟩:∃ u:Nat,m=(u:Int):=⟨m.toNat,by omega⟩
        obtain ⟨z,hz⟩:∃ z:Nat,x.N=(z:Int):=⟨x.N.toNat,by omega⟩
        have hb2:u * z≤64 * 8:=Nat.mul_le_mul (by omega) (by omega)
        have hw:i64.wrap ((u:Int) * x.N)=(u:Int) * x.N:=by
          rw [hz,← Int.natCast_mul]
          generalize u * z=y at hb2
          rw [w64 (by omega) (by omega)]
        rw [hw]
        exact next _ (by rw [hz,← Int.natCast_mul];omega) (by rw [if_pos k2])
      · rw [if_neg k2]
        exact next m hm0 (by rw [if_neg k2])
def Ke:List (Str×Int)→List Str→Option Int
  | [],_=>none
  | e :: r,seen=>if e.1∈seen then some e.2 else Ke r (seen ++ [e.1])
def Jh (p:api_Prog):List (Str×Int):=(Bd p).map (fun c=>(c.Name,c.At)) ++ (p.Locks.map (fun c=>(c.Name,c.At)) ++ p.Threads.map fun t=>(t.Name,t.At))
theorem Ny:∀ (a b:List Str) (s:Str) (k:Nat),Cq (a ++ b) s k=if s∈a then Cq a s k else Cq b s (k+a.length)
  | [],b,s,k=>by simp
  | x :: a, b, s, k => by
    simp only [kzx,Cq,kxg,kxz]
    by_cases h:x=s
    · rw [if_pos h,if_pos (.inl h.symm),if_pos h]
    · rw [if_neg h, if_neg h, Ny a b s (k + 1)]
      by_cases h2:s∈a
      · rw [if_pos h2,if_pos (.inr h2)]
      · rw [if_neg h2, if_neg (by rintro (q | q); exact h q.symm; exact h2 q)]
        congr 1;omega
theorem Rz {l:List Str} {j:Nat} (hj:j < l.length):Cq l (l[j]'hj) 0 < (j:Int)↔(l[j]'hj)∈l.take j:=by
  have e:l=l.take j ++ l.drop j:=(kys j l).symm
  have hlen:(l.take j).length=j:=by rw [kyg];omega
  have e2:Cq l (l[j]'hj) 0=Cq (l.take j ++ l.drop j) (l[j]'hj) 0:=by rw [← e]
  rw [e2,Ny]
  by_cases h:(l[j]'hj)∈l.take j
  · rw [if_pos h]
    have:=((Cx (l.take j) (l[j]'hj) 0).2 h).2
    rw [hlen] at this
    exact ⟨fun _=>h,fun _=>by omega⟩
  · rw [if_neg h, kxe hj, Cq, if_pos rfl, hlen]
    exact ⟨fun q=>by omega,fun q=>absurd q h⟩
theorem Ik {l:List Str} {s:Str}:0≤Cq l s 0↔s∈l:=(Cx l s 0).1
def JcC (c:api_Cell):Str×Int:=(c.Name,c.At)
theorem JcM {l:List api_Cell} (hl:l.length≤200):∀ (d j n:Nat),j+d=l.length→d < n→Z4e 1000001 Z4c l (l.map (·.Name)) n (j:Int)=some ((Ke ((l.drop j).map JcC) ((l.take j).map (·.Name))).getD (-1)):=by
  intro d
  induction d with
  | zero =>
    intro j n hj hn
    obtain ⟨n,rfl⟩:∃ m,n=m+1:=⟨n - 1,by omega⟩
    rw [Z4e,if_neg (by omega),kxh (by omega)]
    rfl
  | succ d ih =>
    intro j n hj hn
    obtain ⟨n,rfl⟩:∃ m,n=m+1:=⟨n - 1,by omega⟩
    have h1:j < l.length:=by omega
    rw [Z4e,if_pos (by omega),Al rfl h1]
    simp only [kxa]
    rw [Do (by simp;omega) (by simp;omega)]
    simp only [kxa]
    rw [kxe h1,kyt,Ke]
    have hb:=Rz (l:=l.map (·.Name)) (j:=j) (by simpa using h1)
    rw [List.getElem_map,← List.map_take] at hb
    by_cases h:l[j].Name∈(l.take j).map (·.Name)
    · have h' : (JcC l[j]).1 ∈ (l.take j).map (·.Name) := h
      rw [if_pos (hb.2 h),if_pos h'];rfl
    · have h' : ¬ (JcC l[j]).1 ∈ (l.take j).map (·.Name) := h
      rw [if_neg (fun q=>h (hb.1 q)),if_neg h',Bf h1 (by omega),ih (j+1) n (by omega) (by omega),kyi h1,kyp]
      rfl
theorem JcR {p:api_Prog} (hT:p.Threads.length≤100) (k:List api_Cell→Option Int):∀ (d j n:Nat) (out:List api_Cell),j+d=p.Threads.length→d < n→out.length≤1000+j→
    Z4d 1000001 k p n out (j:Int)=k (out ++ (p.Threads.drop j).map fun t=>api_Cell.mk t.Name 0 t.At):=by
  intro d
  induction d with
  | zero =>
    intro j n out hj hn ho
    obtain ⟨n,rfl⟩:∃ m,n=m+1:=⟨n - 1,by omega⟩
    rw [Z4d,if_neg (by omega),kxh (by omega)]
    simp
  | succ d ih =>
    intro j n out hj hn ho
    obtain ⟨n,rfl⟩:∃ m,n=m+1:=⟨n - 1,by omega⟩
    have h1:j < p.Threads.length:=by omega
    rw [Z4d,if_pos (by omega),Al rfl h1]
    simp only [kxa]
    rw [Ax (by simp;omega) (by decide)]
    simp only [kxa]
    rw [Bf h1 (by omega),ih (j+1) n _ (by omega) (by omega) (by simp;omega),kxe h1,kyt,kxw]
    rfl
theorem Jcs {p:api_Prog} (hp:SmallP p):Z4a 1000001 p=some ((Ke (Jh p) []).getD (-1)):=by
  have h1:=hp.locks
  have h2:=hp.threads
  have hC:=Cv hp
  unfold Z4a
  rw [Lg (N:=1000001) (by decide) hp]
  simp only [kxa]
  rw [Ax (by simp;omega) (by decide)]
  simp only [kxa,kxl]
  rw [Ax (by omega) (by decide)]
  simp only [kxa]
  rw [show (0:Int)=((0:Nat):Int) from rfl,JcR (by omega) _ p.Threads.length 0 1000001 _ (by omega) (by omega) (by simp;omega),kxf,Z4b]
  have hl:(Bd p ++ p.Locks ++ p.Threads.map fun t=>api_Cell.mk t.Name 0 t.At).length≤200:=by simp;omega
  rw [Ob (N:=1000001) (by decide) hl]
  simp only [kxa]
  have e:=JcM hl _ 0 1000001 (kxs _) (by omega)
  rw [kxf,List.take_zero] at e
  refine Eq.trans e ?_
  congr 2
  unfold Jh
  simp only [kyp,kxw,List.map_map]
  rfl
def Pj (p:api_Prog):List Str:=(Bd p).map (·.Name) ++ p.Locks.map (·.Name)
def Sp:List Str→List Str→Bool
  | _,[]=>false
  | K,s :: r=>if s∈K then true else Sp (K ++ [s]) r
theorem N2 {p:api_Prog} {s:Str}:s∈Pj p↔s∈(Bd p).map (·.Name)∨s∈p.Locks.map (·.Name):=by
  unfold Pj;exact kxi
theorem Wt {p:api_Prog} (hp:SmallP p) {l:List api_Thread} {i:Nat} (hi:i < l.length) (hr:l[i].Regs.length≤200) (k:Option (Int×Int)):∀ (d j n:Nat),j+d=l[i].Regs.length→d < n→
    Z3d 1000001 k p l (i:Int) n (j:Int)=if Sp (Pj p ++ l[i].Regs.take j) (l[i].Regs.drop j)=true then some (10,l[i].At) else k:=by
  intro d
  have hC:=Cv hp
  have hL:=hp.locks
  induction d with
  | zero =>
    intro j n hj hn
    obtain ⟨n,rfl⟩:∃ m,n=m+1:=⟨n - 1,by omega⟩
    rw [Z3d,Al rfl hi]
    simp only [kxa]
    rw [if_neg (by omega),kxh (by omega)]
    simp [Sp]
  | succ d ih =>
    intro j n hj hn
    obtain ⟨n,rfl⟩:∃ m,n=m+1:=⟨n - 1,by omega⟩
    have h1:j < l[i].Regs.length:=by omega
    rw [Z3d,Al rfl hi]
    simp only [kxa]
    rw [if_pos (by omega),Al rfl h1]
    simp only [kxa]
    rw [Do (by omega) (by omega)]
    simp only [kxa]
    rw [kxe h1,Sp]
    have hb:=Rz h1
    by_cases h:l[i].Regs[j]∈l[i].Regs.take j
    · rw [if_pos (hb.2 h),if_pos (kzd _ h),Z37,if_pos rfl];rfl
    · rw [if_neg (fun q => h (hb.1 q)), H6 (N := 1000001) (by decide) hp]
      simp only [kxa]
      rw [Do (by simp;omega) (by simp;omega)]
      simp only [kxa]
      by_cases h2:l[i].Regs[j]∈(Bd p).map (·.Name)
      · rw [if_pos (Ik.2 h2),if_pos (kyn _ (N2.2 (.inl h2))),Z37,if_pos rfl];rfl
      · rw [if_neg (fun q => h2 (Ik.1 q)), Mr (N := 1000001) (by decide) hp]
        simp only [kxa]
        rw [Do (by simp;omega) (by simp;omega)]
        simp only [kxa]
        by_cases h3:l[i].Regs[j]∈p.Locks.map (·.Name)
        · rw [decide_eq_true (Ik.2 h3),if_pos (kyn _ (N2.2 (.inr h3))),Z37,if_pos rfl];rfl
        · have h4 : ¬ l[i].Regs[j]∈Pj p ++ l[i].Regs.take j:=by
            intro q
            rcases kxi.1 q with q | q
            · rcases N2.1 q with q | q
              · exact h2 q
              · exact h3 q
            · exact h q
          rw [decide_eq_false (fun q=>h3 (Ik.1 q)),if_neg h4,Z37,if_neg (by decide),Bf h1 (by omega),ih (j+1) n (by omega) (by omega),kyi h1,kxw]
theorem Vv:∀ (l K:List Str),Sp K l=false→∀ s∈l,s ∉ K
  | [],_,_,s,hs=>by cases hs
  | x :: l, K, h, s, hs => by
    rw [Sp] at h
    split at h
    · cases h
    · rename_i hx
      rcases kxg.1 hs with rfl | hs
      · exact hx
      · exact fun q=>Vv l _ h s hs (kyn _ q)
def A1 (p:api_Prog):List Str:=p.Lines.flatten.map (·.Name)
def A2 (p:api_Prog):List Str:=p.Vols.map (·.Name)
def K1 (p:api_Prog):List Str:=p.Locks.map (·.Name)
def Jb (p:api_Prog) (G:List Str) (s:Str):Int:=if s∈A1 p then 1 else if s∈A2 p then 2 else if s∈K1 p then 3 else if s∈G then 5 else 0
theorem Dz (p:api_Prog):(Bd p).map (·.Name)=A1 p ++ A2 p:=by simp [Bd,A1,A2]
structure Apt (p:api_Prog) (G:List Str):Prop where
  locks:∀ s∈K1 p,s ∉ A1 p ++ A2 p
  regs:∀ s∈G,s ∉ A1 p ++ A2 p∧s ∉ K1 p
theorem JeD {p:api_Prog} {G:List Str} {s:Str}:Jb p G s=1↔s∈A1 p:=by
  unfold Jb;split
  · simp [*]
  · split
    · simp [*]
    · split
      · simp [*]
      · split <;> simp [*]
theorem Jdg {p:api_Prog} {G:List Str} {s:Str}:(Jb p G s=1∨Jb p G s=2)↔s∈A1 p ++ A2 p:=by
  unfold Jb;rw [kxi];split
  · simp [*]
  · split
    · simp [*]
    · split
      · simp [*]
      · split <;> simp [*]
theorem JeG {p:api_Prog} {G:List Str} (ha:Apt p G) {s:Str}:Jb p G s=3↔s∈K1 p:=by
  have h:=ha.locks s
  rw [kxi] at h
  unfold Jb;split
  · rename_i q;simp only [show ¬ (1:Int)=3 by decide,false_iff];exact fun k=>h k (.inl q)
  · split
    · rename_i q;simp only [show ¬ (2:Int)=3 by decide,false_iff];exact fun k=>h k (.inr q)
    · split
      · simp [*]
      · split <;> simp [*]
theorem JaN {p:api_Prog} {G:List Str} (ha:Apt p G) {s:Str}:Jb p G s=5↔s∈G:=by
  have h:=ha.regs s
  rw [kxi] at h
  unfold Jb;split
  · rename_i q;simp only [show ¬ (1:Int)=5 by decide,false_iff];exact fun k=>(h k).1 (.inl q)
  · split
    · rename_i q;simp only [show ¬ (2:Int)=5 by decide,false_iff];exact fun k=>(h k).1 (.inr q)
    · split
      · rename_i q;simp only [show ¬ (3:Int)=5 by decide,false_iff];exact fun k=>(h k).2 q
      · split <;> simp [*]
structure use0 where
  name:Str
  at':Int
  may:List Int
def JcK (l:List api_Node):List use0:=l.filterMap fun x=>if x.Op=2 then some ⟨x.Name,x.At,[5]⟩ else none
def On (k:Int):List Int:=if k=5∨k=6 then [1] else if k=9∨k=10 then [3] else [1,2]
def Jf2 (x:api_Stmt):List use0:=(if x.Reg≠[] then [⟨x.Reg,x.At,[5]⟩] else []) ++ ((if x.Name≠[] then [⟨x.Name,x.At,On x.Kind⟩] else []) ++ (JcK x.E ++ JcK x.F))
theorem Lv {l:List Str} {s:Str} (h:s ∉ l) (k:Nat):Cq l s k < 0:=by
  have:=(Cx l s k).1
  have h2:=fun z=>h (this.1 z)
  exact Int.not_le.1 h2
def Jbm (p:api_Prog) (G:List Str) (u:use0):Option Int:=if Jb p G u.name∈u.may then none else some u.at'
def Sf (p:api_Prog) (G:List Str) (x:api_Stmt):Option Int:=(Jf2 x).findSome? (Jbm p G)
def H7 (names:List Str) (x:api_Node):Option Int:=if x.Op=2∧x.Name ∉ names then some x.At else none
theorem Yq {l:List api_Node} {names:List Str} (hl:l.length≤1000) (hnm:names.length≤1000):∀ (d j n:Nat),j+d=l.length→d < n→
    Z4i 1000001 Z4g l names n (j:Int)=some (((l.drop j).findSome? (H7 names)).getD (-1)):=by
  intro d
  induction d with
  | zero =>
    intro j n hj hn
    obtain ⟨n,rfl⟩:∃ m,n=m+1:=⟨n - 1,by omega⟩
    rw [Z4i,if_neg (by omega),kxh (by omega)];rfl
  | succ d ih =>
    intro j n hj hn
    obtain ⟨n,rfl⟩:∃ m,n=m+1:=⟨n - 1,by omega⟩
    have h1:j < l.length:=by omega
    rw [Z4i,if_pos (by omega),Al rfl h1]
    simp only [kxa]
    rw [kxe h1,kyo]
    have go:Z4h (Z4i 1000001 Z4g l names n) l (j:Int) false=some (((l.drop (j+1)).findSome? (H7 names)).getD (-1)):=by
      rw [Z4h,if_neg (by decide),Bf h1 (by omega),ih (j+1) n (by omega) (by omega)]
    by_cases h:l[j].Op=2
    · rw [if_pos h, Do hnm (by omega)]
      simp only [kxa]
      by_cases q:l[j].Name∈names
      · rw [decide_eq_false (fun k=>by have:=(Ik (l:=names) (s:=l[j].Name)).2 q;omega),go,H7,if_neg (fun k=>k.2 q)]
      · rw [decide_eq_true (Lv q 0), Z4h, if_pos rfl, Al rfl h1, H7, if_pos ⟨h, q⟩]
        rfl
    · rw [if_neg h,go,H7,if_neg (fun k=>h k.1)]
theorem Ry {l:List api_Node} {names:List Str} (hl:l.length≤1000) (hn:names.length≤1000):Z4f 1000001 l names=some ((l.findSome? (H7 names)).getD (-1)):=by
  have:=Yq hl hn l.length 0 1000001 (by omega) (by omega)
  rw [kxf] at this
  exact this
theorem Rc {p:api_Prog} {G:List Str} (ha:Apt p G):∀ l:List api_Node,(JcK l).findSome? (Jbm p G)=l.findSome? (H7 G)
  | []=>rfl
  | x :: l => by
    rw [kyo,← Rc ha l]
    unfold JcK
    rw [List.filterMap_cons]
    by_cases h:x.Op=2
    · rw [if_pos h]
      simp only [kyo,Jbm,H7,kxg,kxu,or_false]
      by_cases q:x.Name∈G
      · rw [if_pos ((JaN ha).2 q),if_neg (fun k=>k.2 q)]
      · rw [if_neg (fun k=>q ((JaN ha).1 k)),if_pos ⟨h,q⟩]
    · rw [if_neg h]
      simp only [H7,if_neg (fun k:x.Op=2∧x.Name ∉ G=>h k.1)]
theorem Ws {α:Type} {f:α→Option Int} {l:List α} {v:Int} (h:l.findSome? f=some v):∃ x∈l,f x=some v:=List.exists_of_findSome?_eq_some h
theorem JcO {names:List Str} {l:List api_Node} (hl:∀ x∈l,0≤x.At) {v:Int} (h:l.findSome? (H7 names)=some v):0≤v:=by
  obtain ⟨x,hx,e⟩:=Ws h
  unfold H7 at e
  split at e
  · injection e with e;subst e;exact hl x hx
  · cases e
theorem Tv {x:api_Stmt} (h:Eo x=true):(x.Name=[]↔¬ (x.Kind=2∨x.Kind=3∨x.Kind=4∨x.Kind=5∨x.Kind=6∨x.Kind=9∨x.Kind=10)):=by
  simp only [Eo,kxc,decide_eq_true_eq] at h
  obtain ⟨⟨hk,_⟩,_,ht,_⟩:=h
  have cases14:x.Kind=1∨x.Kind=2∨x.Kind=3∨x.Kind=4∨x.Kind=5∨x.Kind=6∨x.Kind=7∨x.Kind=8∨x.Kind=9∨x.Kind=10∨x.Kind=11∨x.Kind=12∨x.Kind=13∨x.Kind=14:=by omega
  have nn:∀ s:Str,Ej s=true→s≠[]:=by intro s hs e;subst e;simp [Ej] at hs
  rcases cases14 with k | k | k | k | k | k | k | k | k | k | k | k | k | k <;> rw [k] at ht ⊢ <;>
    first
    | (have ht':Il true x.Name=true:=ht;have:=nn _ (by simpa [Il] using ht');simp [this])
    | (have ht' : Il false x.Name = true := ht; have : x.Name = [] := by simpa [Il] using ht'
       simp [this])
theorem JcS {is:Bool} {l:List api_Node} (h:Ic is l=true):l.length≤40∧∀ x∈l,0≤x.At∧x.At≤4000:=by
  unfold Ic at h
  split at h
  · have h' : ∃ t, RightE l t := by unfold Gw at h; simpa using h
    obtain ⟨t,ht⟩:=h'
    refine ⟨ht.len,fun x hx=>?_⟩
    have:=ht.may x hx
    unfold Oc at this
    rw [kxc,decide_eq_true_eq] at this
    exact this.1
  · have := of_decide_eq_true h
    subst this
    exact ⟨by simp,fun x hx=>by cases hx⟩
theorem Uy {x:api_Stmt} (h:Eo x=true):(0≤x.At∧x.At≤4000)∧(x.E.length≤40∧∀ y∈x.E,0≤y.At∧y.At≤4000)∧(x.F.length≤40∧∀ y∈x.F,0≤y.At∧y.At≤4000):=by
  simp only [Eo,kxc,decide_eq_true_eq] at h
  obtain ⟨⟨hk,_⟩,_,_,he,hf⟩:=h
  exact ⟨⟨hk.2.2.1,hk.2.2.2⟩,JcS he,JcS hf⟩
def Mb (p:api_Prog) (G:List Str) (x:api_Stmt):Option Int:=if x.Name≠[]∧Jb p G x.Name ∉ On x.Kind then some x.At else none
def JdN (G:List Str) (x:api_Stmt):Option Int:=if x.Reg≠[]∧x.Reg ∉ G then some x.At else none
theorem Un {p:api_Prog} {G:List Str} (ha:Apt p G) (x:api_Stmt):Sf p G x=(JdN G x).or ((Mb p G x).or ((x.E.findSome? (H7 G)).or (x.F.findSome? (H7 G)))):=by
  unfold Sf Jf2
  rw [kwj,kwj,kwj,Rc ha,Rc ha]
  congr 1
  · unfold JdN
    by_cases h:x.Reg≠[]
    · rw [if_pos h]
      simp only [kyo,List.findSome?_nil,Jbm,kxg,kxu,or_false]
      by_cases q:x.Reg∈G
      · rw [if_pos ((JaN ha).2 q),if_neg (fun k=>k.2 q)]
      · rw [if_neg (fun k=>q ((JaN ha).1 k)),if_pos ⟨h,q⟩]
    · rw [if_neg h,if_neg (fun k=>h k.1)];rfl
  · congr 1
    unfold Mb
    by_cases h:x.Name≠[]
    · rw [if_pos h]
      simp only [kyo,List.findSome?_nil,Jbm]
      by_cases q:Jb p G x.Name∈On x.Kind
      · rw [if_pos q,if_neg (fun k=>k.2 q)]
      · rw [if_neg q,if_pos ⟨h,q⟩]
    · rw [if_neg h,if_neg (fun k=>h k.1)];rfl
theorem Jem {t:api_Thread} {x:api_Stmt} (hx:Eo x=true) (hr:t.Regs.length≤1000):Z45 1000001 t x=some (((x.E.findSome? (H7 t.Regs)).or (x.F.findSome? (H7 t.Regs))).getD (-1)):=by
  obtain ⟨_,⟨he,hea⟩,⟨hf,_⟩⟩:=Uy hx
  rw [Z45,Ry (by omega) hr]
  simp only [kxa]
  cases h:x.E.findSome? (H7 t.Regs) with
  | some v =>
    have:=JcO (fun y hy=>(hea y hy).1) h
    rw [if_pos (by simpa using this)];rfl
  | none =>
    rw [if_neg (by simp),Ry (by omega) hr];rfl
theorem Jaf {p:api_Prog} (hp:SmallP p) {x:api_Stmt} {G:List Str} (ha:Apt p G) (hx:Eo x=true) (k:Option Int) :
    (if x.Kind=2 then Z46 1000001 k p x (Cq ((Bd p).map (·.Name)) x.Name 0) (decide (x.Kind=2)) else
      if x.Kind=3 then Z46 1000001 k p x (Cq ((Bd p).map (·.Name)) x.Name 0) (decide (x.Kind=3)) else
        Z46 1000001 k p x (Cq ((Bd p).map (·.Name)) x.Name 0) (decide (x.Kind=4)))=(match Mb p G x with | some v=>some v | none=>k):=by
  have hC:=Cv hp
  have hL:=hp.locks
  have hn:=Tv hx
  have ix:=Ik (l:=(Bd p).map (·.Name)) (s:=x.Name)
  have e1:(if x.Kind=2 then Z46 1000001 k p x (Cq ((Bd p).map (·.Name)) x.Name 0) (decide (x.Kind=2)) else
      if x.Kind=3 then Z46 1000001 k p x (Cq ((Bd p).map (·.Name)) x.Name 0) (decide (x.Kind=3)) else
        Z46 1000001 k p x (Cq ((Bd p).map (·.Name)) x.Name 0) (decide (x.Kind=4)))=Z46 1000001 k p x (Cq ((Bd p).map (·.Name)) x.Name 0) (decide (x.Kind=2∨x.Kind=3∨x.Kind=4)):=by
    by_cases h2:x.Kind=2
    · rw [if_pos h2,decide_eq_true h2,decide_eq_true (.inl h2)]
    · rw [if_neg h2]
      by_cases h3:x.Kind=3
      · rw [if_pos h3,decide_eq_true h3,decide_eq_true (.inr (.inl h3))]
      · rw [if_neg h3];congr 1;exact decide_eq_decide.2 (by omega)
  rw [e1,Z46]
  by_cases c1:x.Kind=2∨x.Kind=3∨x.Kind=4
  · have hne : x.Name ≠ [] := fun e => hn.1 e (by omega)
    have hm:On x.Kind=[1,2]:=by unfold On;rw [if_neg (by omega),if_neg (by omega)]
    rw [decide_eq_true c1,if_pos rfl,Mb,hm]
    have hw:=Jdg (p:=p) (G:=G) (s:=x.Name)
    rw [← Dz] at hw
    simp only [kxg,kxu,or_false]
    by_cases q:x.Name∈(Bd p).map (·.Name)
    · rw [if_neg (by have:=ix.2 q;omega),if_neg (fun z=>z.2 (hw.2 q))]
    · rw [if_pos (Lv q 0),if_pos ⟨hne,fun z=>q (hw.1 z)⟩]
  rw [decide_eq_false c1,if_neg (by decide)]
  have e2:(if x.Kind=5 then Z47 1000001 k p x (Cq ((Bd p).map (·.Name)) x.Name 0) (decide (x.Kind=5)) else Z47 1000001 k p x (Cq ((Bd p).map (·.Name)) x.Name 0) (decide (x.Kind=6))) =
      Z47 1000001 k p x (Cq ((Bd p).map (·.Name)) x.Name 0) (decide (x.Kind=5∨x.Kind=6)):=by
    by_cases h2:x.Kind=5
    · rw [if_pos h2,decide_eq_true h2,decide_eq_true (.inl h2)]
    · rw [if_neg h2];congr 1;exact decide_eq_decide.2 (by omega)
  rw [e2,Z47]
  by_cases c2:x.Kind=5∨x.Kind=6
  · have hne : x.Name ≠ [] := fun e => hn.1 e (by omega)
    have hm:On x.Kind=[1]:=if_pos c2
    rw [decide_eq_true c2,if_pos rfl,Mb,hm]
    simp only [kxg,kxu,or_false]
    have hw:=JeD (p:=p) (G:=G) (s:=x.Name)
    have hA:(A1 p).length=p.Lines.flatten.length:=kxx _
    have hi:=Ny (A1 p) (A2 p) x.Name 0
    have hn1:=Cx (A1 p) x.Name 0
    have hn2:=Cx (A2 p) x.Name (0+(A1 p).length)
    rw [Dz] at ix ⊢
    by_cases q:x.Name∈A1 p
    · rw [if_pos q] at hi
      have h1:=hn1.2 q
      rw [hi,if_neg (by omega),Kb (N:=1000001) (by decide) hp]
      simp only [kxa]
      rw [Z48,decide_eq_false (by omega),if_neg (by decide),if_neg (fun z=>z.2 (hw.2 q))]
    · rw [if_neg q] at hi
      rw [hi]
      by_cases q2:x.Name∈A2 p
      · have h1 := hn2.2 q2
        rw [if_neg (by omega),Kb (N:=1000001) (by decide) hp]
        simp only [kxa]
        rw [Z48,decide_eq_true (by omega),if_pos rfl,if_pos ⟨hne,fun z=>q (hw.1 z)⟩]
      · rw [if_pos (Lv q2 _),Z48,if_pos rfl,if_pos ⟨hne,fun z=>q (hw.1 z)⟩]
  rw [decide_eq_false c2,if_neg (by decide)]
  have e3:(if x.Kind=9 then Z49 1000001 k p x (decide (x.Kind=9)) else Z49 1000001 k p x (decide (x.Kind=10)))=Z49 1000001 k p x (decide (x.Kind=9∨x.Kind=10)):=by
    by_cases h2:x.Kind=9
    · rw [if_pos h2,decide_eq_true h2,decide_eq_true (.inl h2)]
    · rw [if_neg h2];congr 1;exact decide_eq_decide.2 (by omega)
  rw [e3,Z49]
  by_cases c3:x.Kind=9∨x.Kind=10
  · have hne : x.Name ≠ [] := fun e => hn.1 e (by omega)
    rw [decide_eq_true c3,if_pos rfl,Mr (N:=1000001) (by decide) hp]
    simp only [kxa]
    have hm:On x.Kind=[3]:=by unfold On;rw [if_neg c2,if_pos c3]
    rw [Do (by simp;omega) (by simp;omega),Mb,hm]
    simp only [kxa,kxg,kxu,or_false]
    have hw:=JeG ha (s:=x.Name)
    have iy:=Ik (l:=p.Locks.map (·.Name)) (s:=x.Name)
    by_cases q:x.Name∈p.Locks.map (·.Name)
    · rw [if_neg (by have:=iy.2 q;omega),if_neg (fun z=>z.2 (hw.2 q))]
    · rw [if_pos (Lv q 0),if_pos ⟨hne,fun z=>q (hw.1 z)⟩]
  · rw [decide_eq_false c3,if_neg (by decide),Mb,if_neg (fun z=>z.1 (hn.2 (by omega)))]
theorem JdW {p:api_Prog} (hp:SmallP p) {t:api_Thread} (hr:t.Regs.length≤1000) {x:api_Stmt} (ha:Apt p t.Regs) (hx:Eo x=true):Z43 1000001 p t x=some ((Sf p t.Regs x).getD (-1)):=by
  have hC:=Cv hp
  rw [Un ha]
  have go:Z44 1000001 p t x false=some (((Mb p t.Regs x).or ((x.E.findSome? (H7 t.Regs)).or (x.F.findSome? (H7 t.Regs)))).getD (-1)):=by
    rw [Z44,if_neg (by decide),H6 (N:=1000001) (by decide) hp]
    simp only [kxa]
    rw [Do (by simp;omega) (by simp;omega)]
    simp only [kxa]
    rw [Jaf hp ha hx,Jem hx hr]
    cases Mb p t.Regs x <;> rfl
  unfold Z43 JdN
  by_cases h:x.Reg≠[]
  · rw [if_pos h, Do hr (by omega)]
    simp only [kxa]
    have ix:=Ik (l:=t.Regs) (s:=x.Reg)
    by_cases q:x.Reg∈t.Regs
    · rw [decide_eq_false (by have:=ix.2 q;omega),go,if_neg (fun z=>z.2 q),Option.none_or]
    · rw [decide_eq_true (Lv q 0),Z44,if_pos rfl,if_pos ⟨h,q⟩];rfl
  · rw [if_neg h,go,if_neg (fun z=>h z.1),Option.none_or]
theorem Jd6 {p:api_Prog} {G:List Str} {x:api_Stmt} (hx:Eo x=true) {v:Int} (h:Sf p G x=some v):0≤v∧v≤4000:=by
  obtain ⟨h1,⟨_,h2⟩,⟨_,h3⟩⟩:=Uy hx
  obtain ⟨u,hu,e⟩:=Ws h
  have hv:u.at'=v:=by
    unfold Jbm at e;split at e
    · cases e
    · exact kyh e
  subst hv
  simp only [Jf2,kxi] at hu
  have node:∀ {l:List api_Node},(∀ y∈l,0≤y.At∧y.At≤4000)→u∈JcK l→0≤u.at'∧u.at'≤4000:=by
    intro l hl hu
    obtain ⟨y,hy,e⟩:=List.mem_filterMap.1 hu
    split at e
    · injection e with e;subst e;exact hl y hy
    · cases e
  rcases hu with hu | hu | hu | hu
  · split at hu
    · simp only [kxg,kxu,or_false] at hu;subst hu;exact h1
    · cases hu
  · split at hu
    · simp only [kxg,kxu,or_false] at hu;subst hu;exact h1
    · cases hu
  · exact node h2 hu
  · exact node h3 hu
structure PB (p:api_Prog):Prop where
  line:∀ l∈p.Lines,Oy l=true
  vols:∀ c∈p.Vols,cellB 4294967296 c=true
  locks:∀ c∈p.Locks,cellB 0 c=true
  recover:p.Recover.length≤1
  named:∀ t∈p.Threads,Jo t=true
  unnamed:∀ t∈p.Recover,Gt t=true
  claims:∀ c∈p.Claims,Jq c=true
theorem Ua {p:api_Prog}:S2 p=true↔PB p:=by
  simp only [S2,kxc,kxp,decide_eq_true_eq]
  exact ⟨fun ⟨a,b,c,d,e,f,g⟩=>⟨a,b,c,d,e,f,g⟩,fun ⟨a,b,c,d,e,f,g⟩=>⟨a,b,c,d,e,f,g⟩⟩
theorem Qt {a:Int}:Ka a=true↔0≤a∧a≤4000:=by simp [Ka]
theorem Wb {m:Int} {c:api_Cell} (h:cellB m c=true):0≤c.At∧c.At≤4000:=by
  unfold cellB at h;rw [kxc] at h;exact Qt.1 h.2
theorem PB.cell {p:api_Prog} (h:PB p):∀ c∈Bd p,cellB 4294967296 c=true:=by
  intro c hc
  rcases kxi.1 hc with hc | hc
  · obtain ⟨l, hl, hcl⟩ := List.mem_flatten.1 hc
    have:=h.line l hl
    unfold Oy at this
    rw [kxc,kxp] at this
    exact this.2 c hcl
  · exact h.vols c hc
theorem PB.thread {p:api_Prog} (h:PB p):∀ t∈Fb p,Hg t=true:=by
  intro t ht
  rcases kxi.1 ht with ht | ht
  · have:=h.named t ht;unfold Jo at this;rw [kxc] at this;exact this.2
  · have:=h.unnamed t ht;unfold Gt at this;rw [kxc] at this;exact this.2
theorem Im {t:api_Thread} (h:Hg t=true):(0≤t.At∧t.At≤4000)∧(∀ s∈t.Regs,Ej s=true)∧∃ b,RB t.Body b:=by
  unfold Hg at h
  rw [kxc,kxc,kxp] at h
  exact ⟨Qt.1 h.1,h.2.1,Jab.1 h.2.2⟩
theorem Jby {p:api_Prog} (h:PB p):∀ e∈Jh p,0≤e.2∧e.2≤4000:=by
  intro e he
  simp only [Jh,kxi,kyq] at he
  rcases he with ⟨x,hx,rfl⟩ | ⟨x,hx,rfl⟩ | ⟨x,hx,rfl⟩
  · exact Wb (h.cell x hx)
  · exact Wb (h.locks x hx)
  · exact (Im (h.thread x (kyn _ hx))).1
theorem Jba:∀ {l:List (Str×Int)} {seen:List Str} {v:Int},Ke l seen=some v→∃ e∈l,e.2=v
  | [],_,_,h=>by simp [Ke] at h
  | e :: l, seen, v, h => by
    rw [Ke] at h
    split at h
    · exact ⟨e,.head _,kyh h⟩
    · obtain ⟨x,h1,h2⟩:=Jba h;exact ⟨x,.tail _ h1,h2⟩
theorem Rs:∀ (a b:List (Str×Int)) (seen:List Str),Ke (a ++ b) seen=none→Ke a seen=none∧Ke b (seen ++ a.map (·.1))=none
  | [],b,seen,h=>⟨rfl,by simpa using h⟩
  | e :: a, b, seen, h => by
    simp only [kzx,Ke] at h ⊢
    split at h
    · cases h
    · rename_i q
      have:=Rs a b _ h
      rw [if_neg q]
      refine ⟨this.1,?_⟩
      have:=this.2
      rw [kxw] at this
      simpa using this
theorem Vu:∀ (l:List (Str×Int)) (seen:List Str),Ke l seen=none→∀ e∈l,e.1 ∉ seen
  | [],_,_,e,he=>by cases he
  | x :: l, seen, h, e, he => by
    rw [Ke] at h
    split at h
    · cases h
    · rename_i q
      rcases kxg.1 he with rfl | he
      · exact q
      · exact fun k=>Vu l _ h e he (kyn _ k)
theorem Jcu {p:api_Prog} {G:List Str} (h1:Ke (Jh p) []=none) (h2:Sp (Pj p) G=false):Apt p G:=by
  have h3:=(Rs _ _ _ h1).2
  have h4:=(Rs _ _ _ h3).1
  refine ⟨fun s hs=>?_,fun s hs=>?_⟩
  · obtain ⟨c, hc, rfl⟩ := kyq.1 hs
    have:=Vu _ _ h4 (c.Name,c.At) (kyq.2 ⟨c,hc,rfl⟩)
    rw [← Dz]
    simpa [Function.comp_def] using this
  · have := Vv G _ h2 s hs
    rw [N2,Dz,not_or] at this
    exact this
def Oz (t:api_Thread):Option Int:=(Z4j 1000001 t.Body 1).bind fun r=>if r = -1 then none else some r
theorem Jc1 {t:api_Thread} {o:Option Int} (h:Z4j 1000001 t.Body 1=some (o.getD (-1))) (ho:∀ v,o=some v→0≤v):Oz t=o:=by
  unfold Oz;rw [h]
  cases o with
  | none=>rfl
  | some v =>
    have:=ho v rfl
    show (if v = -1 then none else some v)=_
    rw [if_neg (by omega)]
theorem Jfr {t:api_Thread} (h:Hg t=true):True∧Z4j 1000001 t.Body 1=some ((Oz t).getD (-1))∧∀ v,Oz t=some v→0≤v∧v≤4000:=by
  obtain ⟨_,_,b,hb⟩:=Im h
  have hat:∀ x∈b.flat,0≤x.At∧x.At≤4000:=fun x hx=>(Uy (hb.fits x (by rw [hb.flat];exact hx))).1
  have hlen:b.size≤40:=by have:=hb.len;rw [hb.flat,B.flat_len] at this;exact this
  have e2:=Jco 1000001 b hb.ok (fun x hx=>(hat x hx).1) (by omega) 1 (by decide) (by decide)
  rw [← hb.flat] at e2
  rw [Jc1 e2 (fun v hv=>by obtain ⟨x,hx,rfl⟩:=Lh b 1 hv;exact (hat x hx).1)]
  refine ⟨trivial,e2,fun v hv=>?_⟩
  obtain ⟨x,hx,rfl⟩:=Lh b 1 hv
  exact hat x hx
def out (c:Int) (o:Option Int) (k:Option (Int×Int)):Option (Int×Int):=match o with | some v=>some (c,v) | none=>k
theorem Jf8 {l:List api_Thread} (hl:l.length≤1000) (ht:∀ t∈l,Hg t=true) (k:Option (Int×Int)):∀ (d j n:Nat),j+d=l.length→d < n→Z3b 1000001 k l n (j:Int)=out 11 ((l.drop j).findSome? Oz) k:=by
  intro d
  induction d with
  | zero =>
    intro j n hj hn
    obtain ⟨n,rfl⟩:∃ m,n=m+1:=⟨n - 1,by omega⟩
    rw [Z3b,if_neg (by omega),kxh (by omega)];rfl
  | succ d ih =>
    intro j n hj hn
    obtain ⟨n,rfl⟩:∃ m,n=m+1:=⟨n - 1,by omega⟩
    have h1:j < l.length:=by omega
    have hw:=Jfr (ht _ (kxj h1))
    rw [Z3b,if_pos (by omega),Al rfl h1]
    simp only [kxa]
    rw [hw.2.1,kxe h1,kyo]
    simp only [kxa]
    cases hv:Oz l[j] with
    | some v=>rw [if_pos (by have:=(hw.2.2 v hv).1;simpa using this)];rfl
    | none=>rw [if_neg (by simp),Bf h1 (by omega),ih (j+1) n (by omega) (by omega)]
def W9 (p:api_Prog) (t:api_Thread):Option Int:=if Sp (Pj p) t.Regs=true then some t.At else none
theorem JeI {p:api_Prog} (hp:SmallP p) {l:List api_Thread} (hl:l.length≤1000) (ht:∀ t∈l,SmallT t) (k:Option (Int×Int)):∀ (d j n:Nat),j+d=l.length→d < n→Z3c 1000001 k p l n (j:Int)=out 10 ((l.drop j).findSome? (W9 p)) k:=by
  intro d
  induction d with
  | zero =>
    intro j n hj hn
    obtain ⟨n,rfl⟩:∃ m,n=m+1:=⟨n - 1,by omega⟩
    rw [Z3c,if_neg (by omega),kxh (by omega)];rfl
  | succ d ih =>
    intro j n hj hn
    obtain ⟨n,rfl⟩:∃ m,n=m+1:=⟨n - 1,by omega⟩
    have h1:j < l.length:=by omega
    have hs:=ht _ (kxj h1)
    rw [Z3c,if_pos (by omega),show (0:Int)=((0:Nat):Int) from rfl,Wt hp h1 (by have:=hs.regs;omega) _ l[j].Regs.length 0 1000001 (by omega) (by have:=hs.regs;omega),
      List.take_zero,kze,kxf,kxe h1,kyo]
    unfold W9
    cases Sp (Pj p) l[j].Regs with
    | true=>rfl
    | false=>rw [if_neg (by decide),Z36,Bf h1 (by omega),ih (j+1) n (by omega) (by omega)];rfl
def Tk (p:api_Prog) (t:api_Thread):Option Int:=t.Body.findSome? (Sf p t.Regs)
theorem JeQ {p:api_Prog} (hp:SmallP p) {l:List api_Thread} {i:Nat} (hi:i < l.length) (hs:SmallT l[i]) (hf:∀ x∈l[i].Body,Eo x=true) (ha:Apt p l[i].Regs) (k:Option (Int×Int)):∀ (d j n:Nat),j+d=l[i].Body.length→d < n→
    Z39 1000001 k p l (i:Int) n (j:Int)=out 9 ((l[i].Body.drop j).findSome? (Sf p l[i].Regs)) k:=by
  intro d
  have hB:=hs.body
  induction d with
  | zero =>
    intro j n hj hn
    obtain ⟨n,rfl⟩:∃ m,n=m+1:=⟨n - 1,by omega⟩
    rw [Z39,Al rfl hi]
    simp only [kxa]
    rw [if_neg (by omega),kxh (by omega)];rfl
  | succ d ih =>
    intro j n hj hn
    obtain ⟨n,rfl⟩:∃ m,n=m+1:=⟨n - 1,by omega⟩
    have h1:j < l[i].Body.length:=by omega
    have hx:=hf _ (kxj h1)
    rw [Z39,Al rfl hi]
    simp only [kxa]
    rw [if_pos (by omega),Al rfl h1]
    simp only [kxa]
    rw [JdW hp (by have:=hs.regs;omega) ha hx,kxe h1,kyo]
    simp only [kxa]
    cases hv:Sf p l[i].Regs l[i].Body[j] with
    | some v=>rw [if_pos (by have:=(Jd6 hx hv).1;simpa using this)];rfl
    | none=>rw [if_neg (by simp),Bf h1 (by omega),ih (j+1) n (by omega) (by omega)]
theorem JdY {p:api_Prog} (hp:SmallP p) {l:List api_Thread} (hl:l.length≤1000) (ht:∀ t∈l,SmallT t) (hf:∀ t∈l,∀ x∈t.Body,Eo x=true) (ha:∀ t∈l,Apt p t.Regs) (k:Option (Int×Int)):∀ (d j n:Nat),j+d=l.length→d < n→
    Z3e 1000001 k p l n (j:Int)=out 9 ((l.drop j).findSome? (Tk p)) k:=by
  intro d
  induction d with
  | zero =>
    intro j n hj hn
    obtain ⟨n,rfl⟩:∃ m,n=m+1:=⟨n - 1,by omega⟩
    rw [Z3e,if_neg (by omega),kxh (by omega)];rfl
  | succ d ih =>
    intro j n hj hn
    obtain ⟨n,rfl⟩:∃ m,n=m+1:=⟨n - 1,by omega⟩
    have h1:j < l.length:=by omega
    have hm:=kxj h1
    have hs:=ht _ hm
    rw [Z3e,if_pos (by omega),show (0:Int)=((0:Nat):Int) from rfl,JeQ hp h1 hs (hf _ hm) (ha _ hm) _ l[j].Body.length 0 1000001 (by omega) (by have:=hs.body;omega),kxf,kxe h1,kyo]
    unfold Tk
    cases l[j].Body.findSome? (Sf p l[j].Regs) with
    | some v=>rfl
    | none=>simp only [out];rw [Z33,Bf h1 (by omega),ih (j+1) n (by omega) (by omega)];rfl
def Qv (p:api_Prog) (c:api_Claim):Option Int:=c.E.findSome? (H7 (A1 p))
theorem Jcv {c:api_Claim} (h:Jq c=true):∀ x∈c.E,0≤x.At∧x.At≤4000:=by
  unfold Jq at h
  rw [kxc] at h
  exact (JcS (is:=true) (l:=c.E) h.2).2
theorem JcZ {p:api_Prog} (hp:SmallP p) (hc:∀ c∈p.Claims,Jq c=true) (k:Option (Int×Int)):∀ (d j n:Nat),j+d=p.Claims.length→d < n→Z3a 1000001 k p (A1 p) n (j:Int)=out 9 ((p.Claims.drop j).findSome? (Qv p)) k:=by
  intro d
  have hC:=hp.claims
  have hF:=Cv hp
  have hA:(A1 p).length≤56:=by have e:=congrArg List.length (Dz p);simp only [kxx,kxk] at e;omega
  induction d with
  | zero =>
    intro j n hj hn
    obtain ⟨n,rfl⟩:∃ m,n=m+1:=⟨n - 1,by omega⟩
    rw [Z3a,if_neg (by omega),kxh (by omega)];rfl
  | succ d ih =>
    intro j n hj hn
    obtain ⟨n,rfl⟩:∃ m,n=m+1:=⟨n - 1,by omega⟩
    have h1:j < p.Claims.length:=by omega
    have hs:=hp.claim _ (kxj h1)
    rw [Z3a,if_pos (by omega),Al rfl h1]
    simp only [kxa]
    rw [Ry (by omega) (by omega),kxe h1,kyo]
    simp only [kxa]
    unfold Qv
    cases hv:p.Claims[j].E.findSome? (H7 (A1 p)) with
    | some v=>rw [if_pos (by have:=JcO (fun x hx=>(Jcv (hc _ (kxj h1)) x hx).1) hv;simpa using this)];rfl
    | none=>rw [if_neg (by simp),Bf h1 (by omega),ih (j+1) n (by omega) (by omega)];rfl
noncomputable def Oa (p:api_Prog):Option (Int×Int):=
  if S2 p=true then if Vz p=true then some (2,0) else
    out 11 ((Fb p).findSome? Oz) (out 10 (Ke (Jh p) []) (out 10 ((Fb p).findSome? (W9 p)) (out 9 ((Fb p).findSome? (Tk p)) (out 9 (p.Claims.findSome? (Qv p)) (some (0,0))))))
  else some (8,0)
theorem Gi {α β:Type} {f:α→Option β} {l:List α} (h:l.findSome? f=none):∀ x∈l,f x=none:=List.findSome?_eq_none_iff.1 h
theorem Jbj {p:api_Prog} (hp:SmallP p):Z31 1000001 p=Oa p:=by
  have hA:=My hp
  have hF:=Cv hp
  unfold Z31 Oa
  rw [Jbv hp]
  simp only [kxa]
  cases hq:S2 p with
  | false=>rfl
  | true =>
    have hB:=Ua.1 hq
    rw [if_pos rfl,if_pos rfl,Jeh hp]
    simp only [kxa]
    cases Vz p with
    | true=>rfl
    | false =>
      rw [if_neg (by decide),if_neg (by decide),Kj hp]
      simp only [kxa]
      have e1:=Jf8 (l:=Fb p) (by omega) hB.thread (Z32 1000001 p (Fb p)) (Fb p).length 0 1000001 (by omega) (by omega)
      rw [kxf] at e1
      refine Eq.trans e1 ?_
      suffices hj:Z32 1000001 p (Fb p)=out 10 (Ke (Jh p) []) (out 10 ((Fb p).findSome? (W9 p)) (out 9 ((Fb p).findSome? (Tk p)) (out 9 (p.Claims.findSome? (Qv p)) (some (0,0))))) by rw [hj]
      rw [Z32,Jcs hp]
      simp only [kxa]
      cases hd:Ke (Jh p) [] with
      | some v =>
        obtain ⟨e,he,hv⟩:=Jba hd
        have:=(Jby hB e he).1
        rw [kzr,if_pos (show v≥0 by omega)];simp only [out]
      | none =>
        rw [if_neg (by simp)]
        have e1:=JeI hp (l:=Fb p) (by omega) hA.2 (Z35 1000001 p (Fb p)) (Fb p).length 0 1000001 (by omega) (by omega)
        rw [kxf] at e1
        refine Eq.trans e1 ?_
        cases hr:(Fb p).findSome? (W9 p) with
        | some v=>rfl
        | none =>
          have hr':∀ t∈Fb p,Sp (Pj p) t.Regs=false:=by
            intro t ht
            have:=Gi hr t ht
            unfold W9 at this
            split at this
            · cases this
            · rename_i z;simpa using z
          simp only [out]
          rw [Z35]
          have e2:=JdY hp (l:=Fb p) (by omega) hA.2 (fun t ht x hx=>by
            obtain ⟨_,_,b,hb⟩:=Im (hB.thread t ht)
            exact hb.fits x hx) (fun t ht=>Jcu hd (hr' t ht)) (Z38 1000001 p) (Fb p).length 0 1000001 (by omega) (by omega)
          rw [kxf] at e2
          refine Eq.trans e2 ?_
          cases (Fb p).findSome? (Tk p) with
          | some v=>rfl
          | none =>
            simp only [out]
            rw [Z38,H6 (N:=1000001) (by decide) hp,Kb (N:=1000001) (by decide) hp]
            simp only [kxa]
            have hlen:(Bd p).length=p.Lines.flatten.length+p.Vols.length:=by simp [Bd]
            rw [Ef (by omega) (by omega) (by simp only [kxx];omega)]
            simp only [kxa]
            have hst:((List.map (fun x:api_Cell=>x.Name) (Bd p)).take (p.Lines.flatten.length:Int).toNat).drop (0:Int).toNat=A1 p:=by
              rw [Dz,kya,show (0:Int).toNat=0 from rfl,kxf,List.take_left' (by simp only [A1,kxx])]
            rw [hst]
            have e3:=JcZ hp hB.claims Z34 p.Claims.length 0 1000001 (by omega) (by have:=hp.claims;omega)
            rw [kxf] at e3
            exact e3
theorem Wz {p:api_Prog}:∃ r,Oa p=some r:=by
  unfold Oa
  split
  · split
    · exact ⟨_,rfl⟩
    · unfold out
      split
      · exact ⟨_,rfl⟩
      · split
        · exact ⟨_,rfl⟩
        · split
          · exact ⟨_,rfl⟩
          · split
            · exact ⟨_,rfl⟩
            · split <;> exact ⟨_,rfl⟩
  · exact ⟨_,rfl⟩
end Go.MD.SWAPS.R
