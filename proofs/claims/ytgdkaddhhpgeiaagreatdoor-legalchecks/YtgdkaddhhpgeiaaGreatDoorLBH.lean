/- Depths, steps, names of expressions. No condition: plain lemmas. -/
import Derived.Test.YtgdkaddhhpgeiaaGreatDoorLBG
namespace Go.MD.LB
open Go Go.MD
section
variable {l:List api_Node}
theorem Xe {p q:List api_Node} {x:api_Node} {a:T} (hl:l=p ++ ((T.un x a).flat ++ q)):l=(p ++ [x]) ++ (a.flat ++ q):=by rw [hl];simp [T.flat]
theorem Wk {p q:List api_Node} {x:api_Node} {a b:T} (hl:l=p ++ ((T.bin x a b).flat ++ q)):l=(p ++ [x]) ++ (a.flat ++ (b.flat ++ q)):=by rw [hl];simp [T.flat]
theorem Wu {p q:List api_Node} {x:api_Node} {a b:T} (hl:l=p ++ ((T.bin x a b).flat ++ q)):l=(p ++ [x] ++ a.flat) ++ (b.flat ++ q):=by rw [hl];simp [T.flat]
def T.head:T→api_Node
  | .leaf x=>x
  | .un x _=>x
  | .bin x _ _=>x
theorem Hq {p q:List api_Node} {t:T} (hl:l=p ++ (t.flat ++ q)):getI l (p.length:Int)=some t.head:=by
  rw [On,hl]
  cases t <;> simp [T.flat,T.head]
theorem Qg {N:Nat} (hl1:l.length≤1000) (hN:l.length+1 < N) {p q:List api_Node} {t:T} (hl:l=p ++ (t.flat ++ q)) (ht:t.wk):Z1 N l (p.length:Int)=some ((p.length+t.size:Nat):Int):=by
  rw [Vd hl1 hN (by rw [hl];simp),Jj hl ht]
theorem Nk {N:Nat} (hl1:l.length≤1000) (hN:l.length+5≤N) {p q:List api_Node} {t:T} (hl:l=p ++ (t.flat ++ q)) (ht:t.wk):Z23 N l (p.length:Int)=some ((p.length+t.size:Nat):Int):=by
  rw [Rw hl1 N p.length (by rw [hl];simp) (by omega),Jj hl ht]
theorem w01:IntKind.i64.wrap (0+1)=1:=by decide
theorem w12:IntKind.i64.wrap (1+1)=2:=by decide
theorem Jab {xs:List Int} {v:Int} (h:xs.length≤10):Ct 8 xs [v]=some (xs ++ [v]):=Cg (by simp;omega) (by decide)
theorem Lr {N:Nat} (hN:4≤N) {p q:List api_Node} {x:api_Node} (hl:l=p ++ ((T.leaf x).flat ++ q)) (ht:ar x.Op=0):Zd N l (p.length:Int)=some []:=by
  have h1:getI l (p.length:Int)=some x:=Hq hl
  obtain ⟨N,rfl⟩:∃ M,N=M+1:=⟨N - 1,by omega⟩
  unfold Zd
  rw [h1]
  simp only [Option.bind_some,Jf]
  rw [ht,Zf,if_neg (by omega),Ze]
theorem Of {N:Nat} (hl1:l.length≤1000) (hN:l.length+5≤N) {p q:List api_Node} {x:api_Node} {a:T} (hl:l=p ++ ((T.un x a).flat ++ q)) (ht:(T.un x a).wk):Zd N l (p.length:Int)=some [((p.length+1:Nat):Int)]:=by
  have h1:getI l (p.length:Int)=some x:=Hq hl
  have hp:p.length+(T.un x a).size≤l.length:=by rw [hl];simp [T.flat_len] <;> omega
  have hs:=T.size_pos (T.un x a)
  have e:=Qg hl1 (by omega:l.length+1 < N) (Xe hl) ht.2
  rw [List.length_append,List.length_singleton] at e
  obtain ⟨N,rfl⟩:∃ M,N=M+2:=⟨N - 2,by omega⟩
  unfold Zd
  rw [h1]
  simp only [Option.bind_some,Jf]
  rw [ht.1,Zf,if_pos (by omega),Jab (by simp)]
  simp only [Option.bind_some]
  rw [Bf (j:=p.length) (n:=l.length) (by omega) (by omega),e]
  simp only [Option.bind_some]
  rw [w01,Zf,if_neg (by omega),Ze]
  rfl
theorem Nr {N:Nat} (hl1:l.length≤1000) (hN:l.length+5≤N) {p q:List api_Node} {x:api_Node} {a b:T} (hl:l=p ++ ((T.bin x a b).flat ++ q)) (ht:(T.bin x a b).wk):Zd N l (p.length:Int)=some [((p.length+1:Nat):Int),((p.length+1+a.size:Nat):Int)]:=by
  have h1:getI l (p.length:Int)=some x:=Hq hl
  have hp:p.length+(T.bin x a b).size≤l.length:=by rw [hl];simp [T.flat_len] <;> omega
  have hs:=T.size_pos (T.bin x a b)
  have e:=Qg hl1 (by omega:l.length+1 < N) (Wk hl) ht.2.1
  have e2:=Qg hl1 (by omega:l.length+1 < N) (Wu hl) ht.2.2
  rw [List.length_append,List.length_singleton] at e
  rw [List.length_append,List.length_append,List.length_singleton,T.flat_len] at e2
  obtain ⟨N,rfl⟩:∃ M,N=M+3:=⟨N - 3,by omega⟩
  unfold Zd
  rw [h1]
  simp only [Option.bind_some,Jf]
  rw [ht.1,Zf,if_pos (by omega),Jab (by simp)]
  simp only [Option.bind_some]
  rw [Bf (j:=p.length) (n:=l.length) (by omega) (by omega),e]
  simp only [Option.bind_some]
  rw [w01,Zf,if_pos (by omega),Jab (by simp)]
  simp only [Option.bind_some]
  rw [e2]
  simp only [Option.bind_some]
  rw [w12,Zf,if_neg (by omega),Ze]
  rfl
theorem Np {α:Type} (x:α) (r:List α):getI (x :: r) 0=some x:=rfl
theorem Pq {α:Type} (x y:α) (r:List α):getI (x :: y :: r) 1=some y:=rfl
theorem Hj (hl1:l.length≤1000):∀ (t:T) (N:Nat) (p q:List api_Node),l=p ++ (t.flat ++ q)→t.wk→l.length+6+t.depth≤N→Z8 N l (p.length:Int)=some (t.depth:Int)
  | .leaf x, N, p, q, hl, ht, hN => by
    obtain ⟨N,rfl⟩:∃ M,N=M+2:=⟨N - 2,by omega⟩
    rw [Z8,Lr (by omega) hl ht]
    simp only [Option.bind_some]
    rw [Za,if_neg (by simp),Z9]
    rfl
  | .un x a, N, p, q, hl, ht, hN => by
    have hd:=T.depth_le (T.un x a)
    have hp:p.length+(T.un x a).size≤l.length:=by rw [hl];simp [T.flat_len] <;> omega
    simp only [T.depth] at hN hd ⊢
    obtain ⟨N,rfl⟩:∃ M,N=M+3:=⟨N - 3,by omega⟩
    rw [Z8,Of hl1 (by omega) hl ht]
    simp only [Option.bind_some]
    have ih:=Hj hl1 a (N+2) _ _ (Xe hl) ht.2 (by omega)
    rw [List.length_append,List.length_singleton] at ih
    rw [Za,if_pos (by simp),Np]
    simp only [Option.bind_some]
    rw [ih]
    simp only [Option.bind_some]
    rw [w01,Za,if_neg (by simp),Z9,w64 (by omega) (by omega)]
    first | rfl | (congr 1;omega)
  | .bin x a b, N, p, q, hl, ht, hN => by
    have hd:=T.depth_le (T.bin x a b)
    have hp:p.length+(T.bin x a b).size≤l.length:=by rw [hl];simp [T.flat_len] <;> omega
    simp only [T.depth] at hN hd ⊢
    obtain ⟨N,rfl⟩:∃ M,N=M+4:=⟨N - 4,by omega⟩
    rw [Z8,Nr hl1 (by omega) hl ht]
    simp only [Option.bind_some]
    have ih:=Hj hl1 a (N+3) _ _ (Wk hl) ht.2.1 (by omega)
    have ih2:=Hj hl1 b (N+3) _ _ (Wu hl) ht.2.2 (by omega)
    rw [List.length_append,List.length_singleton] at ih
    rw [List.length_append,List.length_append,List.length_singleton,T.flat_len] at ih2
    rw [Za,if_pos (by simp),Np]
    simp only [Option.bind_some]
    rw [ih]
    simp only [Option.bind_some]
    rw [w01,Za,if_pos (by simp),Pq]
    simp only [Option.bind_some]
    rw [ih2]
    simp only [Option.bind_some]
    rw [w12,Za,if_neg (by simp),Z9,w64 (by omega) (by omega)]
    first | rfl | (congr 1;omega)
theorem Jc (hl1:l.length≤1000):∀ (t:T) (N:Nat) (p q:List api_Node),l=p ++ (t.flat ++ q)→t.wk→l.length+6+t.depth≤N→Z2m N l (p.length:Int)=some (t.depth:Int)
  | .leaf x, N, p, q, hl, ht, hN => by
    have h1:getI l (p.length:Int)=some x:=Hq hl
    obtain ⟨N,rfl⟩:∃ M,N=M+2:=⟨N - 2,by omega⟩
    have h0:ar x.Op=0:=ht
    rw [Z2m,Z2o,h1]
    simp only [Option.bind_some,Fq]
    rw [if_neg (by omega),Z2n]
    rfl
  | .un x a, N, p, q, hl, ht, hN => by
    have h1:getI l (p.length:Int)=some x:=Hq hl
    have hd:=T.depth_le (T.un x a)
    have hp:p.length+(T.un x a).size≤l.length:=by rw [hl];simp [T.flat_len] <;> omega
    simp only [T.depth] at hN hd ⊢
    obtain ⟨N,rfl⟩:∃ M,N=M+3:=⟨N - 3,by omega⟩
    have ih:=Jc hl1 a (N+2) _ _ (Xe hl) ht.2 (by omega)
    have e:=Nk hl1 (by omega:l.length+5≤N+2) (Xe hl) ht.2
    rw [List.length_append,List.length_singleton] at ih e
    have h0:=ht.1
    rw [Z2m,Z2o,h1]
    simp only [Option.bind_some,Fq]
    rw [if_pos (by omega),Bf (j:=p.length) (n:=l.length) (by omega) (by omega),ih]
    simp only [Option.bind_some]
    rw [e]
    simp only [Option.bind_some]
    rw [w01,Z2o,h1]
    simp only [Option.bind_some,Fq]
    rw [if_neg (by omega),Z2n,w64 (by omega) (by omega)]
    first | rfl | (congr 1;omega)
  | .bin x a b, N, p, q, hl, ht, hN => by
    have h1:getI l (p.length:Int)=some x:=Hq hl
    have hd:=T.depth_le (T.bin x a b)
    have hp:p.length+(T.bin x a b).size≤l.length:=by rw [hl];simp [T.flat_len] <;> omega
    simp only [T.depth] at hN hd ⊢
    obtain ⟨N,rfl⟩:∃ M,N=M+4:=⟨N - 4,by omega⟩
    have ih:=Jc hl1 a (N+3) _ _ (Wk hl) ht.2.1 (by omega)
    have ih2:=Jc hl1 b (N+3) _ _ (Wu hl) ht.2.2 (by omega)
    have e:=Nk hl1 (by omega:l.length+5≤N+3) (Wk hl) ht.2.1
    have e2:=Nk hl1 (by omega:l.length+5≤N+3) (Wu hl) ht.2.2
    rw [List.length_append,List.length_singleton] at ih e
    rw [List.length_append,List.length_append,List.length_singleton,T.flat_len] at ih2 e2
    have h0:=ht.1
    rw [Z2m,Z2o,h1]
    simp only [Option.bind_some,Fq]
    rw [if_pos (by omega),Bf (j:=p.length) (n:=l.length) (by omega) (by omega),ih]
    simp only [Option.bind_some]
    rw [e]
    simp only [Option.bind_some]
    rw [w01,Z2o,h1]
    simp only [Option.bind_some,Fq]
    rw [if_pos (by omega),ih2]
    simp only [Option.bind_some]
    rw [e2]
    simp only [Option.bind_some]
    rw [w12,Z2o,h1]
    simp only [Option.bind_some,Fq]
    rw [if_neg (by omega),Z2n,w64 (by omega) (by omega)]
    first | rfl | (congr 1;omega)
def Dy:List Str→Str→Nat→Int
  | [],_,_=>-1
  | x :: r,s,k=>if x=s then (k:Int) else Dy r s (k+1)
theorem En {N:Nat} {names:List Str} {s:Str} (hl:names.length≤1000) (hN:names.length < N):Z69 N names s=some (Dy names s 0):=by
  have key:∀ (d j n:Nat),j+d=names.length→d < n→Z6b N Z6a names s n (j:Int)=some (Dy (names.drop j) s j):=by
    intro d
    induction d with
    | zero =>
      intro j n hj hn
      obtain ⟨n,rfl⟩:∃ m,n=m+1:=⟨n - 1,by omega⟩
      rw [Z6b,if_neg (by omega),List.drop_of_length_le (by omega)];rfl
    | succ d ih =>
      intro j n hj hn
      obtain ⟨n,rfl⟩:∃ m,n=m+1:=⟨n - 1,by omega⟩
      have h1:j < names.length:=by omega
      rw [Z6b,if_pos (by omega),As rfl h1]
      simp only [Option.bind_some]
      rw [List.drop_eq_getElem_cons h1,Dy]
      by_cases e:names[j]=s
      · rw [if_pos e,if_pos e]
      · rw [if_neg e, if_neg e, Bf h1 (by omega)]
        exact ih (j+1) n (by omega) (by omega)
  unfold Z69
  exact key names.length 0 N (by omega) hN
theorem Dt:∀ (names:List Str) (s:Str) (k:Nat),(0≤Dy names s k↔s∈names)∧(s∈names→(k:Int)≤Dy names s k∧Dy names s k < (k:Int)+(names.length:Int))
  | [],s,k=>⟨⟨fun h=>by simp [Dy] at h,fun h=>by cases h⟩,fun h=>by cases h⟩
  | x :: r, s, k => by
    obtain ⟨h1,h2⟩:=Dt r s (k+1)
    unfold Dy
    by_cases e:x=s
    · rw [if_pos e]
      exact ⟨⟨fun _=>by rw [e];exact .head _,fun _=>by omega⟩,fun _=>by simp;omega⟩
    · rw [if_neg e]
      have hm:s∈x :: r↔s∈r:=⟨fun h=>by
        rcases List.mem_cons.1 h with h | h
        · exact absurd h.symm e
        · exact h,fun h=>.tail _ h⟩
      rw [hm]
      refine ⟨h1,fun h=>?_⟩
      have:=h2 h
      simp;omega
end
end Go.MD.LB
