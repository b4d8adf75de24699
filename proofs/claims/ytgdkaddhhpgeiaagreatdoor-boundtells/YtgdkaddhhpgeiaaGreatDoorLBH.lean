/- Depths, steps, names of expressions. No condition: plain lemmas. -/
import Derived.Test.YtgdkaddhhpgeiaaGreatDoorLBG
namespace Go.MD.LB
open Go Go.MD
section
variable {l:List api_Node}
theorem Yd {p q:List api_Node} {x:api_Node} {a:T} (hl:l=p ++ ((T.un x a).flat ++ q)):l=(p ++ [x]) ++ (a.flat ++ q):=by rw [hl];simp [T.flat]
theorem Xu {p q:List api_Node} {x:api_Node} {a b:T} (hl:l=p ++ ((T.bin x a b).flat ++ q)):l=(p ++ [x]) ++ (a.flat ++ (b.flat ++ q)):=by rw [hl];simp [T.flat]
theorem Xv {p q:List api_Node} {x:api_Node} {a b:T} (hl:l=p ++ ((T.bin x a b).flat ++ q)):l=(p ++ [x] ++ a.flat) ++ (b.flat ++ q):=by rw [hl];simp [T.flat]
def T.head:T→api_Node
  | .leaf x=>x
  | .un x _=>x
  | .bin x _ _=>x
theorem Ib {p q:List api_Node} {t:T} (hl:l=p ++ (t.flat ++ q)):getI l (p.length:Int)=some t.head:=by
  rw [Oy,hl]
  cases t <;> simp [T.flat,T.head]
theorem Qh {N:Nat} (hl1:l.length≤1000) (hN:l.length+1 < N) {p q:List api_Node} {t:T} (hl:l=p ++ (t.flat ++ q)) (ht:t.wk):Zm N l (p.length:Int)=some ((p.length+t.size:Nat):Int):=by
  rw [Vn hl1 hN (by rw [hl];simp),Jw hl ht]
theorem Nz {N:Nat} (hl1:l.length≤1000) (hN:l.length+5≤N) {p q:List api_Node} {t:T} (hl:l=p ++ (t.flat ++ q)) (ht:t.wk):Z2q N l (p.length:Int)=some ((p.length+t.size:Nat):Int):=by
  rw [Sr hl1 N p.length (by rw [hl];simp) (by omega),Jw hl ht]
theorem w01:IntKind.i64.wrap (0+1)=1:=by decide
theorem w12:IntKind.i64.wrap (1+1)=2:=by decide
theorem JaN {xs:List Int} {v:Int} (h:xs.length≤10):Cx 8 xs [v]=some (xs ++ [v]):=Cg (by simp;omega) (by decide)
theorem Mg {N:Nat} (hN:4≤N) {p q:List api_Node} {x:api_Node} (hl:l=p ++ ((T.leaf x).flat ++ q)) (ht:ar x.Op=0):Zy N l (p.length:Int)=some []:=by
  have h1:getI l (p.length:Int)=some x:=Ib hl
  obtain ⟨N,rfl⟩:∃ M,N=M+1:=⟨N - 1,by omega⟩
  unfold Zy
  rw [h1]
  simp only [Option.bind_some,Jg]
  rw [ht,Z10,if_neg (by omega),Zz]
theorem Ps {N:Nat} (hl1:l.length≤1000) (hN:l.length+5≤N) {p q:List api_Node} {x:api_Node} {a:T} (hl:l=p ++ ((T.un x a).flat ++ q)) (ht:(T.un x a).wk):Zy N l (p.length:Int)=some [((p.length+1:Nat):Int)]:=by
  have h1:getI l (p.length:Int)=some x:=Ib hl
  have hp:p.length+(T.un x a).size≤l.length:=by rw [hl];simp [T.flat_len] <;> omega
  have hs:=T.size_pos (T.un x a)
  have e:=Qh hl1 (by omega:l.length+1 < N) (Yd hl) ht.2
  rw [List.length_append,List.length_singleton] at e
  obtain ⟨N,rfl⟩:∃ M,N=M+2:=⟨N - 2,by omega⟩
  unfold Zy
  rw [h1]
  simp only [Option.bind_some,Jg]
  rw [ht.1,Z10,if_pos (by omega),JaN (by simp)]
  simp only [Option.bind_some]
  rw [Be (j:=p.length) (n:=l.length) (by omega) (by omega),e]
  simp only [Option.bind_some]
  rw [w01,Z10,if_neg (by omega),Zz]
  rfl
theorem N2 {N:Nat} (hl1:l.length≤1000) (hN:l.length+5≤N) {p q:List api_Node} {x:api_Node} {a b:T} (hl:l=p ++ ((T.bin x a b).flat ++ q)) (ht:(T.bin x a b).wk):Zy N l (p.length:Int)=some [((p.length+1:Nat):Int),((p.length+1+a.size:Nat):Int)]:=by
  have h1:getI l (p.length:Int)=some x:=Ib hl
  have hp:p.length+(T.bin x a b).size≤l.length:=by rw [hl];simp [T.flat_len] <;> omega
  have hs:=T.size_pos (T.bin x a b)
  have e:=Qh hl1 (by omega:l.length+1 < N) (Xu hl) ht.2.1
  have e2:=Qh hl1 (by omega:l.length+1 < N) (Xv hl) ht.2.2
  rw [List.length_append,List.length_singleton] at e
  rw [List.length_append,List.length_append,List.length_singleton,T.flat_len] at e2
  obtain ⟨N,rfl⟩:∃ M,N=M+3:=⟨N - 3,by omega⟩
  unfold Zy
  rw [h1]
  simp only [Option.bind_some,Jg]
  rw [ht.1,Z10,if_pos (by omega),JaN (by simp)]
  simp only [Option.bind_some]
  rw [Be (j:=p.length) (n:=l.length) (by omega) (by omega),e]
  simp only [Option.bind_some]
  rw [w01,Z10,if_pos (by omega),JaN (by simp)]
  simp only [Option.bind_some]
  rw [e2]
  simp only [Option.bind_some]
  rw [w12,Z10,if_neg (by omega),Zz]
  rfl
theorem N8 {α:Type} (x:α) (r:List α):getI (x :: r) 0=some x:=rfl
theorem Qy {α:Type} (x y:α) (r:List α):getI (x :: y :: r) 1=some y:=rfl
theorem Hm (hl1:l.length≤1000):∀ (t:T) (N:Nat) (p q:List api_Node),l=p ++ (t.flat ++ q)→t.wk→l.length+6+t.depth≤N→Zt N l (p.length:Int)=some (t.depth:Int)
  | .leaf x, N, p, q, hl, ht, hN => by
    obtain ⟨N,rfl⟩:∃ M,N=M+2:=⟨N - 2,by omega⟩
    rw [Zt,Mg (by omega) hl ht]
    simp only [Option.bind_some]
    rw [Zv,if_neg (by simp),Zu]
    rfl
  | .un x a, N, p, q, hl, ht, hN => by
    have hd:=T.depth_le (T.un x a)
    have hp:p.length+(T.un x a).size≤l.length:=by rw [hl];simp [T.flat_len] <;> omega
    simp only [T.depth] at hN hd ⊢
    obtain ⟨N,rfl⟩:∃ M,N=M+3:=⟨N - 3,by omega⟩
    rw [Zt,Ps hl1 (by omega) hl ht]
    simp only [Option.bind_some]
    have ih:=Hm hl1 a (N+2) _ _ (Yd hl) ht.2 (by omega)
    rw [List.length_append,List.length_singleton] at ih
    rw [Zv,if_pos (by simp),N8]
    simp only [Option.bind_some]
    rw [ih]
    simp only [Option.bind_some]
    rw [w01,Zv,if_neg (by simp),Zu,w64 (by omega) (by omega)]
    first | rfl | (congr 1;omega)
  | .bin x a b, N, p, q, hl, ht, hN => by
    have hd:=T.depth_le (T.bin x a b)
    have hp:p.length+(T.bin x a b).size≤l.length:=by rw [hl];simp [T.flat_len] <;> omega
    simp only [T.depth] at hN hd ⊢
    obtain ⟨N,rfl⟩:∃ M,N=M+4:=⟨N - 4,by omega⟩
    rw [Zt,N2 hl1 (by omega) hl ht]
    simp only [Option.bind_some]
    have ih:=Hm hl1 a (N+3) _ _ (Xu hl) ht.2.1 (by omega)
    have ih2:=Hm hl1 b (N+3) _ _ (Xv hl) ht.2.2 (by omega)
    rw [List.length_append,List.length_singleton] at ih
    rw [List.length_append,List.length_append,List.length_singleton,T.flat_len] at ih2
    rw [Zv,if_pos (by simp),N8]
    simp only [Option.bind_some]
    rw [ih]
    simp only [Option.bind_some]
    rw [w01,Zv,if_pos (by simp),Qy]
    simp only [Option.bind_some]
    rw [ih2]
    simp only [Option.bind_some]
    rw [w12,Zv,if_neg (by simp),Zu,w64 (by omega) (by omega)]
    first | rfl | (congr 1;omega)
theorem Ja (hl1:l.length≤1000):∀ (t:T) (N:Nat) (p q:List api_Node),l=p ++ (t.flat ++ q)→t.wk→l.length+6+t.depth≤N→Z39 N l (p.length:Int)=some (t.depth:Int)
  | .leaf x, N, p, q, hl, ht, hN => by
    have h1:getI l (p.length:Int)=some x:=Ib hl
    obtain ⟨N,rfl⟩:∃ M,N=M+2:=⟨N - 2,by omega⟩
    have h0:ar x.Op=0:=ht
    rw [Z39,Z3b,h1]
    simp only [Option.bind_some,Fx]
    rw [if_neg (by omega),Z3a]
    rfl
  | .un x a, N, p, q, hl, ht, hN => by
    have h1:getI l (p.length:Int)=some x:=Ib hl
    have hd:=T.depth_le (T.un x a)
    have hp:p.length+(T.un x a).size≤l.length:=by rw [hl];simp [T.flat_len] <;> omega
    simp only [T.depth] at hN hd ⊢
    obtain ⟨N,rfl⟩:∃ M,N=M+3:=⟨N - 3,by omega⟩
    have ih:=Ja hl1 a (N+2) _ _ (Yd hl) ht.2 (by omega)
    have e:=Nz hl1 (by omega:l.length+5≤N+2) (Yd hl) ht.2
    rw [List.length_append,List.length_singleton] at ih e
    have h0:=ht.1
    rw [Z39,Z3b,h1]
    simp only [Option.bind_some,Fx]
    rw [if_pos (by omega),Be (j:=p.length) (n:=l.length) (by omega) (by omega),ih]
    simp only [Option.bind_some]
    rw [e]
    simp only [Option.bind_some]
    rw [w01,Z3b,h1]
    simp only [Option.bind_some,Fx]
    rw [if_neg (by omega),Z3a,w64 (by omega) (by omega)]
    first | rfl | (congr 1;omega)
  | .bin x a b, N, p, q, hl, ht, hN => by
    have h1:getI l (p.length:Int)=some x:=Ib hl
    have hd:=T.depth_le (T.bin x a b)
    have hp:p.length+(T.bin x a b).size≤l.length:=by rw [hl];simp [T.flat_len] <;> omega
    simp only [T.depth] at hN hd ⊢
    obtain ⟨N,rfl⟩:∃ M,N=M+4:=⟨N - 4,by omega⟩
    have ih:=Ja hl1 a (N+3) _ _ (Xu hl) ht.2.1 (by omega)
    have ih2:=Ja hl1 b (N+3) _ _ (Xv hl) ht.2.2 (by omega)
    have e:=Nz hl1 (by omega:l.length+5≤N+3) (Xu hl) ht.2.1
    have e2:=Nz hl1 (by omega:l.length+5≤N+3) (Xv hl) ht.2.2
    rw [List.length_append,List.length_singleton] at ih e
    rw [List.length_append,List.length_append,List.length_singleton,T.flat_len] at ih2 e2
    have h0:=ht.1
    rw [Z39,Z3b,h1]
    simp only [Option.bind_some,Fx]
    rw [if_pos (by omega),Be (j:=p.length) (n:=l.length) (by omega) (by omega),ih]
    simp only [Option.bind_some]
    rw [e]
    simp only [Option.bind_some]
    rw [w01,Z3b,h1]
    simp only [Option.bind_some,Fx]
    rw [if_pos (by omega),ih2]
    simp only [Option.bind_some]
    rw [e2]
    simp only [Option.bind_some]
    rw [w12,Z3b,h1]
    simp only [Option.bind_some,Fx]
    rw [if_neg (by omega),Z3a,w64 (by omega) (by omega)]
    first | rfl | (congr 1;omega)
def Ee:List Str→Str→Nat→Int
  | [],_,_=>-1
  | x :: r,s,k=>if x=s then (k:Int) else Ee r s (k+1)
theorem Ew {N:Nat} {names:List Str} {s:Str} (hl:names.length≤1000) (hN:names.length < N):Z6w N names s=some (Ee names s 0):=by
  have key:∀ (d j n:Nat),j+d=names.length→d < n→Z6y N Z6x names s n (j:Int)=some (Ee (names.drop j) s j):=by
    intro d
    induction d with
    | zero =>
      intro j n hj hn
      obtain ⟨n,rfl⟩:∃ m,n=m+1:=⟨n - 1,by omega⟩
      rw [Z6y,if_neg (by omega),List.drop_of_length_le (by omega)];rfl
    | succ d ih =>
      intro j n hj hn
      obtain ⟨n,rfl⟩:∃ m,n=m+1:=⟨n - 1,by omega⟩
      have h1:j < names.length:=by omega
      rw [Z6y,if_pos (by omega),As rfl h1]
      simp only [Option.bind_some]
      rw [List.drop_eq_getElem_cons h1,Ee]
      by_cases e:names[j]=s
      · rw [if_pos e,if_pos e]
      · rw [if_neg e, if_neg e, Be h1 (by omega)]
        exact ih (j+1) n (by omega) (by omega)
  unfold Z6w
  exact key names.length 0 N (by omega) hN
theorem Dz:∀ (names:List Str) (s:Str) (k:Nat),(0≤Ee names s k↔s∈names)∧(s∈names→(k:Int)≤Ee names s k∧Ee names s k < (k:Int)+(names.length:Int))
  | [],s,k=>⟨⟨fun h=>by simp [Ee] at h,fun h=>by cases h⟩,fun h=>by cases h⟩
  | x :: r, s, k => by
    obtain ⟨h1,h2⟩:=Dz r s (k+1)
    unfold Ee
    by_cases e:x=s
    · rw [if_pos e]
      exact ⟨⟨fun _=>by rw [e];exact .head _,fun _=>by omega⟩,fun _=>by simp;omega⟩
    · rw [if_neg e]
      have hm:s∈x :: r↔s∈r:=⟨fun h=>by
        rcases List.mem_cons.1 h with h | h
        · exact absurd h.symm e
        · exact h,fun h=>.tail _ h⟩
      rw [hm]
      refine ⟨h1,fun h=>?_⟩
      have:=h2 h
      simp;omega
end
end Go.MD.LB
