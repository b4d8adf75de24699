/- Depths, steps, names of expressions. No condition: plain lemmas. -/
import Derived.Test.YtgdkaddhhpgeiaaGreatDoorLBG
namespace Go.MD.LB
open Go Go.MD
section
variable {l:List api_Node}
theorem Wv {p q:List api_Node} {x:api_Node} {a:T} (hl:l=p ++ ((T.un x a).flat ++ q)):l=(p ++ [x]) ++ (a.flat ++ q):=by rw [hl];simp [T.flat]
theorem Wh {p q:List api_Node} {x:api_Node} {a b:T} (hl:l=p ++ ((T.bin x a b).flat ++ q)):l=(p ++ [x]) ++ (a.flat ++ (b.flat ++ q)):=by rw [hl];simp [T.flat]
theorem Wi {p q:List api_Node} {x:api_Node} {a b:T} (hl:l=p ++ ((T.bin x a b).flat ++ q)):l=(p ++ [x] ++ a.flat) ++ (b.flat ++ q):=by rw [hl];simp [T.flat]
def T.head:T→api_Node
  | .leaf x=>x
  | .un x _=>x
  | .bin x _ _=>x
theorem Gx {p q:List api_Node} {t:T} (hl:l=p ++ (t.flat ++ q)):getI l (p.length:Int)=some t.head:=by
  rw [Oo,hl]
  cases t <;> simp [T.flat,T.head]
theorem Pw {N:Nat} (hl1:l.length≤1000) (hN:l.length+1 < N) {p q:List api_Node} {t:T} (hl:l=p ++ (t.flat ++ q)) (ht:t.wk):Z1 N l (p.length:Int)=some ((p.length+t.size:Nat):Int):=by
  rw [Tm hl1 hN (by rw [hl];simp),Iy hl ht]
theorem Nr {N:Nat} (hl1:l.length≤1000) (hN:l.length+5≤N) {p q:List api_Node} {t:T} (hl:l=p ++ (t.flat ++ q)) (ht:t.wk):Z2b N l (p.length:Int)=some ((p.length+t.size:Nat):Int):=by
  rw [Ri hl1 N p.length (by rw [hl];simp) (by omega),Iy hl ht]
theorem w01:IntKind.i64.wrap (0+1)=1:=by decide
theorem w12:IntKind.i64.wrap (1+1)=2:=by decide
theorem Yv {xs:List Int} {v:Int} (h:xs.length≤10):Cw 8 xs [v]=some (xs ++ [v]):=Cn (by simp;omega) (by decide)
theorem Lv {N:Nat} (hN:4≤N) {p q:List api_Node} {x:api_Node} (hl:l=p ++ ((T.leaf x).flat ++ q)) (ht:ar x.Op=0):Zd N l (p.length:Int)=some []:=by
  have h1:getI l (p.length:Int)=some x:=Gx hl
  obtain ⟨N,rfl⟩:∃ M,N=M+1:=⟨N - 1,by omega⟩
  unfold Zd
  rw [h1]
  simp only [Option.bind_some,H7]
  rw [ht,Zf,if_neg (by omega),Ze]
theorem Pm {N:Nat} (hl1:l.length≤1000) (hN:l.length+5≤N) {p q:List api_Node} {x:api_Node} {a:T} (hl:l=p ++ ((T.un x a).flat ++ q)) (ht:(T.un x a).wk):Zd N l (p.length:Int)=some [((p.length+1:Nat):Int)]:=by
  have h1:getI l (p.length:Int)=some x:=Gx hl
  have hp:p.length+(T.un x a).size≤l.length:=by rw [hl];simp [T.flat_len] <;> omega
  have hs:=T.size_pos (T.un x a)
  have e:=Pw hl1 (by omega:l.length+1 < N) (Wv hl) ht.2
  rw [List.length_append,List.length_singleton] at e
  obtain ⟨N,rfl⟩:∃ M,N=M+2:=⟨N - 2,by omega⟩
  unfold Zd
  rw [h1]
  simp only [Option.bind_some,H7]
  rw [ht.1,Zf,if_pos (by omega),Yv (by simp)]
  simp only [Option.bind_some]
  rw [Bf (j:=p.length) (n:=l.length) (by omega) (by omega),e]
  simp only [Option.bind_some]
  rw [w01,Zf,if_neg (by omega),Ze]
  rfl
theorem N2 {N:Nat} (hl1:l.length≤1000) (hN:l.length+5≤N) {p q:List api_Node} {x:api_Node} {a b:T} (hl:l=p ++ ((T.bin x a b).flat ++ q)) (ht:(T.bin x a b).wk):Zd N l (p.length:Int)=some [((p.length+1:Nat):Int),((p.length+1+a.size:Nat):Int)]:=by
  have h1:getI l (p.length:Int)=some x:=Gx hl
  have hp:p.length+(T.bin x a b).size≤l.length:=by rw [hl];simp [T.flat_len] <;> omega
  have hs:=T.size_pos (T.bin x a b)
  have e:=Pw hl1 (by omega:l.length+1 < N) (Wh hl) ht.2.1
  have e2:=Pw hl1 (by omega:l.length+1 < N) (Wi hl) ht.2.2
  rw [List.length_append,List.length_singleton] at e
  rw [List.length_append,List.length_append,List.length_singleton,T.flat_len] at e2
  obtain ⟨N,rfl⟩:∃ M,N=M+3:=⟨N - 3,by omega⟩
  unfold Zd
  rw [h1]
  simp only [Option.bind_some,H7]
  rw [ht.1,Zf,if_pos (by omega),Yv (by simp)]
  simp only [Option.bind_some]
  rw [Bf (j:=p.length) (n:=l.length) (by omega) (by omega),e]
  simp only [Option.bind_some]
  rw [w01,Zf,if_pos (by omega),Yv (by simp)]
  simp only [Option.bind_some]
  rw [e2]
  simp only [Option.bind_some]
  rw [w12,Zf,if_neg (by omega),Ze]
  rfl
theorem Nq {α:Type} (x:α) (r:List α):getI (x :: r) 0=some x:=rfl
theorem Qd {α:Type} (x y:α) (r:List α):getI (x :: y :: r) 1=some y:=rfl
theorem Gd (hl1:l.length≤1000):∀ (t:T) (N:Nat) (p q:List api_Node),l=p ++ (t.flat ++ q)→t.wk→l.length+6+t.depth≤N→Z8 N l (p.length:Int)=some (t.depth:Int)
  | .leaf x, N, p, q, hl, ht, hN => by
    obtain ⟨N,rfl⟩:∃ M,N=M+2:=⟨N - 2,by omega⟩
    rw [Z8,Lv (by omega) hl ht]
    simp only [Option.bind_some]
    rw [Za,if_neg (by simp),Z9]
    rfl
  | .un x a, N, p, q, hl, ht, hN => by
    have hd:=T.depth_le (T.un x a)
    have hp:p.length+(T.un x a).size≤l.length:=by rw [hl];simp [T.flat_len] <;> omega
    simp only [T.depth] at hN hd ⊢
    obtain ⟨N,rfl⟩:∃ M,N=M+3:=⟨N - 3,by omega⟩
    rw [Z8,Pm hl1 (by omega) hl ht]
    simp only [Option.bind_some]
    have ih:=Gd hl1 a (N+2) _ _ (Wv hl) ht.2 (by omega)
    rw [List.length_append,List.length_singleton] at ih
    rw [Za,if_pos (by simp),Nq]
    simp only [Option.bind_some]
    rw [ih]
    simp only [Option.bind_some]
    rw [w01,Za,if_neg (by simp),Z9,w64 (by omega) (by omega)]
    first | rfl | (congr 1;omega)
  | .bin x a b, N, p, q, hl, ht, hN => by
    have hd:=T.depth_le (T.bin x a b)
    have hp:p.length+(T.bin x a b).size≤l.length:=by rw [hl];simp [T.flat_len] <;> omega
    simp only [T.depth] at hN hd ⊢
    obtain ⟨N,rfl⟩:∃ M,N=M+4:=⟨N - 4,by omega⟩
    rw [Z8,N2 hl1 (by omega) hl ht]
    simp only [Option.bind_some]
    have ih:=Gd hl1 a (N+3) _ _ (Wh hl) ht.2.1 (by omega)
    have ih2:=Gd hl1 b (N+3) _ _ (Wi hl) ht.2.2 (by omega)
    rw [List.length_append,List.length_singleton] at ih
    rw [List.length_append,List.length_append,List.length_singleton,T.flat_len] at ih2
    rw [Za,if_pos (by simp),Nq]
    simp only [Option.bind_some]
    rw [ih]
    simp only [Option.bind_some]
    rw [w01,Za,if_pos (by simp),Qd]
    simp only [Option.bind_some]
    rw [ih2]
    simp only [Option.bind_some]
    rw [w12,Za,if_neg (by simp),Z9,w64 (by omega) (by omega)]
    first | rfl | (congr 1;omega)
theorem Im (hl1:l.length≤1000):∀ (t:T) (N:Nat) (p q:List api_Node),l=p ++ (t.flat ++ q)→t.wk→l.length+6+t.depth≤N→Z2u N l (p.length:Int)=some (t.depth:Int)
  | .leaf x, N, p, q, hl, ht, hN => by
    have h1:getI l (p.length:Int)=some x:=Gx hl
    obtain ⟨N,rfl⟩:∃ M,N=M+2:=⟨N - 2,by omega⟩
    have h0:ar x.Op=0:=ht
    rw [Z2u,Z2w,h1]
    simp only [Option.bind_some,Es]
    rw [if_neg (by omega),Z2v]
    rfl
  | .un x a, N, p, q, hl, ht, hN => by
    have h1:getI l (p.length:Int)=some x:=Gx hl
    have hd:=T.depth_le (T.un x a)
    have hp:p.length+(T.un x a).size≤l.length:=by rw [hl];simp [T.flat_len] <;> omega
    simp only [T.depth] at hN hd ⊢
    obtain ⟨N,rfl⟩:∃ M,N=M+3:=⟨N - 3,by omega⟩
    have ih:=Im hl1 a (N+2) _ _ (Wv hl) ht.2 (by omega)
    have e:=Nr hl1 (by omega:l.length+5≤N+2) (Wv hl) ht.2
    rw [List.length_append,List.length_singleton] at ih e
    have h0:=ht.1
    rw [Z2u,Z2w,h1]
    simp only [Option.bind_some,Es]
    rw [if_pos (by omega),Bf (j:=p.length) (n:=l.length) (by omega) (by omega),ih]
    simp only [Option.bind_some]
    rw [e]
    simp only [Option.bind_some]
    rw [w01,Z2w,h1]
    simp only [Option.bind_some,Es]
    rw [if_neg (by omega),Z2v,w64 (by omega) (by omega)]
    first | rfl | (congr 1;omega)
  | .bin x a b, N, p, q, hl, ht, hN => by
    have h1:getI l (p.length:Int)=some x:=Gx hl
    have hd:=T.depth_le (T.bin x a b)
    have hp:p.length+(T.bin x a b).size≤l.length:=by rw [hl];simp [T.flat_len] <;> omega
    simp only [T.depth] at hN hd ⊢
    obtain ⟨N,rfl⟩:∃ M,N=M+4:=⟨N - 4,by omega⟩
    have ih:=Im hl1 a (N+3) _ _ (Wh hl) ht.2.1 (by omega)
    have ih2:=Im hl1 b (N+3) _ _ (Wi hl) ht.2.2 (by omega)
    have e:=Nr hl1 (by omega:l.length+5≤N+3) (Wh hl) ht.2.1
    have e2:=Nr hl1 (by omega:l.length+5≤N+3) (Wi hl) ht.2.2
    rw [List.length_append,List.length_singleton] at ih e
    rw [List.length_append,List.length_append,List.length_singleton,T.flat_len] at ih2 e2
    have h0:=ht.1
    rw [Z2u,Z2w,h1]
    simp only [Option.bind_some,Es]
    rw [if_pos (by omega),Bf (j:=p.length) (n:=l.length) (by omega) (by omega),ih]
    simp only [Option.bind_some]
    rw [e]
    simp only [Option.bind_some]
    rw [w01,Z2w,h1]
    simp only [Option.bind_some,Es]
    rw [if_pos (by omega),ih2]
    simp only [Option.bind_some]
    rw [e2]
    simp only [Option.bind_some]
    rw [w12,Z2w,h1]
    simp only [Option.bind_some,Es]
    rw [if_neg (by omega),Z2v,w64 (by omega) (by omega)]
    first | rfl | (congr 1;omega)
def Fg:List Str→Str→Nat→Int
  | [],_,_=>-1
  | x :: r,s,k=>if x=s then (k:Int) else Fg r s (k+1)
theorem Um {N:Nat} {names:List Str} {s:Str} (hl:names.length≤1000) (hN:names.length < N):Z9c N names s=some (Fg names s 0):=by
  have key:∀ (d j n:Nat),j+d=names.length→d < n→Z9e N Z9d names s n (j:Int)=some (Fg (names.drop j) s j):=by
    intro d
    induction d with
    | zero =>
      intro j n hj hn
      obtain ⟨n,rfl⟩:∃ m,n=m+1:=⟨n - 1,by omega⟩
      rw [Z9e,if_neg (by omega),List.drop_of_length_le (by omega)];rfl
    | succ d ih =>
      intro j n hj hn
      obtain ⟨n,rfl⟩:∃ m,n=m+1:=⟨n - 1,by omega⟩
      have h1:j < names.length:=by omega
      rw [Z9e,if_pos (by omega),Ax rfl h1]
      simp only [Option.bind_some]
      rw [List.drop_eq_getElem_cons h1,Fg]
      by_cases e:s=names[j]
      · rw [if_pos e,if_pos e.symm]
      · rw [if_neg e, if_neg (fun h => e h.symm), Bf h1 (by omega)]
        exact ih (j+1) n (by omega) (by omega)
  unfold Z9c
  exact key names.length 0 N (by omega) hN
theorem Jh:∀ (names:List Str) (s:Str) (k:Nat),(0≤Fg names s k↔s∈names)∧(s∈names→(k:Int)≤Fg names s k∧Fg names s k < (k:Int)+(names.length:Int))
  | [],s,k=>⟨⟨fun h=>by simp [Fg] at h,fun h=>by cases h⟩,fun h=>by cases h⟩
  | x :: r, s, k => by
    obtain ⟨h1,h2⟩:=Jh r s (k+1)
    unfold Fg
    by_cases e:x=s
    · rw [if_pos e]
      exact ⟨⟨fun _=>by rw [e];exact .head _,fun _=>by omega⟩,fun _=>by simp;omega⟩
    · rw [if_neg e]
      have hm:s∈x :: r↔s∈r:=⟨fun h=>by
        rcases List.mem_cons.1 h with h | h
        · exact absurd h.symm e
        · exact h,fun h=>.tail _ h⟩
      rw [hm]
      refine ⟨h1,fun h=>?_⟩
      have:=h2 h
      simp;omega
end
end Go.MD.LB
