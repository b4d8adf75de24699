/- Depths, steps, names of expressions. No condition: plain lemmas. -/
import Derived.Test.YtgdkaddhhpgeiaaGreatDoorLBG
namespace Go.MD.LB
open Go Go.MD
section
variable {l:List api_Node}
theorem sub1 {p q:List api_Node} {x:api_Node} {a:T} (hl:l=p ++ ((T.un x a).flat ++ q)):l=(p ++ [x]) ++ (a.flat ++ q):=by rw [hl];simp [T.flat]
theorem sub2 {p q:List api_Node} {x:api_Node} {a b:T} (hl:l=p ++ ((T.bin x a b).flat ++ q)):l=(p ++ [x]) ++ (a.flat ++ (b.flat ++ q)):=by rw [hl];simp [T.flat]
theorem sub3 {p q:List api_Node} {x:api_Node} {a b:T} (hl:l=p ++ ((T.bin x a b).flat ++ q)):l=(p ++ [x] ++ a.flat) ++ (b.flat ++ q):=by rw [hl];simp [T.flat]
def T.head:T→api_Node
  | .leaf x=>x
  | .un x _=>x
  | .bin x _ _=>x
theorem at_head {p q:List api_Node} {t:T} (hl:l=p ++ (t.flat ++ q)):getI l (p.length:Int)=some t.head:=by
  rw [getI_nat,hl]
  cases t <;> simp [T.flat,T.head]
theorem End_at {N:Nat} (hl1:l.length≤1000) (hN:l.length+1 < N) {p q:List api_Node} {t:T} (hl:l=p ++ (t.flat ++ q)) (ht:t.wk):Zm N l (p.length:Int)=some ((p.length+t.size:Nat):Int):=by
  rw [End_eq hl1 hN (by rw [hl];simp),endI_tree hl ht]
theorem rEnd_at {N:Nat} (hl1:l.length≤1000) (hN:l.length+5≤N) {p q:List api_Node} {t:T} (hl:l=p ++ (t.flat ++ q)) (ht:t.wk):Z29 N l (p.length:Int)=some ((p.length+t.size:Nat):Int):=by
  rw [rEnd_eq hl1 N p.length (by rw [hl];simp) (by omega),endI_tree hl ht]
theorem w01:IntKind.i64.wrap (0+1)=1:=by decide
theorem w12:IntKind.i64.wrap (1+1)=2:=by decide
theorem app8 {xs:List Int} {v:Int} (h:xs.length≤10):appG 8 xs [v]=some (xs ++ [v]):=appG_ok (by simp;omega) (by decide)
theorem operands_leaf {N:Nat} (hN:4≤N) {p q:List api_Node} {x:api_Node} (hl:l=p ++ ((T.leaf x).flat ++ q)) (ht:ar x.Op=0):Zy N l (p.length:Int)=some []:=by
  have h1:getI l (p.length:Int)=some x:=at_head hl
  obtain ⟨N,rfl⟩:∃ M,N=M+1:=⟨N - 1,by omega⟩
  unfold Zy
  rw [h1]
  simp only [Option.bind_some,many_eq]
  rw [ht,Z10,if_neg (by omega),Zz]
theorem operands_un {N:Nat} (hl1:l.length≤1000) (hN:l.length+5≤N) {p q:List api_Node} {x:api_Node} {a:T} (hl:l=p ++ ((T.un x a).flat ++ q)) (ht:(T.un x a).wk):Zy N l (p.length:Int)=some [((p.length+1:Nat):Int)]:=by
  have h1:getI l (p.length:Int)=some x:=at_head hl
  have hp:p.length+(T.un x a).size≤l.length:=by rw [hl];simp [T.flat_len] <;> omega
  have hs:=T.size_pos (T.un x a)
  have e:=End_at hl1 (by omega:l.length+1 < N) (sub1 hl) ht.2
  rw [List.length_append,List.length_singleton] at e
  obtain ⟨N,rfl⟩:∃ M,N=M+2:=⟨N - 2,by omega⟩
  unfold Zy
  rw [h1]
  simp only [Option.bind_some,many_eq]
  rw [ht.1,Z10,if_pos (by omega),app8 (by simp)]
  simp only [Option.bind_some]
  rw [wsucc (j:=p.length) (n:=l.length) (by omega) (by omega),e]
  simp only [Option.bind_some]
  rw [w01,Z10,if_neg (by omega),Zz]
  rfl
theorem operands_bin {N:Nat} (hl1:l.length≤1000) (hN:l.length+5≤N) {p q:List api_Node} {x:api_Node} {a b:T} (hl:l=p ++ ((T.bin x a b).flat ++ q)) (ht:(T.bin x a b).wk):Zy N l (p.length:Int)=some [((p.length+1:Nat):Int),((p.length+1+a.size:Nat):Int)]:=by
  have h1:getI l (p.length:Int)=some x:=at_head hl
  have hp:p.length+(T.bin x a b).size≤l.length:=by rw [hl];simp [T.flat_len] <;> omega
  have hs:=T.size_pos (T.bin x a b)
  have e:=End_at hl1 (by omega:l.length+1 < N) (sub2 hl) ht.2.1
  have e2:=End_at hl1 (by omega:l.length+1 < N) (sub3 hl) ht.2.2
  rw [List.length_append,List.length_singleton] at e
  rw [List.length_append,List.length_append,List.length_singleton,T.flat_len] at e2
  obtain ⟨N,rfl⟩:∃ M,N=M+3:=⟨N - 3,by omega⟩
  unfold Zy
  rw [h1]
  simp only [Option.bind_some,many_eq]
  rw [ht.1,Z10,if_pos (by omega),app8 (by simp)]
  simp only [Option.bind_some]
  rw [wsucc (j:=p.length) (n:=l.length) (by omega) (by omega),e]
  simp only [Option.bind_some]
  rw [w01,Z10,if_pos (by omega),app8 (by simp)]
  simp only [Option.bind_some]
  rw [e2]
  simp only [Option.bind_some]
  rw [w12,Z10,if_neg (by omega),Zz]
  rfl
theorem getI_0 {α:Type} (x:α) (r:List α):getI (x :: r) 0=some x:=rfl
theorem getI_1 {α:Type} (x y:α) (r:List α):getI (x :: y :: r) 1=some y:=rfl
theorem depth_eq (hl1:l.length≤1000):∀ (t:T) (N:Nat) (p q:List api_Node),l=p ++ (t.flat ++ q)→t.wk→l.length+6+t.depth≤N→Zt N l (p.length:Int)=some (t.depth:Int)
  | .leaf x, N, p, q, hl, ht, hN => by
    obtain ⟨N,rfl⟩:∃ M,N=M+2:=⟨N - 2,by omega⟩
    rw [Zt,operands_leaf (by omega) hl ht]
    simp only [Option.bind_some]
    rw [Zv,if_neg (by simp),Zu]
    rfl
  | .un x a, N, p, q, hl, ht, hN => by
    have hd:=T.depth_le (T.un x a)
    have hp:p.length+(T.un x a).size≤l.length:=by rw [hl];simp [T.flat_len] <;> omega
    simp only [T.depth] at hN hd ⊢
    obtain ⟨N,rfl⟩:∃ M,N=M+3:=⟨N - 3,by omega⟩
    rw [Zt,operands_un hl1 (by omega) hl ht]
    simp only [Option.bind_some]
    have ih:=depth_eq hl1 a (N+2) _ _ (sub1 hl) ht.2 (by omega)
    rw [List.length_append,List.length_singleton] at ih
    rw [Zv,if_pos (by simp),getI_0]
    simp only [Option.bind_some]
    rw [ih]
    simp only [Option.bind_some]
    rw [w01,Zv,if_neg (by simp),Zu,w64 (by omega) (by omega)]
    first | rfl | (congr 1;omega)
  | .bin x a b, N, p, q, hl, ht, hN => by
    have hd:=T.depth_le (T.bin x a b)
    have hp:p.length+(T.bin x a b).size≤l.length:=by rw [hl];simp [T.flat_len] <;> omega
    simp only [T.depth] at hN hd ⊢
    obtain ⟨N,rfl⟩:∃ M,N=M+4:=⟨N - 4,by omega⟩
    rw [Zt,operands_bin hl1 (by omega) hl ht]
    simp only [Option.bind_some]
    have ih:=depth_eq hl1 a (N+3) _ _ (sub2 hl) ht.2.1 (by omega)
    have ih2:=depth_eq hl1 b (N+3) _ _ (sub3 hl) ht.2.2 (by omega)
    rw [List.length_append,List.length_singleton] at ih
    rw [List.length_append,List.length_append,List.length_singleton,T.flat_len] at ih2
    rw [Zv,if_pos (by simp),getI_0]
    simp only [Option.bind_some]
    rw [ih]
    simp only [Option.bind_some]
    rw [w01,Zv,if_pos (by simp),getI_1]
    simp only [Option.bind_some]
    rw [ih2]
    simp only [Option.bind_some]
    rw [w12,Zv,if_neg (by simp),Zu,w64 (by omega) (by omega)]
    first | rfl | (congr 1;omega)
theorem deep_eq (hl1:l.length≤1000):∀ (t:T) (N:Nat) (p q:List api_Node),l=p ++ (t.flat ++ q)→t.wk→l.length+6+t.depth≤N→Z2s N l (p.length:Int)=some (t.depth:Int)
  | .leaf x, N, p, q, hl, ht, hN => by
    have h1:getI l (p.length:Int)=some x:=at_head hl
    obtain ⟨N,rfl⟩:∃ M,N=M+2:=⟨N - 2,by omega⟩
    have h0:ar x.Op=0:=ht
    rw [Z2s,Z2u,h1]
    simp only [Option.bind_some,kids_eq]
    rw [if_neg (by omega),Z2t]
    rfl
  | .un x a, N, p, q, hl, ht, hN => by
    have h1:getI l (p.length:Int)=some x:=at_head hl
    have hd:=T.depth_le (T.un x a)
    have hp:p.length+(T.un x a).size≤l.length:=by rw [hl];simp [T.flat_len] <;> omega
    simp only [T.depth] at hN hd ⊢
    obtain ⟨N,rfl⟩:∃ M,N=M+3:=⟨N - 3,by omega⟩
    have ih:=deep_eq hl1 a (N+2) _ _ (sub1 hl) ht.2 (by omega)
    have e:=rEnd_at hl1 (by omega:l.length+5≤N+2) (sub1 hl) ht.2
    rw [List.length_append,List.length_singleton] at ih e
    have h0:=ht.1
    rw [Z2s,Z2u,h1]
    simp only [Option.bind_some,kids_eq]
    rw [if_pos (by omega),wsucc (j:=p.length) (n:=l.length) (by omega) (by omega),ih]
    simp only [Option.bind_some]
    rw [e]
    simp only [Option.bind_some]
    rw [w01,Z2u,h1]
    simp only [Option.bind_some,kids_eq]
    rw [if_neg (by omega),Z2t,w64 (by omega) (by omega)]
    first | rfl | (congr 1;omega)
  | .bin x a b, N, p, q, hl, ht, hN => by
    have h1:getI l (p.length:Int)=some x:=at_head hl
    have hd:=T.depth_le (T.bin x a b)
    have hp:p.length+(T.bin x a b).size≤l.length:=by rw [hl];simp [T.flat_len] <;> omega
    simp only [T.depth] at hN hd ⊢
    obtain ⟨N,rfl⟩:∃ M,N=M+4:=⟨N - 4,by omega⟩
    have ih:=deep_eq hl1 a (N+3) _ _ (sub2 hl) ht.2.1 (by omega)
    have ih2:=deep_eq hl1 b (N+3) _ _ (sub3 hl) ht.2.2 (by omega)
    have e:=rEnd_at hl1 (by omega:l.length+5≤N+3) (sub2 hl) ht.2.1
    have e2:=rEnd_at hl1 (by omega:l.length+5≤N+3) (sub3 hl) ht.2.2
    rw [List.length_append,List.length_singleton] at ih e
    rw [List.length_append,List.length_append,List.length_singleton,T.flat_len] at ih2 e2
    have h0:=ht.1
    rw [Z2s,Z2u,h1]
    simp only [Option.bind_some,kids_eq]
    rw [if_pos (by omega),wsucc (j:=p.length) (n:=l.length) (by omega) (by omega),ih]
    simp only [Option.bind_some]
    rw [e]
    simp only [Option.bind_some]
    rw [w01,Z2u,h1]
    simp only [Option.bind_some,kids_eq]
    rw [if_pos (by omega),ih2]
    simp only [Option.bind_some]
    rw [e2]
    simp only [Option.bind_some]
    rw [w12,Z2u,h1]
    simp only [Option.bind_some,kids_eq]
    rw [if_neg (by omega),Z2t,w64 (by omega) (by omega)]
    first | rfl | (congr 1;omega)
end
end Go.MD.LB
