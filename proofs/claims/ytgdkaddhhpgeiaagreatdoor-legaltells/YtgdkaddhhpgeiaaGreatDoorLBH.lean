/- Depths, steps, names of expressions. No condition: plain lemmas. -/
import Derived.Test.YtgdkaddhhpgeiaaGreatDoorLBG
namespace Go.MD.LB
open Go Go.MD
section
variable {l:List api_Node}
def T.head:T→api_Node
  | .leaf x=>x
  | .un x _=>x
  | .bin x _ _=>x
def idxS:List Str→Str→Nat→Int
  | [],_,_=>-1
  | x :: r,s,k=>if x=s then (k:Int) else idxS r s (k+1)
theorem Index_eq {N:Nat} {names:List Str} {s:Str} (hl:names.length≤1000) (hN:names.length < N):Z91 N names s=some (idxS names s 0):=by
  have key:∀ (d j n:Nat),j+d=names.length→d < n→Z93 N Z92 names s n (j:Int)=some (idxS (names.drop j) s j):=by
    intro d
    induction d with
    | zero =>
      intro j n hj hn
      obtain ⟨n,rfl⟩:∃ m,n=m+1:=⟨n - 1,by omega⟩
      rw [Z93,if_neg (by omega),List.drop_of_length_le (by omega)];rfl
    | succ d ih =>
      intro j n hj hn
      obtain ⟨n,rfl⟩:∃ m,n=m+1:=⟨n - 1,by omega⟩
      have h1:j < names.length:=by omega
      rw [Z93,if_pos (by omega),getI_at rfl h1]
      simp only [Option.bind_some]
      rw [List.drop_eq_getElem_cons h1,idxS]
      by_cases e:s=names[j]
      · rw [if_pos e,if_pos e.symm]
      · rw [if_neg e, if_neg (fun h => e h.symm), wsucc h1 (by omega)]
        exact ih (j+1) n (by omega) (by omega)
  unfold Z91
  exact key names.length 0 N (by omega) hN
theorem Place_eq {N:Nat} {names:List Str} {s:Str} (hl:names.length≤1000) (hN:names.length < N):Z50 N names s=some (idxS names s 0):=by
  have key:∀ (d j n:Nat),j+d=names.length→d < n→Z52 N Z51 names s n (j:Int)=some (idxS (names.drop j) s j):=by
    intro d
    induction d with
    | zero =>
      intro j n hj hn
      obtain ⟨n,rfl⟩:∃ m,n=m+1:=⟨n - 1,by omega⟩
      rw [Z52,if_neg (by omega),List.drop_of_length_le (by omega)];rfl
    | succ d ih =>
      intro j n hj hn
      obtain ⟨n,rfl⟩:∃ m,n=m+1:=⟨n - 1,by omega⟩
      have h1:j < names.length:=by omega
      rw [Z52,if_pos (by omega),getI_at rfl h1]
      simp only [Option.bind_some]
      rw [List.drop_eq_getElem_cons h1,idxS]
      by_cases e:names[j]=s
      · rw [if_pos e,if_pos e]
      · rw [if_neg e, if_neg e, wsucc h1 (by omega)]
        exact ih (j+1) n (by omega) (by omega)
  unfold Z50
  exact key names.length 0 N (by omega) hN
end
end Go.MD.LB
