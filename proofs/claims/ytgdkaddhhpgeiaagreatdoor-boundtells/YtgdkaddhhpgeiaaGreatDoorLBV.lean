/- Cells as the document has them. No condition: plain lemmas. -/
import Derived.Test.YtgdkaddhhpgeiaaGreatDoorLBU
namespace Go.MD.LB
open Go Go.MD
theorem Ww {p:api_Prog} (hp:SmallP p) (k:List api_Cell→Option (List api_Cell)):∀ (d j n:Nat) (out:List api_Cell),j+d=p.Lines.length→d < n→out.length≤8 * j→Z69 1001 k p n out (j:Int)=k (out ++ (p.Lines.drop j).flatten):=by
  intro d
  have hL:=hp.lines
  induction d with
  | zero =>
    intro j n out hj hn hv
    obtain ⟨n,rfl⟩:∃ m,n=m+1:=⟨n - 1,by omega⟩
    rw [Z69,if_neg (by omega),List.drop_of_length_le (by omega)]
    simp
  | succ d ih =>
    intro j n out hj hn hv
    obtain ⟨n,rfl⟩:∃ m,n=m+1:=⟨n - 1,by omega⟩
    have h1:j < p.Lines.length:=by omega
    have h2:=hp.line _ (List.getElem_mem h1)
    rw [Z69,if_pos (by omega),As rfl h1]
    simp only [Option.bind_some]
    rw [Cg (by omega) (by decide)]
    simp only [Option.bind_some]
    rw [Be h1 (by omega),ih (j+1) n _ (by omega) (by omega) (by simp;omega),List.drop_eq_getElem_cons h1,List.flatten_cons,List.append_assoc]
theorem Ql {p:api_Prog} (hp:SmallP p):Z67 1001 p=some (Ce p):=by
  have hL:=hp.lines
  have hC:=Eb hp
  simp only [Ce,List.length_append] at hC
  unfold Z67
  rw [show (0:Int)=((0:Nat):Int) from rfl,Ww hp _ p.Lines.length 0 1001 [] (by omega) (by omega) (Nat.le_refl _),List.drop_zero,List.nil_append,Z68,Cg (by omega) (by decide)]
  rfl
theorem Ru {l:List api_Cell} (hl:l.length≤200):∀ (d j n:Nat) (out:List Str),j+d=l.length→d < n→out.length≤j→Z6v 1001 Z6u l n out (j:Int)=some (out ++ (l.drop j).map (·.Name)):=by
  intro d
  induction d with
  | zero =>
    intro j n out hj hn hv
    obtain ⟨n,rfl⟩:∃ m,n=m+1:=⟨n - 1,by omega⟩
    rw [Z6v,if_neg (by omega),List.drop_of_length_le (by omega),Z6u]
    simp
  | succ d ih =>
    intro j n out hj hn hv
    obtain ⟨n,rfl⟩:∃ m,n=m+1:=⟨n - 1,by omega⟩
    have h1:j < l.length:=by omega
    rw [Z6v,if_pos (by omega),As rfl h1]
    simp only [Option.bind_some]
    rw [Cg (by simp;omega) (by decide)]
    simp only [Option.bind_some]
    rw [Be h1 (by omega),ih (j+1) n _ (by omega) (by omega) (by simp;omega),List.drop_eq_getElem_cons h1,List.map_cons,List.append_assoc]
    rfl
theorem Kr {l:List api_Cell} (hl:l.length≤200):Z6t 1001 l=some (l.map (·.Name)):=by
  have:=Ru hl l.length 0 1001 [] (by omega) (by omega) (Nat.le_refl _)
  rw [List.drop_zero,List.nil_append] at this
  exact this
theorem Jx {p:api_Prog} (hp:SmallP p):Z6a 1001 p=some ((Ce p).map (·.Name)):=by
  have hC:=Eb hp
  unfold Z6a
  rw [Ql hp]
  simp only [Option.bind_some]
  rw [Kr (by omega)];rfl
theorem Np {p:api_Prog} (hp:SmallP p):Z6s 1001 p=some (p.Locks.map (·.Name)):=by
  have hL:=hp.locks
  unfold Z6s
  rw [Kr (by omega)];rfl
theorem Jv {p:api_Prog} (hp:SmallP p):Z6z 1001 p=some (p.Lines.flatten.length:Int):=by
  have hC:=Eb hp
  have hlen:(Ce p).length=p.Lines.flatten.length+p.Vols.length:=by simp [Ce]
  unfold Z6z
  rw [Ql hp]
  simp only [Option.bind_some]
  rw [w64 (by omega) (by omega)]
  congr 1;omega
end Go.MD.LB
