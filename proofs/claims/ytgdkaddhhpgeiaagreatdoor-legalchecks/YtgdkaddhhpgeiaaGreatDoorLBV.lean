/- Cells as the document has them. No condition: plain lemmas. -/
import Derived.Test.YtgdkaddhhpgeiaaGreatDoorLBU
namespace Go.MD.LB
open Go Go.MD
theorem Vs {p:api_Prog} (hp:SmallP p) (k:List api_Cell→Option (List api_Cell)):∀ (d j n:Nat) (out:List api_Cell),j+d=p.Lines.length→d < n→out.length≤8 * j→Z5m 1001 k p n out (j:Int)=k (out ++ (p.Lines.drop j).flatten):=by
  intro d
  have hL:=hp.lines
  induction d with
  | zero =>
    intro j n out hj hn hv
    obtain ⟨n,rfl⟩:∃ m,n=m+1:=⟨n - 1,by omega⟩
    rw [Z5m,if_neg (by omega),List.drop_of_length_le (by omega)]
    simp
  | succ d ih =>
    intro j n out hj hn hv
    obtain ⟨n,rfl⟩:∃ m,n=m+1:=⟨n - 1,by omega⟩
    have h1:j < p.Lines.length:=by omega
    have h2:=hp.line _ (List.getElem_mem h1)
    rw [Z5m,if_pos (by omega),As rfl h1]
    simp only [Option.bind_some]
    rw [Cg (by omega) (by decide)]
    simp only [Option.bind_some]
    rw [Bf h1 (by omega),ih (j+1) n _ (by omega) (by omega) (by simp;omega),List.drop_eq_getElem_cons h1,List.flatten_cons,List.append_assoc]
theorem Qc {p:api_Prog} (hp:SmallP p):Z5k 1001 p=some (Cc p):=by
  have hL:=hp.lines
  have hC:=Eb hp
  simp only [Cc,List.length_append] at hC
  unfold Z5k
  rw [show (0:Int)=((0:Nat):Int) from rfl,Vs hp _ p.Lines.length 0 1001 [] (by omega) (by omega) (Nat.le_refl _),List.drop_zero,List.nil_append,Z5l,Cg (by omega) (by decide)]
  rfl
theorem Qz {l:List api_Cell} (hl:l.length≤200):∀ (d j n:Nat) (out:List Str),j+d=l.length→d < n→out.length≤j→Z68 1001 Z67 l n out (j:Int)=some (out ++ (l.drop j).map (·.Name)):=by
  intro d
  induction d with
  | zero =>
    intro j n out hj hn hv
    obtain ⟨n,rfl⟩:∃ m,n=m+1:=⟨n - 1,by omega⟩
    rw [Z68,if_neg (by omega),List.drop_of_length_le (by omega),Z67]
    simp
  | succ d ih =>
    intro j n out hj hn hv
    obtain ⟨n,rfl⟩:∃ m,n=m+1:=⟨n - 1,by omega⟩
    have h1:j < l.length:=by omega
    rw [Z68,if_pos (by omega),As rfl h1]
    simp only [Option.bind_some]
    rw [Cg (by simp;omega) (by decide)]
    simp only [Option.bind_some]
    rw [Bf h1 (by omega),ih (j+1) n _ (by omega) (by omega) (by simp;omega),List.drop_eq_getElem_cons h1,List.map_cons,List.append_assoc]
    rfl
theorem Ko {l:List api_Cell} (hl:l.length≤200):Z66 1001 l=some (l.map (·.Name)):=by
  have:=Qz hl l.length 0 1001 [] (by omega) (by omega) (Nat.le_refl _)
  rw [List.drop_zero,List.nil_append] at this
  exact this
theorem Jn {p:api_Prog} (hp:SmallP p):Z5n 1001 p=some ((Cc p).map (·.Name)):=by
  have hC:=Eb hp
  unfold Z5n
  rw [Qc hp]
  simp only [Option.bind_some]
  rw [Ko (by omega)];rfl
theorem Mr {p:api_Prog} (hp:SmallP p):Z65 1001 p=some (p.Locks.map (·.Name)):=by
  have hL:=hp.locks
  unfold Z65
  rw [Ko (by omega)];rfl
theorem Jk {p:api_Prog} (hp:SmallP p):Z6c 1001 p=some (p.Lines.flatten.length:Int):=by
  have hC:=Eb hp
  have hlen:(Cc p).length=p.Lines.flatten.length+p.Vols.length:=by simp [Cc]
  unfold Z6c
  rw [Qc hp]
  simp only [Option.bind_some]
  rw [w64 (by omega) (by omega)]
  congr 1;omega
end Go.MD.LB
