/- Cells as the document has them. No condition: plain lemmas. -/
import Derived.Test.YtgdkaddhhpgeiaaGreatDoorLBU
namespace Go.MD.LB
open Go Go.MD
theorem All_loop {p:api_Prog} (hp:SmallP p) (k:List api_Cell→Option (List api_Cell)):∀ (d j n:Nat) (out:List api_Cell),j+d=p.Lines.length→d < n→out.length≤8 * j→Z4k 1001 k p n out (j:Int)=k (out ++ (p.Lines.drop j).flatten):=by
  intro d
  have hL:=hp.lines
  induction d with
  | zero =>
    intro j n out hj hn hv
    obtain ⟨n,rfl⟩:∃ m,n=m+1:=⟨n - 1,by omega⟩
    rw [Z4k,if_neg (by omega),List.drop_of_length_le (by omega)]
    simp
  | succ d ih =>
    intro j n out hj hn hv
    obtain ⟨n,rfl⟩:∃ m,n=m+1:=⟨n - 1,by omega⟩
    have h1:j < p.Lines.length:=by omega
    have h2:=hp.line _ (List.getElem_mem h1)
    rw [Z4k,if_pos (by omega),getI_at rfl h1]
    simp only [Option.bind_some]
    rw [appG_ok (by omega) (by decide)]
    simp only [Option.bind_some]
    rw [wsucc h1 (by omega),ih (j+1) n _ (by omega) (by omega) (by simp;omega),List.drop_eq_getElem_cons h1,List.flatten_cons,List.append_assoc]
theorem All_eq {p:api_Prog} (hp:SmallP p):Z4i 1001 p=some (flatC p):=by
  have hL:=hp.lines
  have hC:=flatC_le hp
  simp only [flatC,List.length_append] at hC
  unfold Z4i
  rw [show (0:Int)=((0:Nat):Int) from rfl,All_loop hp _ p.Lines.length 0 1001 [] (by omega) (by omega) (Nat.le_refl _),List.drop_zero,List.nil_append,Z4j,appG_ok (by omega) (by decide)]
  rfl
theorem Names_loop {l:List api_Cell} (hl:l.length≤200):∀ (d j n:Nat) (out:List Str),j+d=l.length→d < n→out.length≤j→Z4z 1001 Z4y l n out (j:Int)=some (out ++ (l.drop j).map (·.Name)):=by
  intro d
  induction d with
  | zero =>
    intro j n out hj hn hv
    obtain ⟨n,rfl⟩:∃ m,n=m+1:=⟨n - 1,by omega⟩
    rw [Z4z,if_neg (by omega),List.drop_of_length_le (by omega),Z4y]
    simp
  | succ d ih =>
    intro j n out hj hn hv
    obtain ⟨n,rfl⟩:∃ m,n=m+1:=⟨n - 1,by omega⟩
    have h1:j < l.length:=by omega
    rw [Z4z,if_pos (by omega),getI_at rfl h1]
    simp only [Option.bind_some]
    rw [appG_ok (by simp;omega) (by decide)]
    simp only [Option.bind_some]
    rw [wsucc h1 (by omega),ih (j+1) n _ (by omega) (by omega) (by simp;omega),List.drop_eq_getElem_cons h1,List.map_cons,List.append_assoc]
    rfl
theorem Names_eq {l:List api_Cell} (hl:l.length≤200):Z4x 1001 l=some (l.map (·.Name)):=by
  have:=Names_loop hl l.length 0 1001 [] (by omega) (by omega) (Nat.le_refl _)
  rw [List.drop_zero,List.nil_append] at this
  exact this
theorem RCells_eq {p:api_Prog} (hp:SmallP p):Z4l 1001 p=some ((flatC p).map (·.Name)):=by
  have hC:=flatC_le hp
  unfold Z4l
  rw [All_eq hp]
  simp only [Option.bind_some]
  rw [Names_eq (by omega)];rfl
theorem RLocks_eq {p:api_Prog} (hp:SmallP p):Z4w 1001 p=some (p.Locks.map (·.Name)):=by
  have hL:=hp.locks
  unfold Z4w
  rw [Names_eq (by omega)];rfl
theorem RStays_eq {p:api_Prog} (hp:SmallP p):Z53 1001 p=some (p.Lines.flatten.length:Int):=by
  have hC:=flatC_le hp
  have hlen:(flatC p).length=p.Lines.flatten.length+p.Vols.length:=by simp [flatC]
  unfold Z53
  rw [All_eq hp]
  simp only [Option.bind_some]
  rw [w64 (by omega) (by omega)]
  congr 1;omega
theorem RFirsts_loop {l:List api_Cell} (hl:l.length≤200):∀ (d j n:Nat) (out:List Int),j+d=l.length→d < n→out.length≤j→Z4o 1001 Z4n l n out (j:Int)=some (out ++ (l.drop j).map (·.N)):=by
  intro d
  induction d with
  | zero =>
    intro j n out hj hn hv
    obtain ⟨n,rfl⟩:∃ m,n=m+1:=⟨n - 1,by omega⟩
    rw [Z4o,if_neg (by omega),List.drop_of_length_le (by omega),Z4n]
    simp
  | succ d ih =>
    intro j n out hj hn hv
    obtain ⟨n,rfl⟩:∃ m,n=m+1:=⟨n - 1,by omega⟩
    have h1:j < l.length:=by omega
    rw [Z4o,if_pos (by omega),getI_at rfl h1]
    simp only [Option.bind_some]
    rw [appG_ok (by simp;omega) (by decide)]
    simp only [Option.bind_some]
    rw [wsucc h1 (by omega),ih (j+1) n _ (by omega) (by omega) (by simp;omega),List.drop_eq_getElem_cons h1,List.map_cons,List.append_assoc]
    rfl
theorem RFirsts_eq {p:api_Prog} (hp:SmallP p):Z4m 1001 p=some ((flatC p).map (·.N)):=by
  have hC:=flatC_le hp
  unfold Z4m
  rw [All_eq hp]
  simp only [Option.bind_some]
  have:=RFirsts_loop (l:=flatC p) (by omega) (flatC p).length 0 1001 [] (by omega) (by omega) (Nat.le_refl _)
  rw [List.drop_zero,List.nil_append] at this
  exact this
theorem RLine_loop {p:api_Prog} (hp:SmallP p):∀ (d j n a:Nat),j+d=p.Lines.length→d < n→a≤1000→Z4v 1001 (Z4u p) p n (a:Int) (j:Int)=some (lineN (p.Lines.drop j) j a:Int):=by
  intro d
  have hL:=hp.lines
  induction d with
  | zero =>
    intro j n a hj hn ha
    obtain ⟨n,rfl⟩:∃ m,n=m+1:=⟨n - 1,by omega⟩
    rw [Z4v,if_neg (by omega),List.drop_of_length_le (by omega),Z4u,w64 (by omega) (by omega),lineN]
    congr 1;omega
  | succ d ih =>
    intro j n a hj hn ha
    obtain ⟨n,rfl⟩:∃ m,n=m+1:=⟨n - 1,by omega⟩
    have h1:j < p.Lines.length:=by omega
    have h2:=hp.line _ (List.getElem_mem h1)
    rw [Z4v,if_pos (by omega),getI_at rfl h1]
    simp only [Option.bind_some]
    rw [List.drop_eq_getElem_cons h1,lineN]
    by_cases h:a < p.Lines[j].length
    · rw [if_pos (by omega),if_pos h]
    · rw [if_neg (by omega),if_neg h,show IntKind.i64.wrap ((a:Int) - (p.Lines[j].length:Int))=((a - p.Lines[j].length:Nat):Int) from by rw [w64 (by omega) (by omega)];omega,wsucc h1 (by omega),ih (j+1) n _ (by omega) (by omega) (by omega)]
theorem RLine_eq {p:api_Prog} (hp:SmallP p) (c:Int):Z4s 1001 p c=Z5n 1001 p c:=by
  have hC:=flatC_le hp
  have hL:=hp.lines
  unfold Z4s
  by_cases h0:c < 0
  · rw [if_pos h0,Line_out hp (.inl h0)];rfl
  · rw [if_neg h0, All_eq hp]
    simp only [Option.bind_some]
    by_cases h1:((flatC p).length:Int)≤c
    · rw [decide_eq_true h1,Line_out hp (.inr h1)];rfl
    · rw [decide_eq_false h1, Z4t, if_neg (by decide)]
      obtain ⟨a,rfl⟩:∃ a:Nat,c=(a:Int):=⟨c.toNat,by omega⟩
      rw [Line_in hp (by omega),show (0:Int)=((0:Nat):Int) from rfl,RLine_loop hp p.Lines.length 0 1001 a (by omega) (by omega) (by omega),List.drop_zero]
theorem Texts_loop {N:Nat} {p q:List Str} (hl:p.length=q.length) (hp:p.length≤1000):∀ (d j n:Nat),j+d=p.length→d < n→
    Z56 N Z55 p q n (j:Int)=some (decide (p.drop j=q.drop j)):=by
  intro d
  induction d with
  | zero =>
    intro j n hj hn
    obtain ⟨n,rfl⟩:∃ m,n=m+1:=⟨n - 1,by omega⟩
    rw [Z56,if_neg (by omega),List.drop_of_length_le (by omega),List.drop_of_length_le (by omega)]
    rfl
  | succ d ih =>
    intro j n hj hn
    obtain ⟨n,rfl⟩:∃ m,n=m+1:=⟨n - 1,by omega⟩
    have h1:j < p.length:=by omega
    have h2:j < q.length:=by omega
    rw [Z56,if_pos (by omega),getI_at rfl h1]
    simp only [Option.bind_some]
    rw [getI_at rfl h2]
    simp only [Option.bind_some]
    rw [List.drop_eq_getElem_cons h1,List.drop_eq_getElem_cons h2]
    by_cases e:p[j]=q[j]
    · rw [if_neg (by simpa using e), wsucc h1 (by omega), ih (j + 1) n (by omega) (by omega)]
      simp only [List.cons.injEq,e,true_and]
    · rw [if_pos e]
      simp only [List.cons.injEq,e,false_and,decide_false]
theorem Texts_eq {N:Nat} {p q:List Str} (hp:p.length≤1000) (hN:p.length < N):Z54 N p q=some (decide (p=q)):=by
  unfold Z54
  by_cases h:p.length=q.length
  · rw [if_neg (by omega), show (0 : Int) = ((0 : Nat) : Int) from rfl, Texts_loop h hp p.length 0 N (by omega) hN]
    rfl
  · rw [if_pos (by omega),decide_eq_false (fun e=>h (congrArg List.length e))]
theorem PlaceL_eq {l:List Str} {s:Str} (hl:l.length≤1000):Z5s 1001 l s=some (idxS l s 0):=by
  unfold Z5s
  rw [Index_eq hl (by omega)];rfl
theorem LegalTells_eq (p1:api_Prog) (p4:Int) (p5:Str):Z12 1001 p1 p4 p5=some true:=by
  unfold Z12
  obtain ⟨p,hq,hp⟩:=CutP p1
  have hC:=flatC_le hp
  have hK:=hp.locks
  rw [hq]
  simp only [Option.bind_some]
  rw [subI_ok (by omega) (by omega) (by omega)]
  simp only [Option.bind_some]
  rw [Cells_eq hp,RCells_eq hp]
  simp only [Option.bind_some]
  rw [Texts_eq (by simp;omega) (by simp;omega)]
  simp only [Option.bind_some,decide_true,if_true]
  rw [Stays_eq hp,RStays_eq hp]
  simp only [Option.bind_some,if_true]
  rw [RLine_eq hp]
  obtain ⟨v,hv⟩:∃ v,Z5n 1001 p p4=some v:=⟨_,Line_eq hp p4⟩
  rw [hv,Locks_eq hp,RLocks_eq hp]
  simp only [Option.bind_some,if_true]
  rw [Texts_eq (by simp;omega) (by simp;omega)]
  simp only [Option.bind_some,decide_true,if_true]
  rw [Firsts_eq hp,RFirsts_eq hp]
  simp only [Option.bind_some]
  rw [Ints_eq (by simp;omega) (by simp;omega)]
  simp only [Option.bind_some,decide_true,if_true]
  rw [PlaceL_eq (by simp;omega),Place_eq (by simp;omega) (by simp;omega)]
  simp only [Option.bind_some,if_true]
  exact fix_b6
end Go.MD.LB
