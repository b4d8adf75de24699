/- Cells, lines, locks. No condition: plain lemmas. -/
import Derived.Test.YtgdkaddhhpgeiaaGreatDoorLBS
namespace Go.MD.LB
open Go Go.MD
theorem fixed06:Z1g 1001=some true:=by decide +kernel
theorem fix_b6:((Z1g 1001).bind fun r=>some r)=some true:=by rw [fixed06];rfl
def flatC (p:api_Prog):List api_Cell:=p.Lines.flatten ++ p.Vols
theorem lineC_fst:∀ (l:List (List api_Cell)) (i:Nat),(lineC l i).map (·.1)=l.flatten
  | [],_=>rfl
  | l :: r,i=>by simp [lineC,lineC_fst r (i+1),Function.comp_def]
theorem volC_fst:∀ (l:List api_Cell) (i:Nat),(volC l i).map (·.1)=l
  | [],_=>rfl
  | c :: r,i=>by simp [volC,volC_fst r (i+1)]
theorem allC_fst (p:api_Prog):(allC p).map (·.1)=flatC p:=by simp [allC,flatC,lineC_fst,volC_fst]
theorem flat_le:∀ (l:List (List api_Cell)),(∀ x∈l,x.length≤8)→l.flatten.length≤8 * l.length
  | [],_=>Nat.zero_le _
  | x :: r, h => by
    have:=flat_le r (fun y hy=>h y (.tail _ hy))
    have:=h x (.head _)
    simp only [List.flatten_cons,List.length_append,List.length_cons]
    omega
theorem flatC_le {p:api_Prog} (hp:SmallP p):(flatC p).length≤56:=by
  have h1:=flat_le p.Lines hp.line
  have h2:=hp.lines
  have h3:=hp.vols
  simp only [flatC,List.length_append]
  omega
theorem allC_len (p:api_Prog):(allC p).length=(flatC p).length:=by rw [← allC_fst];simp
theorem Cells_fold:∀ (l:List (api_Cell×Int)) (out:List Str),out.length+l.length≤1000→fold (yy (fun (s:List Str) (x:api_Cell×Int)=>Z5o s x)) l (.inl out)=some (.inl (out ++ l.map (·.1.Name)))
  | [],out,_=>by simp [fold]
  | x :: l, out, h => by
    simp only [List.length_cons] at h
    have e:Z5o out x=some (.inl (out ++ [x.1.Name])):=by rw [Z5o,appG_ok (by simp;omega) (by decide)];rfl
    simp only [fold,yy,e,Option.map_some,Option.bind_some,Sum.isLeft_inl,if_true]
    rw [Cells_fold l _ (by simp;omega)]
    simp
theorem Cells_eq {p:api_Prog} (hp:SmallP p):Z5n 1001 p=some ((flatC p).map (·.Name)):=by
  have:=flatC_le hp
  unfold Z5n Z6c
  simp only [Option.bind_some]
  rw [all_eq _ _ hp,Cells_fold _ _ (by rw [allC_len];simp;omega)]
  simp only [Option.bind_some,List.nil_append]
  rw [← allC_fst,List.map_map]
  rfl
theorem Firsts_fold:∀ (l:List (api_Cell×Int)) (out:List Int),out.length+l.length≤1000→fold (yy (fun (s:List Int) (x:api_Cell×Int)=>(Z62 1001) s x)) l (.inl out)=some (.inl (out ++ l.map (·.1.N)))
  | [],out,_=>by simp [fold]
  | x :: l, out, h => by
    simp only [List.length_cons] at h
    have e:Z62 1001 out x=some (.inl (out ++ [x.1.N])):=by rw [Z62,appG_ok (by simp;omega) (by decide)];rfl
    simp only [fold,yy,e,Option.map_some,Option.bind_some,Sum.isLeft_inl,if_true]
    rw [Firsts_fold l _ (by simp;omega)]
    simp
theorem Firsts_eq {p:api_Prog} (hp:SmallP p):Z61 1001 p=some ((flatC p).map (·.N)):=by
  have:=flatC_le hp
  unfold Z61 Z6c
  simp only [Option.bind_some]
  rw [all_eq _ _ hp,Firsts_fold _ _ (by rw [allC_len];simp;omega)]
  simp only [Option.bind_some,List.nil_append]
  rw [← allC_fst,List.map_map]
  rfl
def lineAt (c:Int):List (api_Cell×Int)→Int→Option Int
  | [],_=>none
  | x :: r,a=>if a=c then some x.2 else lineAt c r (a+1)
theorem Line_fold (c:Int):∀ (l:List (api_Cell×Int)) (a:Nat),a+l.length≤1000→fold (yy (fun (s:Int) (x:api_Cell×Int)=>(Z64 c) s x)) l (.inl (a:Int))=some (match lineAt c l a with | some v=>.inr v | none=>.inl ((a+l.length:Nat):Int))
  | [],a,_=>by simp [fold,lineAt]
  | x :: l, a, h => by
    simp only [List.length_cons] at h
    by_cases e:(a:Int)=c
    · have e1 : Z64 c (a : Int) x = some (.inr x.2) := by rw [Z64, if_pos e]
      simp only [fold,yy,e1,Option.map_some,Option.bind_some,lineAt,if_pos e]
      rfl
    · have e1 : Z64 c (a : Int) x = some (.inl ((a + 1 : Nat) : Int)) := by rw [Z64, if_neg e, wsucc (n := 1001) (by omega) (by decide)]
      simp only [fold,yy,e1,Option.map_some,Option.bind_some,Sum.isLeft_inl,if_true,lineAt,if_neg e]
      rw [Line_fold c l (a+1) (by omega)]
      rw [show ((a+1:Nat):Int)=(a:Int)+1 from by omega,show a+1+l.length=a+(l.length+1) from by omega]
      rfl
theorem Line_eq {p:api_Prog} (hp:SmallP p) (c:Int):Z63 1001 p c=some ((lineAt c (allC p) 0).getD (-1)):=by
  have:=flatC_le hp
  unfold Z63 Z6c
  simp only [Option.bind_some]
  rw [all_eq _ _ hp,show (0:Int)=((0:Nat):Int) from rfl,Line_fold c _ 0 (by rw [allC_len];omega)]
  simp only [Option.bind_some]
  cases lineAt c (allC p) ((0:Nat):Int) <;> rfl
theorem lineAt_get (c:Int):∀ (l:List (api_Cell×Int)) (a:Nat),(c < a→lineAt c l a=none)∧(∀ k:Nat,c=((a+k:Nat):Int)→lineAt c l a=(l[k]?).map (·.2))
  | [],a=>⟨fun _=>rfl,fun k _=>by simp [lineAt]⟩
  | x :: l, a => by
    obtain ⟨h1,h2⟩:=lineAt_get c l (a+1)
    rw [show ((a+1:Nat):Int)=(a:Int)+1 from by omega] at h1 h2
    refine ⟨fun h=>?_,fun k hk=>?_⟩
    · rw [lineAt,if_neg (by omega)];exact h1 (by omega)
    · cases k with
      | zero=>rw [lineAt,if_pos (by omega)];rfl
      | succ k=>rw [lineAt,if_neg (by omega),h2 k (by omega)];rfl
def lineN:List (List api_Cell)→Nat→Nat→Nat
  | [],i,a=>i+a
  | l :: r,i,a=>if a < l.length then i else lineN r (i+1) (a - l.length)
theorem volC_get:∀ (vs:List api_Cell) (i a:Nat),a < vs.length→((volC vs i)[a]?).map (·.2)=some ((i+a:Nat):Int)
  | [],_,_,h=>by simp at h
  | c :: r,i,0,_=>by simp [volC]
  | c :: r, i, a + 1, h => by
    simp only [volC,List.getElem?_cons_succ]
    rw [volC_get r (i+1) a (by simpa using h)]
    congr 2;omega
theorem lineN_get:∀ (ls:List (List api_Cell)) (vs:List api_Cell) (i a:Nat),a < ls.flatten.length+vs.length→((lineC ls i ++ volC vs (i+ls.length))[a]?).map (·.2)=some (lineN ls i a:Int)
  | [], vs, i, a, h => by
    simp only [lineC,List.nil_append,List.length_nil,Nat.add_zero,lineN]
    exact volC_get vs i a (by simpa using h)
  | l :: r, vs, i, a, h => by
    simp only [List.flatten_cons,List.length_append] at h
    simp only [lineC,lineN,List.append_assoc,List.length_cons]
    by_cases e:a < l.length
    · rw [if_pos e, List.getElem?_append_left (by simpa using e), List.getElem?_map, List.getElem?_eq_getElem e]
      rfl
    · rw [if_neg e, List.getElem?_append_right (by simpa using e), List.length_map, show i + (r.length + 1) = (i + 1) + r.length from by omega]
      exact lineN_get r vs (i+1) (a - l.length) (by omega)
theorem Line_in {p:api_Prog} (hp:SmallP p) {a:Nat} (h:a < (flatC p).length):Z63 1001 p (a:Int)=some (lineN p.Lines 0 a:Int):=by
  rw [Line_eq hp,show (0:Int)=((0:Nat):Int) from rfl,(lineAt_get (a:Int) (allC p) 0).2 a (by omega)]
  have:=lineN_get p.Lines p.Vols 0 a (by simpa [flatC] using h)
  rw [Nat.zero_add] at this
  unfold allC
  rw [this];rfl
theorem Stays_loop {p:api_Prog} (hp:SmallP p):∀ (d j n v:Nat),j+d=p.Lines.length→d < n→v≤8 * j→Z6b 1001 Z6a p n (v:Int) (j:Int)=some ((v+(p.Lines.drop j).flatten.length:Nat):Int):=by
  intro d
  have hL:=hp.lines
  induction d with
  | zero =>
    intro j n v hj hn hv
    obtain ⟨n,rfl⟩:∃ m,n=m+1:=⟨n - 1,by omega⟩
    rw [Z6b,if_neg (by omega),List.drop_of_length_le (by omega)]
    rfl
  | succ d ih =>
    intro j n v hj hn hv
    obtain ⟨n,rfl⟩:∃ m,n=m+1:=⟨n - 1,by omega⟩
    have h1:j < p.Lines.length:=by omega
    have h2:=hp.line _ (List.getElem_mem h1)
    rw [Z6b,if_pos (by omega),getI_at rfl h1]
    simp only [Option.bind_some]
    rw [show IntKind.i64.wrap ((v:Int)+(p.Lines[j].length:Int))=((v+p.Lines[j].length:Nat):Int) from by rw [w64 (by omega) (by omega)];omega,wsucc h1 (by omega),ih (j+1) n _ (by omega) (by omega) (by omega),
      List.drop_eq_getElem_cons h1,List.flatten_cons,List.length_append,Nat.add_assoc]
theorem Stays_eq {p:api_Prog} (hp:SmallP p):Z69 1001 p=some (p.Lines.flatten.length:Int):=by
  have hL:=hp.lines
  unfold Z69
  have:=Stays_loop hp p.Lines.length 0 1001 0 (by omega) (by omega) (by omega)
  rw [List.drop_zero,Nat.zero_add] at this
  exact this
theorem Locks_loop {p:api_Prog} (hp:SmallP p):∀ (d j n:Nat) (out:List Str),j+d=p.Locks.length→d < n→out.length≤j→Z67 1001 Z66 p n out (j:Int)=some (out ++ (p.Locks.drop j).map (·.Name)):=by
  intro d
  have hL:=hp.locks
  induction d with
  | zero =>
    intro j n out hj hn hv
    obtain ⟨n,rfl⟩:∃ m,n=m+1:=⟨n - 1,by omega⟩
    rw [Z67,if_neg (by omega),List.drop_of_length_le (by omega),Z66]
    simp
  | succ d ih =>
    intro j n out hj hn hv
    obtain ⟨n,rfl⟩:∃ m,n=m+1:=⟨n - 1,by omega⟩
    have h1:j < p.Locks.length:=by omega
    rw [Z67,if_pos (by omega),getI_at rfl h1]
    simp only [Option.bind_some]
    rw [appG_ok (by simp;omega) (by decide)]
    simp only [Option.bind_some]
    rw [wsucc h1 (by omega),ih (j+1) n _ (by omega) (by omega) (by simp;omega),List.drop_eq_getElem_cons h1,List.map_cons,List.append_assoc]
    rfl
theorem Locks_eq {p:api_Prog} (hp:SmallP p):Z65 1001 p=some (p.Locks.map (·.Name)):=by
  have hL:=hp.locks
  have:=Locks_loop hp p.Locks.length 0 1001 [] (by omega) (by omega) (Nat.le_refl _)
  rw [List.drop_zero,List.nil_append] at this
  exact this
end Go.MD.LB
