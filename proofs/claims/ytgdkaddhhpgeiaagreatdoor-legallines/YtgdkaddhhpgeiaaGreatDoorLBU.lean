/- Cells, lines, locks. No condition: plain lemmas. -/
import Derived.Test.YtgdkaddhhpgeiaaGreatDoorLBS
namespace Go.MD.LB
open Go Go.MD
theorem fixed06:Z17 1001=some true:=by decide +kernel
theorem fix_b6:((Z17 1001).bind fun r=>some r)=some true:=by rw [fixed06];rfl
def flatC (p:api_Prog):List api_Cell:=p.Lines.flatten ++ p.Vols
theorem lineC_fst:∀ (l:List (List api_Cell)) (i:Nat),(lineC l i).map (·.1)=l.flatten
  | [],_=>rfl
  | l :: r,i=>by simp [lineC,lineC_fst r (i+1),Function.comp_def]
theorem volC_fst:∀ (l:List api_Cell) (i:Nat),(volC l i).map (·.1)=l
  | [],_=>rfl
  | c :: r,i=>by simp [volC,volC_fst r (i+1)]
theorem allC_fst (p:api_Prog):(allC p).map (·.1)=flatC p:=by simp [allC,flatC,lineC_fst,volC_fst]
theorem flat_le:∀ (l:List (List api_Cell)),(∀ x∈l,x.length≤8)→l.flatten.length≤8 * l.length
  | [],_=>Nat.zero_le _
  | x :: r, h => by
    have:=flat_le r (fun y hy=>h y (.tail _ hy))
    have:=h x (.head _)
    simp only [List.flatten_cons,List.length_append,List.length_cons]
    omega
theorem flatC_le {p:api_Prog} (hp:SmallP p):(flatC p).length≤56:=by
  have h1:=flat_le p.Lines hp.line
  have h2:=hp.lines
  have h3:=hp.vols
  simp only [flatC,List.length_append]
  omega
theorem allC_len (p:api_Prog):(allC p).length=(flatC p).length:=by rw [← allC_fst];simp
theorem Cells_fold:∀ (l:List (api_Cell×Int)) (out:List Str),out.length+l.length≤1000→fold (yy (fun (s:List Str) (x:api_Cell×Int)=>Z4t s x)) l (.inl out)=some (.inl (out ++ l.map (·.1.Name)))
  | [],out,_=>by simp [fold]
  | x :: l, out, h => by
    simp only [List.length_cons] at h
    have e:Z4t out x=some (.inl (out ++ [x.1.Name])):=by rw [Z4t,appG_ok (by simp;omega) (by decide)];rfl
    simp only [fold,yy,e,Option.map_some,Option.bind_some,Sum.isLeft_inl,if_true]
    rw [Cells_fold l _ (by simp;omega)]
    simp
theorem Cells_eq {p:api_Prog} (hp:SmallP p):Z4s 1001 p=some ((flatC p).map (·.Name)):=by
  have:=flatC_le hp
  unfold Z4s Z5h
  simp only [Option.bind_some]
  rw [all_eq _ _ hp,Cells_fold _ _ (by rw [allC_len];simp;omega)]
  simp only [Option.bind_some,List.nil_append]
  rw [← allC_fst,List.map_map]
  rfl
def lineAt (c:Int):List (api_Cell×Int)→Int→Option Int
  | [],_=>none
  | x :: r,a=>if a=c then some x.2 else lineAt c r (a+1)
theorem Line_fold (c:Int):∀ (l:List (api_Cell×Int)) (a:Nat),a+l.length≤1000→fold (yy (fun (s:Int) (x:api_Cell×Int)=>(Z59 c) s x)) l (.inl (a:Int))=some (match lineAt c l a with | some v=>.inr v | none=>.inl ((a+l.length:Nat):Int))
  | [],a,_=>by simp [fold,lineAt]
  | x :: l, a, h => by
    simp only [List.length_cons] at h
    by_cases e:(a:Int)=c
    · have e1 : Z59 c (a : Int) x = some (.inr x.2) := by rw [Z59, if_pos e]
      simp only [fold,yy,e1,Option.map_some,Option.bind_some,lineAt,if_pos e]
      rfl
    · have e1 : Z59 c (a : Int) x = some (.inl ((a + 1 : Nat) : Int)) := by rw [Z59, if_neg e, wsucc (n := 1001) (by omega) (by decide)]
      simp only [fold,yy,e1,Option.map_some,Option.bind_some,Sum.isLeft_inl,if_true,lineAt,if_neg e]
      rw [Line_fold c l (a+1) (by omega)]
      rw [show ((a+1:Nat):Int)=(a:Int)+1 from by omega,show a+1+l.length=a+(l.length+1) from by omega]
      rfl
theorem Line_eq {p:api_Prog} (hp:SmallP p) (c:Int):Z58 1001 p c=some ((lineAt c (allC p) 0).getD (-1)):=by
  have:=flatC_le hp
  unfold Z58 Z5h
  simp only [Option.bind_some]
  rw [all_eq _ _ hp,show (0:Int)=((0:Nat):Int) from rfl,Line_fold c _ 0 (by rw [allC_len];omega)]
  simp only [Option.bind_some]
  cases lineAt c (allC p) ((0:Nat):Int) <;> rfl
theorem lineAt_get (c:Int):∀ (l:List (api_Cell×Int)) (a:Nat),(c < a→lineAt c l a=none)∧(∀ k:Nat,c=((a+k:Nat):Int)→lineAt c l a=(l[k]?).map (·.2))
  | [],a=>⟨fun _=>rfl,fun k _=>by simp [lineAt]⟩
  | x :: l, a => by
    obtain ⟨h1,h2⟩:=lineAt_get c l (a+1)
    rw [show ((a+1:Nat):Int)=(a:Int)+1 from by omega] at h1 h2
    refine ⟨fun h=>?_,fun k hk=>?_⟩
    · rw [lineAt,if_neg (by omega)];exact h1 (by omega)
    · cases k with
      | zero=>rw [lineAt,if_pos (by omega)];rfl
      | succ k=>rw [lineAt,if_neg (by omega),h2 k (by omega)];rfl
def lineN:List (List api_Cell)→Nat→Nat→Nat
  | [],i,a=>i+a
  | l :: r,i,a=>if a < l.length then i else lineN r (i+1) (a - l.length)
theorem volC_get:∀ (vs:List api_Cell) (i a:Nat),a < vs.length→((volC vs i)[a]?).map (·.2)=some ((i+a:Nat):Int)
  | [],_,_,h=>by simp at h
  | c :: r,i,0,_=>by simp [volC]
  | c :: r, i, a + 1, h => by
    simp only [volC,List.getElem?_cons_succ]
    rw [volC_get r (i+1) a (by simpa using h)]
    congr 2;omega
theorem lineN_get:∀ (ls:List (List api_Cell)) (vs:List api_Cell) (i a:Nat),a < ls.flatten.length+vs.length→((lineC ls i ++ volC vs (i+ls.length))[a]?).map (·.2)=some (lineN ls i a:Int)
  | [], vs, i, a, h => by
    simp only [lineC,List.nil_append,List.length_nil,Nat.add_zero,lineN]
    exact volC_get vs i a (by simpa using h)
  | l :: r, vs, i, a, h => by
    simp only [List.flatten_cons,List.length_append] at h
    simp only [lineC,lineN,List.append_assoc,List.length_cons]
    by_cases e:a < l.length
    · rw [if_pos e, List.getElem?_append_left (by simpa using e), List.getElem?_map, List.getElem?_eq_getElem e]
      rfl
    · rw [if_neg e, List.getElem?_append_right (by simpa using e), List.length_map, show i + (r.length + 1) = (i + 1) + r.length from by omega]
      exact lineN_get r vs (i+1) (a - l.length) (by omega)
theorem Line_in {p:api_Prog} (hp:SmallP p) {a:Nat} (h:a < (flatC p).length):Z58 1001 p (a:Int)=some (lineN p.Lines 0 a:Int):=by
  rw [Line_eq hp,show (0:Int)=((0:Nat):Int) from rfl,(lineAt_get (a:Int) (allC p) 0).2 a (by omega)]
  have:=lineN_get p.Lines p.Vols 0 a (by simpa [flatC] using h)
  rw [Nat.zero_add] at this
  unfold allC
  rw [this];rfl
theorem Line_out {p:api_Prog} (hp:SmallP p) {c:Int} (h:c < 0∨((flatC p).length:Int)≤c):Z58 1001 p c=some (-1):=by
  rw [Line_eq hp,show (0:Int)=((0:Nat):Int) from rfl]
  rcases h with h | h
  · rw [(lineAt_get c (allC p) 0).1 (by omega)];rfl
  · rw [(lineAt_get c (allC p) 0).2 c.toNat (by omega),List.getElem?_eq_none (by rw [allC_len];omega)];rfl
theorem Stays_loop {p:api_Prog} (hp:SmallP p):∀ (d j n v:Nat),j+d=p.Lines.length→d < n→v≤8 * j→Z5g 1001 Z5f p n (v:Int) (j:Int)=some ((v+(p.Lines.drop j).flatten.length:Nat):Int):=by
  intro d
  have hL:=hp.lines
  induction d with
  | zero =>
    intro j n v hj hn hv
    obtain ⟨n,rfl⟩:∃ m,n=m+1:=⟨n - 1,by omega⟩
    rw [Z5g,if_neg (by omega),List.drop_of_length_le (by omega)]
    rfl
  | succ d ih =>
    intro j n v hj hn hv
    obtain ⟨n,rfl⟩:∃ m,n=m+1:=⟨n - 1,by omega⟩
    have h1:j < p.Lines.length:=by omega
    have h2:=hp.line _ (List.getElem_mem h1)
    rw [Z5g,if_pos (by omega),getI_at rfl h1]
    simp only [Option.bind_some]
    rw [show IntKind.i64.wrap ((v:Int)+(p.Lines[j].length:Int))=((v+p.Lines[j].length:Nat):Int) from by rw [w64 (by omega) (by omega)];omega,wsucc h1 (by omega),ih (j+1) n _ (by omega) (by omega) (by omega),
      List.drop_eq_getElem_cons h1,List.flatten_cons,List.length_append,Nat.add_assoc]
theorem Stays_eq {p:api_Prog} (hp:SmallP p):Z5e 1001 p=some (p.Lines.flatten.length:Int):=by
  have hL:=hp.lines
  unfold Z5e
  have:=Stays_loop hp p.Lines.length 0 1001 0 (by omega) (by omega) (by omega)
  rw [List.drop_zero,Nat.zero_add] at this
  exact this
theorem lineN_ge:∀ (ls:List (List api_Cell)) (i a:Nat),i≤lineN ls i a
  | [],i,a=>by simp [lineN]
  | l :: r, i, a => by
    rw [lineN];split
    · exact Nat.le_refl _
    · have:=lineN_ge r (i+1) (a - l.length);omega
theorem lineN_mono:∀ (ls:List (List api_Cell)) (i a:Nat),lineN ls i a≤lineN ls i (a+1)
  | [],i,a=>by simp only [lineN];omega
  | l :: r, i, a => by
    simp only [lineN]
    by_cases h1:a+1 < l.length
    · rw [if_pos (by omega),if_pos h1];exact Nat.le_refl _
    · rw [if_neg h1]
      by_cases h2:a < l.length
      · rw [if_pos h2];have:=lineN_ge r (i+1) (a+1 - l.length);omega
      · rw [if_neg h2, show a + 1 - l.length = (a - l.length) + 1 from by omega]
        exact lineN_mono r (i+1) _
theorem lineN_lt:∀ (ls:List (List api_Cell)) (i a:Nat),a < ls.flatten.length→lineN ls i a < i+ls.length
  | [],i,a,h=>by simp at h
  | l :: r, i, a, h => by
    simp only [List.flatten_cons,List.length_append] at h
    simp only [lineN,List.length_cons]
    split
    · omega
    · have:=lineN_lt r (i+1) (a - l.length) (by omega);omega
theorem lineN_ge':∀ (ls:List (List api_Cell)) (i a:Nat),ls.flatten.length≤a→lineN ls i a=i+ls.length+(a - ls.flatten.length)
  | [],i,a,h=>by simp [lineN]
  | l :: r, i, a, h => by
    simp only [List.flatten_cons,List.length_append] at h ⊢
    simp only [lineN,List.length_cons]
    rw [if_neg (by omega),lineN_ge' r (i+1) (a - l.length) (by omega)]
    omega
theorem LL_loop {p:api_Prog} (hp:SmallP p) (k:Option Bool):∀ (d j n:Nat),j+1+d=(flatC p).length→d < n→
    Z16 1001 k p ((flatC p).map (·.Name)) (p.Lines.flatten.length:Int) n ((j+1:Nat):Int)=k:=by
  intro d
  have hC:=flatC_le hp
  have hL:=hp.lines
  induction d with
  | zero =>
    intro j n hj hn
    obtain ⟨n,rfl⟩:∃ m,n=m+1:=⟨n - 1,by omega⟩
    rw [Z16,if_neg (by rw [List.length_map];omega)]
  | succ d ih =>
    intro j n hj hn
    obtain ⟨n,rfl⟩:∃ m,n=m+1:=⟨n - 1,by omega⟩
    rw [Z16,if_pos (by rw [List.length_map];omega),show IntKind.i64.wrap (((j+1:Nat):Int) - 1)=(j:Int) from by rw [w64 (by omega) (by omega)];omega,
      Line_in hp (by omega),Line_in hp (by omega)]
    simp only [Option.bind_some]
    have m1:=lineN_mono p.Lines 0 j
    have w1:IntKind.i64.wrap ((p.Lines.length:Int)+((j+1:Nat):Int))=((p.Lines.length+(j+1):Nat):Int):=by rw [w64 (by omega) (by omega)];omega
    have hs:p.Lines.flatten.length≤56:=by have:=hC;simp only [flatC,List.length_append] at this;omega
    have w2:IntKind.i64.wrap (((p.Lines.length+(j+1):Nat):Int) - (p.Lines.flatten.length:Int))=((p.Lines.length+(j+1):Nat):Int) - (p.Lines.flatten.length:Int):=w64 (by omega) (by omega)
    rw [w1,w2]
    rw [sure_ok]
    · simp only [Option.bind_some]
      rw [show ((j+1:Nat):Int)=(((j+1):Nat):Int) from rfl,wsucc (n:=1001) (by omega) (by decide)]
      exact ih (j+1) n (by omega) (by omega)
    · simp only [Bool.not_eq_true', Bool.or_eq_false_iff, Bool.and_eq_false_iff, decide_eq_false_iff_not]
      rcases Nat.lt_or_ge (j+1) p.Lines.flatten.length with h | h
      · have m2 := lineN_lt p.Lines 0 (j + 1) h
        refine ⟨⟨⟨by omega,.inr (by omega)⟩,.inr (by omega)⟩,.inl (by omega)⟩
      · have m2 := lineN_ge' p.Lines 0 (j + 1) h
        refine ⟨⟨⟨by omega,.inl ?_⟩,.inl (by omega)⟩,.inr (by omega)⟩
        rcases Nat.lt_or_ge j p.Lines.flatten.length with h' | h'
        · have m3:=lineN_lt p.Lines 0 j h';omega
        · have m3:=lineN_ge' p.Lines 0 j h';omega
theorem LL_sum {p:api_Prog} (hp:SmallP p) (k:Int→Option Bool):∀ (d j n v:Nat),j+d=p.Lines.length→d < n→v≤8 * j→Z15 1001 k p n (v:Int) (j:Int)=k ((v+(p.Lines.drop j).flatten.length:Nat):Int):=by
  intro d
  have hL:=hp.lines
  induction d with
  | zero =>
    intro j n v hj hn hv
    obtain ⟨n,rfl⟩:∃ m,n=m+1:=⟨n - 1,by omega⟩
    rw [Z15,if_neg (by omega),List.drop_of_length_le (by omega)]
    rfl
  | succ d ih =>
    intro j n v hj hn hv
    obtain ⟨n,rfl⟩:∃ m,n=m+1:=⟨n - 1,by omega⟩
    have h1:j < p.Lines.length:=by omega
    have h2:=hp.line _ (List.getElem_mem h1)
    rw [Z15,if_pos (by omega),getI_at rfl h1]
    simp only [Option.bind_some]
    rw [show IntKind.i64.wrap ((v:Int)+(p.Lines[j].length:Int))=((v+p.Lines[j].length:Nat):Int) from by rw [w64 (by omega) (by omega)];omega,wsucc h1 (by omega),ih (j+1) n _ (by omega) (by omega) (by omega),
      List.drop_eq_getElem_cons h1,List.flatten_cons,List.length_append,Nat.add_assoc]
theorem LegalLines_eq (p1:api_Prog):Z12 1001 p1=some true:=by
  unfold Z12
  obtain ⟨p,hq,hp⟩:=CutP p1
  have hC:=flatC_le hp
  have hL:=hp.lines
  rw [hq]
  simp only [Option.bind_some]
  rw [Cells_eq hp,Stays_eq hp]
  simp only [Option.bind_some]
  rw [show Z15 1001 (Z13 1001 p ((flatC p).map (·.Name)) (p.Lines.flatten.length:Int)) p 1001 0 0=_ from LL_sum hp _ p.Lines.length 0 1001 0 (by omega) (by omega) (by omega),List.drop_zero,Nat.zero_add,Z13]
  have hlen:(flatC p).length=p.Lines.flatten.length+p.Vols.length:=by simp [flatC]
  rw [sure_ok (by
    rw [w64 (by omega) (by omega)]
    simp only [List.length_map,Bool.not_eq_true',Bool.or_eq_false_iff,decide_eq_false_iff_not];omega)]
  simp only [Option.bind_some]
  have fin:Z14 1001 p ((flatC p).map (·.Name))=some true:=by
    rw [Z14,Line_out hp (.inl (by omega))]
    simp only [Option.bind_some,if_true]
    rw [Line_out hp (.inr (by rw [List.length_map];omega))]
    simp only [Option.bind_some,if_true]
    exact fix_b6
  rcases Nat.eq_zero_or_pos (flatC p).length with h0 | h0
  · rw [Z16, if_neg (by rw [List.length_map]; omega)]
    exact fin
  · have := LL_loop hp (Z14 1001 p ((flatC p).map (·.Name))) ((flatC p).length - 1) 0 1001 (by omega) (by omega)
    rw [show ((0+1:Nat):Int)=1 from rfl] at this
    rw [this];exact fin
end Go.MD.LB
