/- Cells, lines, locks. No condition: plain lemmas. -/
import Derived.Test.YtgdkaddhhpgeiaaGreatDoorLBS
namespace Go.MD.LB
open Go Go.MD
theorem Wj:Z1b 1001=some true:=by decide +kernel
theorem Iz:((Z1b 1001).bind fun r=>some r)=some true:=by rw [Wj];rfl
def Cb (p:api_Prog):List api_Cell:=p.Lines.flatten ++ p.Vols
theorem Mr:∀ (l:List (List api_Cell)) (i:Nat),(Gt l i).map (·.1)=l.flatten
  | [],_=>rfl
  | l :: r,i=>by simp [Gt,Mr r (i+1),Function.comp_def]
theorem Ou:∀ (l:List api_Cell) (i:Nat),(Jp l i).map (·.1)=l
  | [],_=>rfl
  | c :: r,i=>by simp [Jp,Ou r (i+1)]
theorem Ld (p:api_Prog):(Iw p).map (·.1)=Cb p:=by simp [Iw,Cb,Mr,Ou]
theorem Sc:∀ (l:List (List api_Cell)),(∀ x∈l,x.length≤8)→l.flatten.length≤8 * l.length
  | [],_=>Nat.zero_le _
  | x :: r, h => by
    have:=Sc r (fun y hy=>h y (.tail _ hy))
    have:=h x (.head _)
    simp only [List.flatten_cons,List.length_append,List.length_cons]
    omega
theorem Gc {p:api_Prog} (hp:SmallP p):(Cb p).length≤56:=by
  have h1:=Sc p.Lines hp.line
  have h2:=hp.lines
  have h3:=hp.vols
  simp only [Cb,List.length_append]
  omega
theorem Of (p:api_Prog):(Iw p).length=(Cb p).length:=by rw [← Ld];simp
theorem Lr:∀ (l:List (api_Cell×Int)) (out:List Str),out.length+l.length≤1000→Hp (yy (fun (s:List Str) (x:api_Cell×Int)=>Z5j s x)) l (.inl out)=some (.inl (out ++ l.map (·.1.Name)))
  | [],out,_=>by simp [Hp]
  | x :: l, out, h => by
    simp only [List.length_cons] at h
    have e:Z5j out x=some (.inl (out ++ [x.1.Name])):=by rw [Z5j,Cn (by simp;omega) (by decide)];rfl
    simp only [Hp,yy,e,Option.map_some,Option.bind_some,Sum.isLeft_inl,if_true]
    rw [Lr l _ (by simp;omega)]
    simp
theorem Ib {p:api_Prog} (hp:SmallP p):Z5i 1001 p=some ((Cb p).map (·.Name)):=by
  have:=Gc hp
  unfold Z5i Z67
  simp only [Option.bind_some]
  rw [Qx _ _ hp,Lr _ _ (by rw [Of];simp;omega)]
  simp only [Option.bind_some,List.nil_append]
  rw [← Ld,List.map_map]
  rfl
def Do (c:Int):List (api_Cell×Int)→Int→Option Int
  | [],_=>none
  | x :: r,a=>if a=c then some x.2 else Do c r (a+1)
theorem Mm (c:Int):∀ (l:List (api_Cell×Int)) (a:Nat),a+l.length≤1000→Hp (yy (fun (s:Int) (x:api_Cell×Int)=>(Z5z c) s x)) l (.inl (a:Int))=some (match Do c l a with | some v=>.inr v | none=>.inl ((a+l.length:Nat):Int))
  | [],a,_=>by simp [Hp,Do]
  | x :: l, a, h => by
    simp only [List.length_cons] at h
    by_cases e:(a:Int)=c
    · have e1 : Z5z c (a : Int) x = some (.inr x.2) := by rw [Z5z, if_pos e]
      simp only [Hp,yy,e1,Option.map_some,Option.bind_some,Do,if_pos e]
      rfl
    · have e1 : Z5z c (a : Int) x = some (.inl ((a + 1 : Nat) : Int)) := by rw [Z5z, if_neg e, Bf (n := 1001) (by omega) (by decide)]
      simp only [Hp,yy,e1,Option.map_some,Option.bind_some,Sum.isLeft_inl,if_true,Do,if_neg e]
      rw [Mm c l (a+1) (by omega)]
      rw [show ((a+1:Nat):Int)=(a:Int)+1 from by omega,show a+1+l.length=a+(l.length+1) from by omega]
      rfl
theorem Xd {p:api_Prog} (hp:SmallP p) (c:Int):Z5y 1001 p c=some ((Do c (Iw p) 0).getD (-1)):=by
  have:=Gc hp
  unfold Z5y Z67
  simp only [Option.bind_some]
  rw [Qx _ _ hp,show (0:Int)=((0:Nat):Int) from rfl,Mm c _ 0 (by rw [Of];omega)]
  simp only [Option.bind_some]
  cases Do c (Iw p) ((0:Nat):Int) <;> rfl
theorem Ln (c:Int):∀ (l:List (api_Cell×Int)) (a:Nat),(c < a→Do c l a=none)∧(∀ k:Nat,c=((a+k:Nat):Int)→Do c l a=(l[k]?).map (·.2))
  | [],a=>⟨fun _=>rfl,fun k _=>by simp [Do]⟩
  | x :: l, a => by
    obtain ⟨h1,h2⟩:=Ln c l (a+1)
    rw [show ((a+1:Nat):Int)=(a:Int)+1 from by omega] at h1 h2
    refine ⟨fun h=>?_,fun k hk=>?_⟩
    · rw [Do,if_neg (by omega)];exact h1 (by omega)
    · cases k with
      | zero=>rw [Do,if_pos (by omega)];rfl
      | succ k=>rw [Do,if_neg (by omega),h2 k (by omega)];rfl
def lineN:List (List api_Cell)→Nat→Nat→Nat
  | [],i,a=>i+a
  | l :: r,i,a=>if a < l.length then i else lineN r (i+1) (a - l.length)
theorem Oj:∀ (vs:List api_Cell) (i a:Nat),a < vs.length→((Jp vs i)[a]?).map (·.2)=some ((i+a:Nat):Int)
  | [],_,_,h=>by simp at h
  | c :: r,i,0,_=>by simp [Jp]
  | c :: r, i, a + 1, h => by
    simp only [Jp,List.getElem?_cons_succ]
    rw [Oj r (i+1) a (by simpa using h)]
    congr 2;omega
theorem Me:∀ (ls:List (List api_Cell)) (vs:List api_Cell) (i a:Nat),a < ls.flatten.length+vs.length→((Gt ls i ++ Jp vs (i+ls.length))[a]?).map (·.2)=some (lineN ls i a:Int)
  | [], vs, i, a, h => by
    simp only [Gt,List.nil_append,List.length_nil,Nat.add_zero,lineN]
    exact Oj vs i a (by simpa using h)
  | l :: r, vs, i, a, h => by
    simp only [List.flatten_cons,List.length_append] at h
    simp only [Gt,lineN,List.append_assoc,List.length_cons]
    by_cases e:a < l.length
    · rw [if_pos e, List.getElem?_append_left (by simpa using e), List.getElem?_map, List.getElem?_eq_getElem e]
      rfl
    · rw [if_neg e, List.getElem?_append_right (by simpa using e), List.length_map, show i + (r.length + 1) = (i + 1) + r.length from by omega]
      exact Me r vs (i+1) (a - l.length) (by omega)
theorem Nl {p:api_Prog} (hp:SmallP p) {a:Nat} (h:a < (Cb p).length):Z5y 1001 p (a:Int)=some (lineN p.Lines 0 a:Int):=by
  rw [Xd hp,show (0:Int)=((0:Nat):Int) from rfl,(Ln (a:Int) (Iw p) 0).2 a (by omega)]
  have:=Me p.Lines p.Vols 0 a (by simpa [Cb] using h)
  rw [Nat.zero_add] at this
  unfold Iw
  rw [this];rfl
theorem Ql {p:api_Prog} (hp:SmallP p):∀ (d j n v:Nat),j+d=p.Lines.length→d < n→v≤8 * j→Z66 1001 Z65 p n (v:Int) (j:Int)=some ((v+(p.Lines.drop j).flatten.length:Nat):Int):=by
  intro d
  have hL:=hp.lines
  induction d with
  | zero =>
    intro j n v hj hn hv
    obtain ⟨n,rfl⟩:∃ m,n=m+1:=⟨n - 1,by omega⟩
    rw [Z66,if_neg (by omega),List.drop_of_length_le (by omega)]
    rfl
  | succ d ih =>
    intro j n v hj hn hv
    obtain ⟨n,rfl⟩:∃ m,n=m+1:=⟨n - 1,by omega⟩
    have h1:j < p.Lines.length:=by omega
    have h2:=hp.line _ (List.getElem_mem h1)
    rw [Z66,if_pos (by omega),Ax rfl h1]
    simp only [Option.bind_some]
    rw [show IntKind.i64.wrap ((v:Int)+(p.Lines[j].length:Int))=((v+p.Lines[j].length:Nat):Int) from by rw [w64 (by omega) (by omega)];omega,Bf h1 (by omega),ih (j+1) n _ (by omega) (by omega) (by omega),
      List.drop_eq_getElem_cons h1,List.flatten_cons,List.length_append,Nat.add_assoc]
theorem N6 {p:api_Prog} (hp:SmallP p):Z64 1001 p=some (p.Lines.flatten.length:Int):=by
  have hL:=hp.lines
  unfold Z64
  have:=Ql hp p.Lines.length 0 1001 0 (by omega) (by omega) (by omega)
  rw [List.drop_zero,Nat.zero_add] at this
  exact this
theorem Rb {p:api_Prog} (hp:SmallP p):∀ (d j n:Nat) (out:List Str),j+d=p.Locks.length→d < n→out.length≤j→Z62 1001 Z61 p n out (j:Int)=some (out ++ (p.Locks.drop j).map (·.Name)):=by
  intro d
  have hL:=hp.locks
  induction d with
  | zero =>
    intro j n out hj hn hv
    obtain ⟨n,rfl⟩:∃ m,n=m+1:=⟨n - 1,by omega⟩
    rw [Z62,if_neg (by omega),List.drop_of_length_le (by omega),Z61]
    simp
  | succ d ih =>
    intro j n out hj hn hv
    obtain ⟨n,rfl⟩:∃ m,n=m+1:=⟨n - 1,by omega⟩
    have h1:j < p.Locks.length:=by omega
    rw [Z62,if_pos (by omega),Ax rfl h1]
    simp only [Option.bind_some]
    rw [Cn (by simp;omega) (by decide)]
    simp only [Option.bind_some]
    rw [Bf h1 (by omega),ih (j+1) n _ (by omega) (by omega) (by simp;omega),List.drop_eq_getElem_cons h1,List.map_cons,List.append_assoc]
    rfl
theorem Ux {p:api_Prog} (hp:SmallP p):Z60 1001 p=some (p.Locks.map (·.Name)):=by
  have hL:=hp.locks
  have:=Rb hp p.Locks.length 0 1001 [] (by omega) (by omega) (Nat.le_refl _)
  rw [List.drop_zero,List.nil_append] at this
  exact this
theorem Ms:∀ (ls:List (List api_Cell)) (i a:Nat),ls.flatten.length≤a→lineN ls i a=i+ls.length+(a - ls.flatten.length)
  | [],i,a,h=>by simp [lineN]
  | l :: r, i, a, h => by
    simp only [List.flatten_cons,List.length_append] at h ⊢
    simp only [lineN,List.length_cons]
    rw [if_neg (by omega),Ms r (i+1) (a - l.length) (by omega)]
    omega
end Go.MD.LB
