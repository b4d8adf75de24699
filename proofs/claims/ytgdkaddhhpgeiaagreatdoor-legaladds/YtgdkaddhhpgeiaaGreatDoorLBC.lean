/- What names are, and the first one that is there twice. No condition: plain lemmas. -/
import Derived.Test.YtgdkaddhhpgeiaaGreatDoorLBY
namespace Go.MD.LB
open Go Go.MD
theorem Gw {m1 m2:List (Str×Int)} {k:Str}:Bd k (m1 ++ m2)=(Bd k m1).or (Bd k m2):=by
  induction m1 with
  | nil=>simp [Bd]
  | cons x r ih =>
    simp only [List.cons_append,Bd]
    split
    · simp
    · exact ih
theorem Hv {m:List (Str×Int)} {k:Str}:Bd k m=none↔k ∉ m.map (·.1):=by
  induction m with
  | nil=>simp [Bd]
  | cons x r ih =>
    simp only [Bd,List.map_cons,List.mem_cons,not_or]
    split
    · rename_i h;simp [h]
    · rename_i h;rw [ih];simp [h]
theorem Sl {m:List (Str×Int)} {k:Str} {v:Int} (h:Bd k m=some v):∃ e∈m,e.2=v:=by
  induction m with
  | nil=>simp [Bd] at h
  | cons x r ih =>
    simp only [Bd] at h
    split at h
    · exact ⟨x,.head _,Option.some.inj h⟩
    · obtain ⟨e,h1,h2⟩:=ih h;exact ⟨e,.tail _ h1,h2⟩
theorem Ju {m:List (Str×Int)} (hm:∀ e∈m,e.2≠0) (k:Str):(Bd k m).getD 0≠0↔k∈m.map (·.1):=by
  cases h:Bd k m with
  | none=>have:=Hv.1 h;simp [this]
  | some v =>
    obtain ⟨e,h1,h2⟩:=Sl h
    have h3:=hm e h1
    have h4:k∈m.map (·.1):=Decidable.byContradiction fun h5=>by rw [Hv.2 h5] at h;cases h
    simp only [Option.getD_some,h4,iff_true]
    exact h2 ▸ h3
theorem Ol {m:List (Str×Int)} {k:Str} {v:Int} (h:k ∉ m.map (·.1)):H4 k v m=m ++ [(k,v)]:=by
  unfold H4;rw [Hv.2 h];rfl
theorem Co {α:Type} {l:List α} {f:α→Str} {v:Int} {k:Str}:Bd k (l.map fun x=>(f x,v))=if k∈l.map f then some v else none:=by
  induction l with
  | nil=>rfl
  | cons x r ih =>
    simp only [List.map_cons,Bd,List.mem_cons]
    by_cases h:k=f x
    · rw [if_pos h,if_pos (.inl h)]
    · rw [if_neg h, ih]
      simp [h]
abbrev NSt:=List (Str×Int)×Int×Bool
abbrev Ent:=Str×Int×Int
def Fb (s:NSt) (e:Ent):NSt:=
  if ((decide (((Bd e.1 s.1).getD 0)≠0)) && (!s.2.2))=true then (H4 e.1 e.2.1 s.1,e.2.2,true) else (H4 e.1 e.2.1 s.1,s.2.1,s.2.2)
theorem Nz (N:Nat) (e:Ent) (s:NSt):Z6i N e.1 e.2.1 e.2.2 s.1 s.2.2 s.2.1=some ((Fb s e).1,(Fb s e).2.2,(Fb s e).2.1):=by
  unfold Z6i Fb
  split <;> rfl
def Hh (n:Nat) (x:api_Cell×Int):Ent:=(x.1.Name,if (n:Int)≤x.2 then 2 else 1,x.1.At)
def Mo (c:api_Cell):Ent:=(c.Name,3,c.At)
def Ip (t:api_Thread):Ent:=(t.Name,4,t.At)
def N1 (p:api_Prog):List Ent:=(Iw p).map (Hh p.Lines.length) ++ (p.Locks.map Mo ++ p.Threads.map Ip)
theorem Kh (p:api_Prog):∀ (l:List (api_Cell×Int)) (s:NSt),Hp (yy (fun (s:NSt) (x:api_Cell×Int)=>(Z6k 1001 p) s.1 s.2.1 s.2.2 x)) l (.inl s)=some (.inl ((l.map (Hh p.Lines.length)).foldl Fb s))
  | [],s=>rfl
  | x :: l, s => by
    have e:Z6k 1001 p s.1 s.2.1 s.2.2 x=some (.inl (Fb s (Hh p.Lines.length x))):=by
      unfold Z6k Hh
      split
      · have := Nz 1001 (x.1.Name, 2, x.1.At) s
        rw [Z6l,this];rfl
      · have := Nz 1001 (x.1.Name, 1, x.1.At) s
        rw [Z6l,this];rfl
    simp only [Hp,yy,e,Option.map_some,Option.bind_some,Sum.isLeft_inl,if_true]
    exact Kh p l _
theorem N7 {p:api_Prog} (hK:p.Locks.length≤1000) (k:List (Str×Int)→Int→Bool→Option NSt):∀ (d j n:Nat) (s:NSt),j+d=p.Locks.length→d < n→
    Z6o 1001 k p n s.1 s.2.1 s.2.2 (j:Int)=(fun t:NSt=>k t.1 t.2.1 t.2.2) (((p.Locks.drop j).map Mo).foldl Fb s):=by
  intro d
  induction d with
  | zero =>
    intro j n s hj hn
    obtain ⟨n,rfl⟩:∃ m,n=m+1:=⟨n - 1,by omega⟩
    rw [Z6o,if_neg (by omega),List.drop_of_length_le (by omega)]
    rfl
  | succ d ih =>
    intro j n s hj hn
    obtain ⟨n,rfl⟩:∃ m,n=m+1:=⟨n - 1,by omega⟩
    have h1:j < p.Locks.length:=by omega
    have e:=Nz 1001 (Mo p.Locks[j]) s
    rw [Z6o,if_pos (by omega),Ax rfl h1]
    simp only [Option.bind_some]
    simp only [Mo] at e
    rw [e]
    simp only [Option.bind_some]
    rw [Bf h1 (by omega),List.drop_eq_getElem_cons h1,List.map_cons,List.foldl_cons]
    exact ih (j+1) n (Fb s (Mo p.Locks[j])) (by omega) (by omega)
theorem Lw {p:api_Prog} (hK:p.Threads.length≤1000) (k:List (Str×Int)→Int→Bool→Option NSt):∀ (d j n:Nat) (s:NSt),j+d=p.Threads.length→d < n→
    Z6p 1001 k p n s.1 s.2.1 s.2.2 (j:Int)=(fun t:NSt=>k t.1 t.2.1 t.2.2) (((p.Threads.drop j).map Ip).foldl Fb s):=by
  intro d
  induction d with
  | zero =>
    intro j n s hj hn
    obtain ⟨n,rfl⟩:∃ m,n=m+1:=⟨n - 1,by omega⟩
    rw [Z6p,if_neg (by omega),List.drop_of_length_le (by omega)]
    rfl
  | succ d ih =>
    intro j n s hj hn
    obtain ⟨n,rfl⟩:∃ m,n=m+1:=⟨n - 1,by omega⟩
    have h1:j < p.Threads.length:=by omega
    have e:=Nz 1001 (Ip p.Threads[j]) s
    rw [Z6p,if_pos (by omega),Ax rfl h1]
    simp only [Option.bind_some]
    simp only [Ip] at e
    rw [e]
    simp only [Option.bind_some]
    rw [Bf h1 (by omega),List.drop_eq_getElem_cons h1,List.map_cons,List.foldl_cons]
    exact ih (j+1) n (Fb s (Ip p.Threads[j])) (by omega) (by omega)
theorem Vl {p:api_Prog} (hp:SmallP p):Z6h 1001 p=some ((N1 p).foldl Fb ([],0,false)):=by
  have h1:=hp.locks
  have h2:=hp.threads
  unfold Z6h Z67
  simp only [Option.bind_some]
  rw [Qx _ _ hp,Kh p (Iw p) ([],0,false)]
  simp only [Option.bind_some]
  unfold N1
  rw [List.foldl_append,List.foldl_append]
  generalize ((Iw p).map (Hh p.Lines.length)).foldl Fb ([],0,false)=s
  obtain ⟨m,a,t⟩:=s
  have e1:=N7 (p:=p) (by omega) (Z6m 1001 p) p.Locks.length 0 1001 (m,a,t) (by omega) (by omega)
  simp only [List.drop_zero] at e1
  refine e1.trans ?_
  generalize (p.Locks.map Mo).foldl Fb (m,a,t)=s
  have e2:=Lw (p:=p) (by omega) Z6n p.Threads.length 0 1001 s (by omega) (by omega)
  simp only [List.drop_zero] at e2
  exact e2
def Ef:List (Str×Int)→List Str→Option Int
  | [],_=>none
  | e :: r,seen=>if e.1∈seen then some e.2 else Ef r (seen ++ [e.1])
theorem Pd:∀ (l:List Ent) (m:List (Str×Int)) (a:Int),∃ m',l.foldl Fb (m,a,true)=(m',a,true)
  | [],m,a=>⟨m,rfl⟩
  | e :: l, m, a => by
    simp only [List.foldl_cons,Fb,Bool.not_true,Bool.and_false]
    exact Pd l _ a
theorem Rx:∀ (l:List Ent) (m:List (Str×Int)) (a:Int),(∀ e∈m,e.2≠0)→(∀ e∈l,e.2.1≠0)→
    (∀ v,Ef (l.map fun e=>(e.1,e.2.2)) (m.map (·.1))=some v→∃ m',l.foldl Fb (m,a,false)=(m',v,true))∧
    (Ef (l.map fun e=>(e.1,e.2.2)) (m.map (·.1))=none→l.foldl Fb (m,a,false)=(m ++ l.map fun e=>(e.1,e.2.1),a,false))
  | [],m,a,_,_=>⟨fun v h=>by simp [Ef] at h,fun _=>by simp⟩
  | e :: l, m, a, hm, hl => by
    simp only [List.map_cons,Ef,List.foldl_cons]
    by_cases h:e.1∈m.map (·.1)
    · rw [if_pos h]
      have h':(Bd e.1 m).getD 0≠0:=(Ju hm _).2 h
      refine ⟨fun v hv=>?_,fun hv=>by cases hv⟩
      injection hv with hv
      subst hv
      simp only [Fb,decide_eq_true h',Bool.not_false,Bool.and_self,if_true]
      exact Pd l _ _
    · rw [if_neg h]
      have h' : ¬ (Bd e.1 m).getD 0≠0:=fun q=>h ((Ju hm _).1 q)
      have e1:Fb (m,a,false) e=(m ++ [(e.1,e.2.1)],a,false):=by
        simp only [Fb,decide_eq_false h',Bool.false_and]
        rw [Ol h];rfl
      rw [e1]
      have:=Rx l (m ++ [(e.1,e.2.1)]) a (fun x hx=>by
        rcases List.mem_append.1 hx with hx | hx
        · exact hm x hx
        · simp only [List.mem_cons, List.not_mem_nil, or_false] at hx
          subst hx;exact hl e (.head _)) (fun x hx=>hl x (.tail _ hx))
      simp only [List.map_append,List.map_cons,List.map_nil] at this
      refine ⟨this.1,fun q=>?_⟩
      rw [this.2 q,List.append_assoc];rfl
theorem Yo {p:api_Prog}:∀ e∈N1 p,e.2.1≠0:=by
  intro e he
  simp only [N1,List.mem_append,List.mem_map] at he
  rcases he with ⟨x,_,rfl⟩ | ⟨x,_,rfl⟩ | ⟨x,_,rfl⟩
  · unfold Hh;simp only;split <;> decide
  · show (3:Int)≠0;decide
  · show (4:Int)≠0;decide
def Dx (p:api_Prog):List (Str×Int):=(Cb p).map (fun c=>(c.Name,c.At)) ++ (p.Locks.map (fun c=>(c.Name,c.At)) ++ p.Threads.map fun t=>(t.Name,t.At))
theorem Tj (p:api_Prog):(N1 p).map (fun e=>(e.1,e.2.2))=Dx p:=by
  simp only [N1,Dx,List.map_append,List.map_map,← Ld]
  rfl
def Jo (p:api_Prog):List (Str×Int):=(N1 p).map fun e=>(e.1,e.2.1)
theorem Tk {p:api_Prog} (hp:SmallP p) :
    (∀ v,Ef (Dx p) []=some v→∃ m,Z6h 1001 p=some (m,v,true))∧(Ef (Dx p) []=none→Z6h 1001 p=some (Jo p,0,false)):=by
  have h:=Rx (N1 p) [] 0 (fun e he=>by cases he) Yo
  rw [Tj] at h
  rw [Vl hp]
  refine ⟨fun v hv=>?_,fun hv=>?_⟩
  · obtain ⟨m,hm⟩:=h.1 v hv;exact ⟨m,by rw [hm]⟩
  · rw [h.2 hv];rfl
theorem Pb:∀ (a b:List Str) (s:Str) (k:Nat),Fg (a ++ b) s k=if s∈a then Fg a s k else Fg b s (k+a.length)
  | [],b,s,k=>by simp
  | x :: a, b, s, k => by
    simp only [List.cons_append,Fg,List.mem_cons,List.length_cons]
    by_cases h:x=s
    · rw [if_pos h,if_pos (.inl h.symm),if_pos h]
    · rw [if_neg h, if_neg h, Pb a b s (k + 1)]
      by_cases h2:s∈a
      · rw [if_pos h2,if_pos (.inr h2)]
      · rw [if_neg h2, if_neg (by rintro (q | q); exact h q.symm; exact h2 q)]
        congr 1;omega
end Go.MD.LB
