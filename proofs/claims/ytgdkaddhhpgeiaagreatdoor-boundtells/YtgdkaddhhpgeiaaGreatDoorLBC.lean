/- What names are, and the first one that is there twice. No condition: plain lemmas. -/
import Derived.Test.YtgdkaddhhpgeiaaGreatDoorLBY
namespace Go.MD.LB
open Go Go.MD
theorem Hw {m1 m2:List (Str×Int)} {k:Str}:Bf k (m1 ++ m2)=(Bf k m1).or (Bf k m2):=by
  induction m1 with
  | nil=>simp [Bf]
  | cons x r ih =>
    simp only [List.cons_append,Bf]
    split
    · simp
    · exact ih
theorem It {m:List (Str×Int)} {k:Str}:Bf k m=none↔k ∉ m.map (·.1):=by
  induction m with
  | nil=>simp [Bf]
  | cons x r ih =>
    simp only [Bf,List.map_cons,List.mem_cons,not_or]
    split
    · rename_i h;simp [h]
    · rename_i h;rw [ih];simp [h]
theorem Tl {m:List (Str×Int)} {k:Str} {v:Int} (h:Bf k m=some v):∃ e∈m,e.2=v:=by
  induction m with
  | nil=>simp [Bf] at h
  | cons x r ih =>
    simp only [Bf] at h
    split at h
    · exact ⟨x,.head _,Option.some.inj h⟩
    · obtain ⟨e,h1,h2⟩:=ih h;exact ⟨e,.tail _ h1,h2⟩
theorem Kp {m:List (Str×Int)} (hm:∀ e∈m,e.2≠0) (k:Str):(Bf k m).getD 0≠0↔k∈m.map (·.1):=by
  cases h:Bf k m with
  | none=>have:=It.1 h;simp [this]
  | some v =>
    obtain ⟨e,h1,h2⟩:=Tl h
    have h3:=hm e h1
    have h4:k∈m.map (·.1):=Decidable.byContradiction fun h5=>by rw [It.2 h5] at h;cases h
    simp only [Option.getD_some,h4,iff_true]
    exact h2 ▸ h3
theorem Pt {m:List (Str×Int)} {k:Str} {v:Int} (h:k ∉ m.map (·.1)):Is k v m=m ++ [(k,v)]:=by
  unfold Is;rw [It.2 h];rfl
theorem Dj {α:Type} {l:List α} {f:α→Str} {v:Int} {k:Str}:Bf k (l.map fun x=>(f x,v))=if k∈l.map f then some v else none:=by
  induction l with
  | nil=>rfl
  | cons x r ih =>
    simp only [List.map_cons,Bf,List.mem_cons]
    by_cases h:k=f x
    · rw [if_pos h,if_pos (.inl h)]
    · rw [if_neg h, ih]
      simp [h]
abbrev NSt:=List (Str×Int)×Int×Bool
abbrev Ent:=Str×Int×Int
def Ge (s:NSt) (e:Ent):NSt:=
  if ((decide (((Bf e.1 s.1).getD 0)≠0)) && (!s.2.2))=true then (Is e.1 e.2.1 s.1,e.2.2,true) else (Is e.1 e.2.1 s.1,s.2.1,s.2.2)
theorem Nw (N:Nat) (e:Ent) (s:NSt):Z8r N e.1 e.2.1 e.2.2 s.1 s.2.2 s.2.1=some ((Ge s e).1,(Ge s e).2.2,(Ge s e).2.1):=by
  unfold Z8r Ge
  split <;> rfl
def Ij (n:Nat) (x:api_Cell×Int):Ent:=(x.1.Name,if (n:Int)≤x.2 then 2 else 1,x.1.At)
def Nl (c:api_Cell):Ent:=(c.Name,3,c.At)
def Ix (t:api_Thread):Ent:=(t.Name,4,t.At)
def N4 (p:api_Prog):List Ent:=(Qc p).map (Ij p.Lines.length) ++ (p.Locks.map Nl ++ p.Threads.map Ix)
theorem Lo (p:api_Prog):∀ (l:List (api_Cell×Int)) (s:NSt),Oo (yy (fun (s:NSt) (x:api_Cell×Int)=>(Z8t 1001 p) s.1 s.2.1 s.2.2 x)) l (.inl s)=some (.inl ((l.map (Ij p.Lines.length)).foldl Ge s))
  | [],s=>rfl
  | x :: l, s => by
    have e:Z8t 1001 p s.1 s.2.1 s.2.2 x=some (.inl (Ge s (Ij p.Lines.length x))):=by
      unfold Z8t Ij
      split
      · have := Nw 1001 (x.1.Name, 2, x.1.At) s
        rw [Z8u,this];rfl
      · have := Nw 1001 (x.1.Name, 1, x.1.At) s
        rw [Z8u,this];rfl
    simp only [Oo,yy,e,Option.map_some,Option.bind_some,Sum.isLeft_inl,if_true]
    exact Lo p l _
theorem Pl {p:api_Prog} (hK:p.Locks.length≤1000) (k:List (Str×Int)→Int→Bool→Option NSt):∀ (d j n:Nat) (s:NSt),j+d=p.Locks.length→d < n→
    Z8x 1001 k p n s.1 s.2.1 s.2.2 (j:Int)=(fun t:NSt=>k t.1 t.2.1 t.2.2) (((p.Locks.drop j).map Nl).foldl Ge s):=by
  intro d
  induction d with
  | zero =>
    intro j n s hj hn
    obtain ⟨n,rfl⟩:∃ m,n=m+1:=⟨n - 1,by omega⟩
    rw [Z8x,if_neg (by omega),List.drop_of_length_le (by omega)]
    rfl
  | succ d ih =>
    intro j n s hj hn
    obtain ⟨n,rfl⟩:∃ m,n=m+1:=⟨n - 1,by omega⟩
    have h1:j < p.Locks.length:=by omega
    have e:=Nw 1001 (Nl p.Locks[j]) s
    rw [Z8x,if_pos (by omega),As rfl h1]
    simp only [Option.bind_some]
    simp only [Nl] at e
    rw [e]
    simp only [Option.bind_some]
    rw [Be h1 (by omega),List.drop_eq_getElem_cons h1,List.map_cons,List.foldl_cons]
    exact ih (j+1) n (Ge s (Nl p.Locks[j])) (by omega) (by omega)
theorem Mk {p:api_Prog} (hK:p.Threads.length≤1000) (k:List (Str×Int)→Int→Bool→Option NSt):∀ (d j n:Nat) (s:NSt),j+d=p.Threads.length→d < n→
    Z8y 1001 k p n s.1 s.2.1 s.2.2 (j:Int)=(fun t:NSt=>k t.1 t.2.1 t.2.2) (((p.Threads.drop j).map Ix).foldl Ge s):=by
  intro d
  induction d with
  | zero =>
    intro j n s hj hn
    obtain ⟨n,rfl⟩:∃ m,n=m+1:=⟨n - 1,by omega⟩
    rw [Z8y,if_neg (by omega),List.drop_of_length_le (by omega)]
    rfl
  | succ d ih =>
    intro j n s hj hn
    obtain ⟨n,rfl⟩:∃ m,n=m+1:=⟨n - 1,by omega⟩
    have h1:j < p.Threads.length:=by omega
    have e:=Nw 1001 (Ix p.Threads[j]) s
    rw [Z8y,if_pos (by omega),As rfl h1]
    simp only [Option.bind_some]
    simp only [Ix] at e
    rw [e]
    simp only [Option.bind_some]
    rw [Be h1 (by omega),List.drop_eq_getElem_cons h1,List.map_cons,List.foldl_cons]
    exact ih (j+1) n (Ge s (Ix p.Threads[j])) (by omega) (by omega)
theorem Xl {p:api_Prog} (hp:SmallP p):Z8q 1001 p=some ((N4 p).foldl Ge ([],0,false)):=by
  have h1:=hp.locks
  have h2:=hp.threads
  unfold Z8q Z8g
  simp only [Option.bind_some]
  rw [JaJ _ _ hp,Lo p (Qc p) ([],0,false)]
  simp only [Option.bind_some]
  unfold N4
  rw [List.foldl_append,List.foldl_append]
  generalize ((Qc p).map (Ij p.Lines.length)).foldl Ge ([],0,false)=s
  obtain ⟨m,a,t⟩:=s
  have e1:=Pl (p:=p) (by omega) (Z8v 1001 p) p.Locks.length 0 1001 (m,a,t) (by omega) (by omega)
  simp only [List.drop_zero] at e1
  refine e1.trans ?_
  generalize (p.Locks.map Nl).foldl Ge (m,a,t)=s
  have e2:=Mk (p:=p) (by omega) Z8w p.Threads.length 0 1001 s (by omega) (by omega)
  simp only [List.drop_zero] at e2
  exact e2
def Ev:List (Str×Int)→List Str→Option Int
  | [],_=>none
  | e :: r,seen=>if e.1∈seen then some e.2 else Ev r (seen ++ [e.1])
theorem Px:∀ (l:List Ent) (m:List (Str×Int)) (a:Int),∃ m',l.foldl Ge (m,a,true)=(m',a,true)
  | [],m,a=>⟨m,rfl⟩
  | e :: l, m, a => by
    simp only [List.foldl_cons,Ge,Bool.not_true,Bool.and_false]
    exact Px l _ a
theorem Sd:∀ (l:List Ent) (m:List (Str×Int)) (a:Int),(∀ e∈m,e.2≠0)→(∀ e∈l,e.2.1≠0)→
    (∀ v,Ev (l.map fun e=>(e.1,e.2.2)) (m.map (·.1))=some v→∃ m',l.foldl Ge (m,a,false)=(m',v,true))∧
    (Ev (l.map fun e=>(e.1,e.2.2)) (m.map (·.1))=none→l.foldl Ge (m,a,false)=(m ++ l.map fun e=>(e.1,e.2.1),a,false))
  | [],m,a,_,_=>⟨fun v h=>by simp [Ev] at h,fun _=>by simp⟩
  | e :: l, m, a, hm, hl => by
    simp only [List.map_cons,Ev,List.foldl_cons]
    by_cases h:e.1∈m.map (·.1)
    · rw [if_pos h]
      have h':(Bf e.1 m).getD 0≠0:=(Kp hm _).2 h
      refine ⟨fun v hv=>?_,fun hv=>by cases hv⟩
      injection hv with hv
      subst hv
      simp only [Ge,decide_eq_true h',Bool.not_false,Bool.and_self,if_true]
      exact Px l _ _
    · rw [if_neg h]
      have h' : ¬ (Bf e.1 m).getD 0≠0:=fun q=>h ((Kp hm _).1 q)
      have e1:Ge (m,a,false) e=(m ++ [(e.1,e.2.1)],a,false):=by
        simp only [Ge,decide_eq_false h',Bool.false_and]
        rw [Pt h];rfl
      rw [e1]
      have:=Sd l (m ++ [(e.1,e.2.1)]) a (fun x hx=>by
        rcases List.mem_append.1 hx with hx | hx
        · exact hm x hx
        · simp only [List.mem_cons, List.not_mem_nil, or_false] at hx
          subst hx;exact hl e (.head _)) (fun x hx=>hl x (.tail _ hx))
      simp only [List.map_append,List.map_cons,List.map_nil] at this
      refine ⟨this.1,fun q=>?_⟩
      rw [this.2 q,List.append_assoc];rfl
theorem Jbf {p:api_Prog}:∀ e∈N4 p,e.2.1≠0:=by
  intro e he
  simp only [N4,List.mem_append,List.mem_map] at he
  rcases he with ⟨x,_,rfl⟩ | ⟨x,_,rfl⟩ | ⟨x,_,rfl⟩
  · unfold Ij;simp only;split <;> decide
  · show (3:Int)≠0;decide
  · show (4:Int)≠0;decide
def Dv (p:api_Prog):List (Str×Int):=(Ce p).map (fun c=>(c.Name,c.At)) ++ (p.Locks.map (fun c=>(c.Name,c.At)) ++ p.Threads.map fun t=>(t.Name,t.At))
theorem Ul (p:api_Prog):(N4 p).map (fun e=>(e.1,e.2.2))=Dv p:=by
  simp only [N4,Dv,List.map_append,List.map_map,← Xp]
  rfl
def Kh (p:api_Prog):List (Str×Int):=(N4 p).map fun e=>(e.1,e.2.1)
theorem Tp {p:api_Prog} (hp:SmallP p) :
    (∀ v,Ev (Dv p) []=some v→∃ m,Z8q 1001 p=some (m,v,true))∧(Ev (Dv p) []=none→Z8q 1001 p=some (Kh p,0,false)):=by
  have h:=Sd (N4 p) [] 0 (fun e he=>by cases he) Jbf
  rw [Ul] at h
  rw [Xl hp]
  refine ⟨fun v hv=>?_,fun hv=>?_⟩
  · obtain ⟨m,hm⟩:=h.1 v hv;exact ⟨m,by rw [hm]⟩
  · rw [h.2 hv];rfl
theorem Lb:∀ (a b:List Str) (s:Str) (k:Nat),Ee (a ++ b) s k=if s∈a then Ee a s k else Ee b s (k+a.length)
  | [],b,s,k=>by simp
  | x :: a, b, s, k => by
    simp only [List.cons_append,Ee,List.mem_cons,List.length_cons]
    by_cases h:x=s
    · rw [if_pos h,if_pos (.inl h.symm),if_pos h]
    · rw [if_neg h, if_neg h, Lb a b s (k + 1)]
      by_cases h2:s∈a
      · rw [if_pos h2,if_pos (.inr h2)]
      · rw [if_neg h2, if_neg (by rintro (q | q); exact h q.symm; exact h2 q)]
        congr 1;omega
theorem Kz {l:List Str} {j:Nat} (hj:j < l.length):Ee l (l[j]'hj) 0 < (j:Int)↔(l[j]'hj)∈l.take j:=by
  have e:l=l.take j ++ l.drop j:=(List.take_append_drop j l).symm
  have hlen:(l.take j).length=j:=by rw [List.length_take];omega
  have e2:Ee l (l[j]'hj) 0=Ee (l.take j ++ l.drop j) (l[j]'hj) 0:=by rw [← e]
  rw [e2,Lb]
  by_cases h:(l[j]'hj)∈l.take j
  · rw [if_pos h]
    have:=((Dz (l.take j) (l[j]'hj) 0).2 h).2
    rw [hlen] at this
    exact ⟨fun _=>h,fun _=>by omega⟩
  · rw [if_neg h, List.drop_eq_getElem_cons hj, Ee, if_pos rfl, hlen]
    exact ⟨fun q=>by omega,fun q=>absurd q h⟩
theorem Fz {l:List Str} {s:Str}:0≤Ee l s 0↔s∈l:=(Dz l s 0).1
def Uo (c:api_Cell):Str×Int:=(c.Name,c.At)
theorem Wt {l:List api_Cell} (hl:l.length≤200):∀ (d j n:Nat),j+d=l.length→d < n→Z7h 1001 Z7f l (l.map (·.Name)) n (j:Int)=some ((Ev ((l.drop j).map Uo) ((l.take j).map (·.Name))).getD (-1)):=by
  intro d
  induction d with
  | zero =>
    intro j n hj hn
    obtain ⟨n,rfl⟩:∃ m,n=m+1:=⟨n - 1,by omega⟩
    rw [Z7h,if_neg (by omega),List.drop_of_length_le (by omega)]
    rfl
  | succ d ih =>
    intro j n hj hn
    obtain ⟨n,rfl⟩:∃ m,n=m+1:=⟨n - 1,by omega⟩
    have h1:j < l.length:=by omega
    rw [Z7h,if_pos (by omega),As rfl h1]
    simp only [Option.bind_some]
    rw [Ew (by simp;omega) (by simp;omega)]
    simp only [Option.bind_some]
    rw [List.drop_eq_getElem_cons h1,List.map_cons,Ev]
    have hb:=Kz (l:=l.map (·.Name)) (j:=j) (by simpa using h1)
    rw [List.getElem_map,← List.map_take] at hb
    by_cases h:l[j].Name∈(l.take j).map (·.Name)
    · have h' : (Uo l[j]).1 ∈ (l.take j).map (·.Name) := h
      rw [if_pos (hb.2 h),if_pos h'];rfl
    · have h' : ¬ (Uo l[j]).1 ∈ (l.take j).map (·.Name) := h
      rw [if_neg (fun q=>h (hb.1 q)),if_neg h',Be h1 (by omega),ih (j+1) n (by omega) (by omega),List.take_succ_eq_append_getElem h1,List.map_append]
      rfl
theorem Uy {p:api_Prog} (hT:p.Threads.length≤100) (k:List api_Cell→Option Int):∀ (d j n:Nat) (out:List api_Cell),j+d=p.Threads.length→d < n→out.length≤1000+j→
    Z7g 1001 k p n out (j:Int)=k (out ++ (p.Threads.drop j).map fun t=>api_Cell.mk t.Name 0 t.At):=by
  intro d
  induction d with
  | zero =>
    intro j n out hj hn ho
    obtain ⟨n,rfl⟩:∃ m,n=m+1:=⟨n - 1,by omega⟩
    rw [Z7g,if_neg (by omega),List.drop_of_length_le (by omega)]
    simp
  | succ d ih =>
    intro j n out hj hn ho
    obtain ⟨n,rfl⟩:∃ m,n=m+1:=⟨n - 1,by omega⟩
    have h1:j < p.Threads.length:=by omega
    rw [Z7g,if_pos (by omega),As rfl h1]
    simp only [Option.bind_some]
    rw [Cg (by simp;omega) (by decide)]
    simp only [Option.bind_some]
    rw [Be h1 (by omega),ih (j+1) n _ (by omega) (by omega) (by simp;omega),List.drop_eq_getElem_cons h1,List.map_cons,List.append_assoc]
    rfl
theorem Uq {p:api_Prog} (hp:SmallP p):Z7d 1001 p=some ((Ev (Dv p) []).getD (-1)):=by
  have h1:=hp.locks
  have h2:=hp.threads
  have hC:=Eb hp
  unfold Z7d
  rw [Ql hp]
  simp only [Option.bind_some]
  rw [Cg (by simp;omega) (by decide)]
  simp only [Option.bind_some,List.nil_append]
  rw [Cg (by omega) (by decide)]
  simp only [Option.bind_some]
  rw [show (0:Int)=((0:Nat):Int) from rfl,Uy (by omega) _ p.Threads.length 0 1001 _ (by omega) (by omega) (by simp;omega),List.drop_zero,Z7e]
  have hl:(Ce p ++ p.Locks ++ p.Threads.map fun t=>api_Cell.mk t.Name 0 t.At).length≤200:=by simp;omega
  rw [Kr hl]
  simp only [Option.bind_some]
  have e:=Wt hl _ 0 1001 (Nat.zero_add _) (by omega)
  rw [List.drop_zero,List.take_zero] at e
  refine Eq.trans e ?_
  congr 2
  unfold Dv
  simp only [List.map_append,List.append_assoc,List.map_map]
  rfl
end Go.MD.LB
