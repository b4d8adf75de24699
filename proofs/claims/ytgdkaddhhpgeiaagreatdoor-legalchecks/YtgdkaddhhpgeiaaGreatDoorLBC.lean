/- What names are, and the first one that is there twice. No condition: plain lemmas. -/
import Derived.Test.YtgdkaddhhpgeiaaGreatDoorLBY
namespace Go.MD.LB
open Go Go.MD
theorem Hv {m1 m2:List (Str×Int)} {k:Str}:Be k (m1 ++ m2)=(Be k m1).or (Be k m2):=by
  induction m1 with
  | nil=>simp [Be]
  | cons x r ih =>
    simp only [List.cons_append,Be]
    split
    · simp
    · exact ih
theorem Ip {m:List (Str×Int)} {k:Str}:Be k m=none↔k ∉ m.map (·.1):=by
  induction m with
  | nil=>simp [Be]
  | cons x r ih =>
    simp only [Be,List.map_cons,List.mem_cons,not_or]
    split
    · rename_i h;simp [h]
    · rename_i h;rw [ih];simp [h]
theorem Sw {m:List (Str×Int)} {k:Str} {v:Int} (h:Be k m=some v):∃ e∈m,e.2=v:=by
  induction m with
  | nil=>simp [Be] at h
  | cons x r ih =>
    simp only [Be] at h
    split at h
    · exact ⟨x,.head _,Option.some.inj h⟩
    · obtain ⟨e,h1,h2⟩:=ih h;exact ⟨e,.tail _ h1,h2⟩
theorem Kb {m:List (Str×Int)} (hm:∀ e∈m,e.2≠0) (k:Str):(Be k m).getD 0≠0↔k∈m.map (·.1):=by
  cases h:Be k m with
  | none=>have:=Ip.1 h;simp [this]
  | some v =>
    obtain ⟨e,h1,h2⟩:=Sw h
    have h3:=hm e h1
    have h4:k∈m.map (·.1):=Decidable.byContradiction fun h5=>by rw [Ip.2 h5] at h;cases h
    simp only [Option.getD_some,h4,iff_true]
    exact h2 ▸ h3
theorem Og {m:List (Str×Int)} {k:Str} {v:Int} (h:k ∉ m.map (·.1)):Ih k v m=m ++ [(k,v)]:=by
  unfold Ih;rw [Ip.2 h];rfl
theorem Da {α:Type} {l:List α} {f:α→Str} {v:Int} {k:Str}:Be k (l.map fun x=>(f x,v))=if k∈l.map f then some v else none:=by
  induction l with
  | nil=>rfl
  | cons x r ih =>
    simp only [List.map_cons,Be,List.mem_cons]
    by_cases h:k=f x
    · rw [if_pos h,if_pos (.inl h)]
    · rw [if_neg h, ih]
      simp [h]
abbrev NSt:=List (Str×Int)×Int×Bool
abbrev Ent:=Str×Int×Int
def Ga (s:NSt) (e:Ent):NSt:=
  if ((decide (((Be e.1 s.1).getD 0)≠0)) && (!s.2.2))=true then (Ih e.1 e.2.1 s.1,e.2.2,true) else (Ih e.1 e.2.1 s.1,s.2.1,s.2.2)
theorem Nt (N:Nat) (e:Ent) (s:NSt):Z84 N e.1 e.2.1 e.2.2 s.1 s.2.2 s.2.1=some ((Ga s e).1,(Ga s e).2.2,(Ga s e).2.1):=by
  unfold Z84 Ga
  split <;> rfl
def Ie (n:Nat) (x:api_Cell×Int):Ent:=(x.1.Name,if (n:Int)≤x.2 then 2 else 1,x.1.At)
def Mn (c:api_Cell):Ent:=(c.Name,3,c.At)
def Iu (t:api_Thread):Ent:=(t.Name,4,t.At)
def Ng (p:api_Prog):List Ent:=(Ol p).map (Ie p.Lines.length) ++ (p.Locks.map Mn ++ p.Threads.map Iu)
theorem Li (p:api_Prog):∀ (l:List (api_Cell×Int)) (s:NSt),Om (yy (fun (s:NSt) (x:api_Cell×Int)=>(Z86 1001 p) s.1 s.2.1 s.2.2 x)) l (.inl s)=some (.inl ((l.map (Ie p.Lines.length)).foldl Ga s))
  | [],s=>rfl
  | x :: l, s => by
    have e:Z86 1001 p s.1 s.2.1 s.2.2 x=some (.inl (Ga s (Ie p.Lines.length x))):=by
      unfold Z86 Ie
      split
      · have := Nt 1001 (x.1.Name, 2, x.1.At) s
        rw [Z87,this];rfl
      · have := Nt 1001 (x.1.Name, 1, x.1.At) s
        rw [Z87,this];rfl
    simp only [Om,yy,e,Option.map_some,Option.bind_some,Sum.isLeft_inl,if_true]
    exact Li p l _
theorem Oa {p:api_Prog} (hK:p.Locks.length≤1000) (k:List (Str×Int)→Int→Bool→Option NSt):∀ (d j n:Nat) (s:NSt),j+d=p.Locks.length→d < n→
    Z8a 1001 k p n s.1 s.2.1 s.2.2 (j:Int)=(fun t:NSt=>k t.1 t.2.1 t.2.2) (((p.Locks.drop j).map Mn).foldl Ga s):=by
  intro d
  induction d with
  | zero =>
    intro j n s hj hn
    obtain ⟨n,rfl⟩:∃ m,n=m+1:=⟨n - 1,by omega⟩
    rw [Z8a,if_neg (by omega),List.drop_of_length_le (by omega)]
    rfl
  | succ d ih =>
    intro j n s hj hn
    obtain ⟨n,rfl⟩:∃ m,n=m+1:=⟨n - 1,by omega⟩
    have h1:j < p.Locks.length:=by omega
    have e:=Nt 1001 (Mn p.Locks[j]) s
    rw [Z8a,if_pos (by omega),As rfl h1]
    simp only [Option.bind_some]
    simp only [Mn] at e
    rw [e]
    simp only [Option.bind_some]
    rw [Bf h1 (by omega),List.drop_eq_getElem_cons h1,List.map_cons,List.foldl_cons]
    exact ih (j+1) n (Ga s (Mn p.Locks[j])) (by omega) (by omega)
theorem Mb {p:api_Prog} (hK:p.Threads.length≤1000) (k:List (Str×Int)→Int→Bool→Option NSt):∀ (d j n:Nat) (s:NSt),j+d=p.Threads.length→d < n→
    Z8b 1001 k p n s.1 s.2.1 s.2.2 (j:Int)=(fun t:NSt=>k t.1 t.2.1 t.2.2) (((p.Threads.drop j).map Iu).foldl Ga s):=by
  intro d
  induction d with
  | zero =>
    intro j n s hj hn
    obtain ⟨n,rfl⟩:∃ m,n=m+1:=⟨n - 1,by omega⟩
    rw [Z8b,if_neg (by omega),List.drop_of_length_le (by omega)]
    rfl
  | succ d ih =>
    intro j n s hj hn
    obtain ⟨n,rfl⟩:∃ m,n=m+1:=⟨n - 1,by omega⟩
    have h1:j < p.Threads.length:=by omega
    have e:=Nt 1001 (Iu p.Threads[j]) s
    rw [Z8b,if_pos (by omega),As rfl h1]
    simp only [Option.bind_some]
    simp only [Iu] at e
    rw [e]
    simp only [Option.bind_some]
    rw [Bf h1 (by omega),List.drop_eq_getElem_cons h1,List.map_cons,List.foldl_cons]
    exact ih (j+1) n (Ga s (Iu p.Threads[j])) (by omega) (by omega)
theorem Vp {p:api_Prog} (hp:SmallP p):Z83 1001 p=some ((Ng p).foldl Ga ([],0,false)):=by
  have h1:=hp.locks
  have h2:=hp.threads
  unfold Z83 Z7t
  simp only [Option.bind_some]
  rw [Jaf _ _ hp,Li p (Ol p) ([],0,false)]
  simp only [Option.bind_some]
  unfold Ng
  rw [List.foldl_append,List.foldl_append]
  generalize ((Ol p).map (Ie p.Lines.length)).foldl Ga ([],0,false)=s
  obtain ⟨m,a,t⟩:=s
  have e1:=Oa (p:=p) (by omega) (Z88 1001 p) p.Locks.length 0 1001 (m,a,t) (by omega) (by omega)
  simp only [List.drop_zero] at e1
  refine e1.trans ?_
  generalize (p.Locks.map Mn).foldl Ga (m,a,t)=s
  have e2:=Mb (p:=p) (by omega) Z89 p.Threads.length 0 1001 s (by omega) (by omega)
  simp only [List.drop_zero] at e2
  exact e2
def Ep:List (Str×Int)→List Str→Option Int
  | [],_=>none
  | e :: r,seen=>if e.1∈seen then some e.2 else Ep r (seen ++ [e.1])
theorem Pb:∀ (l:List Ent) (m:List (Str×Int)) (a:Int),∃ m',l.foldl Ga (m,a,true)=(m',a,true)
  | [],m,a=>⟨m,rfl⟩
  | e :: l, m, a => by
    simp only [List.foldl_cons,Ga,Bool.not_true,Bool.and_false]
    exact Pb l _ a
theorem Ra:∀ (l:List Ent) (m:List (Str×Int)) (a:Int),(∀ e∈m,e.2≠0)→(∀ e∈l,e.2.1≠0)→
    (∀ v,Ep (l.map fun e=>(e.1,e.2.2)) (m.map (·.1))=some v→∃ m',l.foldl Ga (m,a,false)=(m',v,true))∧
    (Ep (l.map fun e=>(e.1,e.2.2)) (m.map (·.1))=none→l.foldl Ga (m,a,false)=(m ++ l.map fun e=>(e.1,e.2.1),a,false))
  | [],m,a,_,_=>⟨fun v h=>by simp [Ep] at h,fun _=>by simp⟩
  | e :: l, m, a, hm, hl => by
    simp only [List.map_cons,Ep,List.foldl_cons]
    by_cases h:e.1∈m.map (·.1)
    · rw [if_pos h]
      have h':(Be e.1 m).getD 0≠0:=(Kb hm _).2 h
      refine ⟨fun v hv=>?_,fun hv=>by cases hv⟩
      injection hv with hv
      subst hv
      simp only [Ga,decide_eq_true h',Bool.not_false,Bool.and_self,if_true]
      exact Pb l _ _
    · rw [if_neg h]
      have h' : ¬ (Be e.1 m).getD 0≠0:=fun q=>h ((Kb hm _).1 q)
      have e1:Ga (m,a,false) e=(m ++ [(e.1,e.2.1)],a,false):=by
        simp only [Ga,decide_eq_false h',Bool.false_and]
        rw [Og h];rfl
      rw [e1]
      have:=Ra l (m ++ [(e.1,e.2.1)]) a (fun x hx=>by
        rcases List.mem_append.1 hx with hx | hx
        · exact hm x hx
        · simp only [List.mem_cons, List.not_mem_nil, or_false] at hx
          subst hx;exact hl e (.head _)) (fun x hx=>hl x (.tail _ hx))
      simp only [List.map_append,List.map_cons,List.map_nil] at this
      refine ⟨this.1,fun q=>?_⟩
      rw [this.2 q,List.append_assoc];rfl
theorem Yv {p:api_Prog}:∀ e∈Ng p,e.2.1≠0:=by
  intro e he
  simp only [Ng,List.mem_append,List.mem_map] at he
  rcases he with ⟨x,_,rfl⟩ | ⟨x,_,rfl⟩ | ⟨x,_,rfl⟩
  · unfold Ie;simp only;split <;> decide
  · show (3:Int)≠0;decide
  · show (4:Int)≠0;decide
def Dw (p:api_Prog):List (Str×Int):=(Cc p).map (fun c=>(c.Name,c.At)) ++ (p.Locks.map (fun c=>(c.Name,c.At)) ++ p.Threads.map fun t=>(t.Name,t.At))
theorem Ss (p:api_Prog):(Ng p).map (fun e=>(e.1,e.2.2))=Dw p:=by
  simp only [Ng,Dw,List.map_append,List.map_map,← Tt]
  rfl
def Jy (p:api_Prog):List (Str×Int):=(Ng p).map fun e=>(e.1,e.2.1)
theorem Tg {p:api_Prog} (hp:SmallP p) :
    (∀ v,Ep (Dw p) []=some v→∃ m,Z83 1001 p=some (m,v,true))∧(Ep (Dw p) []=none→Z83 1001 p=some (Jy p,0,false)):=by
  have h:=Ra (Ng p) [] 0 (fun e he=>by cases he) Yv
  rw [Ss] at h
  rw [Vp hp]
  refine ⟨fun v hv=>?_,fun hv=>?_⟩
  · obtain ⟨m,hm⟩:=h.1 v hv;exact ⟨m,by rw [hm]⟩
  · rw [h.2 hv];rfl
theorem Ks:∀ (a b:List Str) (s:Str) (k:Nat),Dy (a ++ b) s k=if s∈a then Dy a s k else Dy b s (k+a.length)
  | [],b,s,k=>by simp
  | x :: a, b, s, k => by
    simp only [List.cons_append,Dy,List.mem_cons,List.length_cons]
    by_cases h:x=s
    · rw [if_pos h,if_pos (.inl h.symm),if_pos h]
    · rw [if_neg h, if_neg h, Ks a b s (k + 1)]
      by_cases h2:s∈a
      · rw [if_pos h2,if_pos (.inr h2)]
      · rw [if_neg h2, if_neg (by rintro (q | q); exact h q.symm; exact h2 q)]
        congr 1;omega
theorem Lk {l:List Str} {j:Nat} (hj:j < l.length):Dy l (l[j]'hj) 0 < (j:Int)↔(l[j]'hj)∈l.take j:=by
  have e:l=l.take j ++ l.drop j:=(List.take_append_drop j l).symm
  have hlen:(l.take j).length=j:=by rw [List.length_take];omega
  have e2:Dy l (l[j]'hj) 0=Dy (l.take j ++ l.drop j) (l[j]'hj) 0:=by rw [← e]
  rw [e2,Ks]
  by_cases h:(l[j]'hj)∈l.take j
  · rw [if_pos h]
    have:=((Dt (l.take j) (l[j]'hj) 0).2 h).2
    rw [hlen] at this
    exact ⟨fun _=>h,fun _=>by omega⟩
  · rw [if_neg h, List.drop_eq_getElem_cons hj, Dy, if_pos rfl, hlen]
    exact ⟨fun q=>by omega,fun q=>absurd q h⟩
theorem Fp {l:List Str} {s:Str}:0≤Dy l s 0↔s∈l:=(Dt l s 0).1
def Vx (c:api_Cell):Str×Int:=(c.Name,c.At)
theorem Vb {l:List api_Cell} (hl:l.length≤200):∀ (d j n:Nat),j+d=l.length→d < n→Z6x 1001 Z6v l (l.map (·.Name)) n (j:Int)=some ((Ep ((l.drop j).map Vx) ((l.take j).map (·.Name))).getD (-1)):=by
  intro d
  induction d with
  | zero =>
    intro j n hj hn
    obtain ⟨n,rfl⟩:∃ m,n=m+1:=⟨n - 1,by omega⟩
    rw [Z6x,if_neg (by omega),List.drop_of_length_le (by omega)]
    rfl
  | succ d ih =>
    intro j n hj hn
    obtain ⟨n,rfl⟩:∃ m,n=m+1:=⟨n - 1,by omega⟩
    have h1:j < l.length:=by omega
    rw [Z6x,if_pos (by omega),As rfl h1]
    simp only [Option.bind_some]
    rw [En (by simp;omega) (by simp;omega)]
    simp only [Option.bind_some]
    rw [List.drop_eq_getElem_cons h1,List.map_cons,Ep]
    have hb:=Lk (l:=l.map (·.Name)) (j:=j) (by simpa using h1)
    rw [List.getElem_map,← List.map_take] at hb
    by_cases h:l[j].Name∈(l.take j).map (·.Name)
    · have h' : (Vx l[j]).1 ∈ (l.take j).map (·.Name) := h
      rw [if_pos (hb.2 h),if_pos h'];rfl
    · have h' : ¬ (Vx l[j]).1 ∈ (l.take j).map (·.Name) := h
      rw [if_neg (fun q=>h (hb.1 q)),if_neg h',Bf h1 (by omega),ih (j+1) n (by omega) (by omega),List.take_succ_eq_append_getElem h1,List.map_append]
      rfl
theorem Tl {p:api_Prog} (hT:p.Threads.length≤100) (k:List api_Cell→Option Int):∀ (d j n:Nat) (out:List api_Cell),j+d=p.Threads.length→d < n→out.length≤1000+j→
    Z6w 1001 k p n out (j:Int)=k (out ++ (p.Threads.drop j).map fun t=>api_Cell.mk t.Name 0 t.At):=by
  intro d
  induction d with
  | zero =>
    intro j n out hj hn ho
    obtain ⟨n,rfl⟩:∃ m,n=m+1:=⟨n - 1,by omega⟩
    rw [Z6w,if_neg (by omega),List.drop_of_length_le (by omega)]
    simp
  | succ d ih =>
    intro j n out hj hn ho
    obtain ⟨n,rfl⟩:∃ m,n=m+1:=⟨n - 1,by omega⟩
    have h1:j < p.Threads.length:=by omega
    rw [Z6w,if_pos (by omega),As rfl h1]
    simp only [Option.bind_some]
    rw [Cg (by simp;omega) (by decide)]
    simp only [Option.bind_some]
    rw [Bf h1 (by omega),ih (j+1) n _ (by omega) (by omega) (by simp;omega),List.drop_eq_getElem_cons h1,List.map_cons,List.append_assoc]
    rfl
theorem Tq {p:api_Prog} (hp:SmallP p):Z6t 1001 p=some ((Ep (Dw p) []).getD (-1)):=by
  have h1:=hp.locks
  have h2:=hp.threads
  have hC:=Eb hp
  unfold Z6t
  rw [Qc hp]
  simp only [Option.bind_some]
  rw [Cg (by simp;omega) (by decide)]
  simp only [Option.bind_some,List.nil_append]
  rw [Cg (by omega) (by decide)]
  simp only [Option.bind_some]
  rw [show (0:Int)=((0:Nat):Int) from rfl,Tl (by omega) _ p.Threads.length 0 1001 _ (by omega) (by omega) (by simp;omega),List.drop_zero,Z6u]
  have hl:(Cc p ++ p.Locks ++ p.Threads.map fun t=>api_Cell.mk t.Name 0 t.At).length≤200:=by simp;omega
  rw [Ko hl]
  simp only [Option.bind_some]
  have e:=Vb hl _ 0 1001 (Nat.zero_add _) (by omega)
  rw [List.drop_zero,List.take_zero] at e
  refine Eq.trans e ?_
  congr 2
  unfold Dw
  simp only [List.map_append,List.append_assoc,List.map_map]
  rfl
end Go.MD.LB
