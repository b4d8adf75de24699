/- What names are, and the first one that is there twice. No condition: plain lemmas. -/
import Derived.Test.YtgdkaddhhpgeiaaGreatDoorLBY
namespace Go.MD.LB
open Go Go.MD
theorem plook_app {m1 m2:List (Str×Int)} {k:Str}:plook k (m1 ++ m2)=(plook k m1).or (plook k m2):=by
  induction m1 with
  | nil=>simp [plook]
  | cons x r ih =>
    simp only [List.cons_append,plook]
    split
    · simp
    · exact ih
theorem plook_none {m:List (Str×Int)} {k:Str}:plook k m=none↔k ∉ m.map (·.1):=by
  induction m with
  | nil=>simp [plook]
  | cons x r ih =>
    simp only [plook,List.map_cons,List.mem_cons,not_or]
    split
    · rename_i h;simp [h]
    · rename_i h;rw [ih];simp [h]
theorem plook_val {m:List (Str×Int)} {k:Str} {v:Int} (h:plook k m=some v):∃ e∈m,e.2=v:=by
  induction m with
  | nil=>simp [plook] at h
  | cons x r ih =>
    simp only [plook] at h
    split at h
    · exact ⟨x,.head _,Option.some.inj h⟩
    · obtain ⟨e,h1,h2⟩:=ih h;exact ⟨e,.tail _ h1,h2⟩
theorem look_ne {m:List (Str×Int)} (hm:∀ e∈m,e.2≠0) (k:Str):(plook k m).getD 0≠0↔k∈m.map (·.1):=by
  cases h:plook k m with
  | none=>have:=plook_none.1 h;simp [this]
  | some v =>
    obtain ⟨e,h1,h2⟩:=plook_val h
    have h3:=hm e h1
    have h4:k∈m.map (·.1):=Decidable.byContradiction fun h5=>by rw [plook_none.2 h5] at h;cases h
    simp only [Option.getD_some,h4,iff_true]
    exact h2 ▸ h3
theorem pput_new {m:List (Str×Int)} {k:Str} {v:Int} (h:k ∉ m.map (·.1)):pput k v m=m ++ [(k,v)]:=by
  unfold pput;rw [plook_none.2 h];rfl
theorem look_pairs {α:Type} {l:List α} {f:α→Str} {v:Int} {k:Str}:plook k (l.map fun x=>(f x,v))=if k∈l.map f then some v else none:=by
  induction l with
  | nil=>rfl
  | cons x r ih =>
    simp only [List.map_cons,plook,List.mem_cons]
    by_cases h:k=f x
    · rw [if_pos h,if_pos (.inl h)]
    · rw [if_neg h, ih]
      simp [h]
abbrev NSt:=List (Str×Int)×Int×Bool
abbrev Ent:=Str×Int×Int
def putN (s:NSt) (e:Ent):NSt:=
  if ((decide (((plook e.1 s.1).getD 0)≠0)) && (!s.2.2))=true then (pput e.1 e.2.1 s.1,e.2.2,true) else (pput e.1 e.2.1 s.1,s.2.1,s.2.2)
theorem put_eq (N:Nat) (e:Ent) (s:NSt):Z6n N e.1 e.2.1 e.2.2 s.1 s.2.2 s.2.1=some ((putN s e).1,(putN s e).2.2,(putN s e).2.1):=by
  unfold Z6n putN
  split <;> rfl
def cellE (n:Nat) (x:api_Cell×Int):Ent:=(x.1.Name,if (n:Int)≤x.2 then 2 else 1,x.1.At)
def lockE (c:api_Cell):Ent:=(c.Name,3,c.At)
def threadE (t:api_Thread):Ent:=(t.Name,4,t.At)
def entL (p:api_Prog):List Ent:=(allC p).map (cellE p.Lines.length) ++ (p.Locks.map lockE ++ p.Threads.map threadE)
theorem names_fold (p:api_Prog):∀ (l:List (api_Cell×Int)) (s:NSt),fold (yy (fun (s:NSt) (x:api_Cell×Int)=>(Z6p 1001 p) s.1 s.2.1 s.2.2 x)) l (.inl s)=some (.inl ((l.map (cellE p.Lines.length)).foldl putN s))
  | [],s=>rfl
  | x :: l, s => by
    have e:Z6p 1001 p s.1 s.2.1 s.2.2 x=some (.inl (putN s (cellE p.Lines.length x))):=by
      unfold Z6p cellE
      split
      · have := put_eq 1001 (x.1.Name, 2, x.1.At) s
        rw [Z6q,this];rfl
      · have := put_eq 1001 (x.1.Name, 1, x.1.At) s
        rw [Z6q,this];rfl
    simp only [fold,yy,e,Option.map_some,Option.bind_some,Sum.isLeft_inl,if_true]
    exact names_fold p l _
theorem names_locks {p:api_Prog} (hK:p.Locks.length≤1000) (k:List (Str×Int)→Int→Bool→Option NSt):∀ (d j n:Nat) (s:NSt),j+d=p.Locks.length→d < n→
    Z6t 1001 k p n s.1 s.2.1 s.2.2 (j:Int)=(fun t:NSt=>k t.1 t.2.1 t.2.2) (((p.Locks.drop j).map lockE).foldl putN s):=by
  intro d
  induction d with
  | zero =>
    intro j n s hj hn
    obtain ⟨n,rfl⟩:∃ m,n=m+1:=⟨n - 1,by omega⟩
    rw [Z6t,if_neg (by omega),List.drop_of_length_le (by omega)]
    rfl
  | succ d ih =>
    intro j n s hj hn
    obtain ⟨n,rfl⟩:∃ m,n=m+1:=⟨n - 1,by omega⟩
    have h1:j < p.Locks.length:=by omega
    have e:=put_eq 1001 (lockE p.Locks[j]) s
    rw [Z6t,if_pos (by omega),getI_at rfl h1]
    simp only [Option.bind_some]
    simp only [lockE] at e
    rw [e]
    simp only [Option.bind_some]
    rw [wsucc h1 (by omega),List.drop_eq_getElem_cons h1,List.map_cons,List.foldl_cons]
    exact ih (j+1) n (putN s (lockE p.Locks[j])) (by omega) (by omega)
theorem names_threads {p:api_Prog} (hK:p.Threads.length≤1000) (k:List (Str×Int)→Int→Bool→Option NSt):∀ (d j n:Nat) (s:NSt),j+d=p.Threads.length→d < n→
    Z6u 1001 k p n s.1 s.2.1 s.2.2 (j:Int)=(fun t:NSt=>k t.1 t.2.1 t.2.2) (((p.Threads.drop j).map threadE).foldl putN s):=by
  intro d
  induction d with
  | zero =>
    intro j n s hj hn
    obtain ⟨n,rfl⟩:∃ m,n=m+1:=⟨n - 1,by omega⟩
    rw [Z6u,if_neg (by omega),List.drop_of_length_le (by omega)]
    rfl
  | succ d ih =>
    intro j n s hj hn
    obtain ⟨n,rfl⟩:∃ m,n=m+1:=⟨n - 1,by omega⟩
    have h1:j < p.Threads.length:=by omega
    have e:=put_eq 1001 (threadE p.Threads[j]) s
    rw [Z6u,if_pos (by omega),getI_at rfl h1]
    simp only [Option.bind_some]
    simp only [threadE] at e
    rw [e]
    simp only [Option.bind_some]
    rw [wsucc h1 (by omega),List.drop_eq_getElem_cons h1,List.map_cons,List.foldl_cons]
    exact ih (j+1) n (putN s (threadE p.Threads[j])) (by omega) (by omega)
theorem names_eq {p:api_Prog} (hp:SmallP p):Z6m 1001 p=some ((entL p).foldl putN ([],0,false)):=by
  have h1:=hp.locks
  have h2:=hp.threads
  unfold Z6m Z6c
  simp only [Option.bind_some]
  rw [all_eq _ _ hp,names_fold p (allC p) ([],0,false)]
  simp only [Option.bind_some]
  unfold entL
  rw [List.foldl_append,List.foldl_append]
  generalize ((allC p).map (cellE p.Lines.length)).foldl putN ([],0,false)=s
  obtain ⟨m,a,t⟩:=s
  have e1:=names_locks (p:=p) (by omega) (Z6r 1001 p) p.Locks.length 0 1001 (m,a,t) (by omega) (by omega)
  simp only [List.drop_zero] at e1
  refine e1.trans ?_
  generalize (p.Locks.map lockE).foldl putN (m,a,t)=s
  have e2:=names_threads (p:=p) (by omega) Z6s p.Threads.length 0 1001 s (by omega) (by omega)
  simp only [List.drop_zero] at e2
  exact e2
def dupL:List (Str×Int)→List Str→Option Int
  | [],_=>none
  | e :: r,seen=>if e.1∈seen then some e.2 else dupL r (seen ++ [e.1])
theorem put_true:∀ (l:List Ent) (m:List (Str×Int)) (a:Int),∃ m',l.foldl putN (m,a,true)=(m',a,true)
  | [],m,a=>⟨m,rfl⟩
  | e :: l, m, a => by
    simp only [List.foldl_cons,putN,Bool.not_true,Bool.and_false]
    exact put_true l _ a
theorem put_dup:∀ (l:List Ent) (m:List (Str×Int)) (a:Int),(∀ e∈m,e.2≠0)→(∀ e∈l,e.2.1≠0)→
    (∀ v,dupL (l.map fun e=>(e.1,e.2.2)) (m.map (·.1))=some v→∃ m',l.foldl putN (m,a,false)=(m',v,true))∧
    (dupL (l.map fun e=>(e.1,e.2.2)) (m.map (·.1))=none→l.foldl putN (m,a,false)=(m ++ l.map fun e=>(e.1,e.2.1),a,false))
  | [],m,a,_,_=>⟨fun v h=>by simp [dupL] at h,fun _=>by simp⟩
  | e :: l, m, a, hm, hl => by
    simp only [List.map_cons,dupL,List.foldl_cons]
    by_cases h:e.1∈m.map (·.1)
    · rw [if_pos h]
      have h':(plook e.1 m).getD 0≠0:=(look_ne hm _).2 h
      refine ⟨fun v hv=>?_,fun hv=>by cases hv⟩
      injection hv with hv
      subst hv
      simp only [putN,decide_eq_true h',Bool.not_false,Bool.and_self,if_true]
      exact put_true l _ _
    · rw [if_neg h]
      have h' : ¬ (plook e.1 m).getD 0≠0:=fun q=>h ((look_ne hm _).1 q)
      have e1:putN (m,a,false) e=(m ++ [(e.1,e.2.1)],a,false):=by
        simp only [putN,decide_eq_false h',Bool.false_and]
        rw [pput_new h];rfl
      rw [e1]
      have:=put_dup l (m ++ [(e.1,e.2.1)]) a (fun x hx=>by
        rcases List.mem_append.1 hx with hx | hx
        · exact hm x hx
        · simp only [List.mem_cons, List.not_mem_nil, or_false] at hx
          subst hx;exact hl e (.head _)) (fun x hx=>hl x (.tail _ hx))
      simp only [List.map_append,List.map_cons,List.map_nil] at this
      refine ⟨this.1,fun q=>?_⟩
      rw [this.2 q,List.append_assoc];rfl
theorem ent_ne {p:api_Prog}:∀ e∈entL p,e.2.1≠0:=by
  intro e he
  simp only [entL,List.mem_append,List.mem_map] at he
  rcases he with ⟨x,_,rfl⟩ | ⟨x,_,rfl⟩ | ⟨x,_,rfl⟩
  · unfold cellE;simp only;split <;> decide
  · show (3:Int)≠0;decide
  · show (4:Int)≠0;decide
def namesL (p:api_Prog):List (Str×Int):=(flatC p).map (fun c=>(c.Name,c.At)) ++ (p.Locks.map (fun c=>(c.Name,c.At)) ++ p.Threads.map fun t=>(t.Name,t.At))
theorem ent_names (p:api_Prog):(entL p).map (fun e=>(e.1,e.2.2))=namesL p:=by
  simp only [entL,namesL,List.map_append,List.map_map,← allC_fst]
  rfl
def mapL (p:api_Prog):List (Str×Int):=(entL p).map fun e=>(e.1,e.2.1)
theorem names_dup {p:api_Prog} (hp:SmallP p) :
    (∀ v,dupL (namesL p) []=some v→∃ m,Z6m 1001 p=some (m,v,true))∧(dupL (namesL p) []=none→Z6m 1001 p=some (mapL p,0,false)):=by
  have h:=put_dup (entL p) [] 0 (fun e he=>by cases he) ent_ne
  rw [ent_names] at h
  rw [names_eq hp]
  refine ⟨fun v hv=>?_,fun hv=>?_⟩
  · obtain ⟨m,hm⟩:=h.1 v hv;exact ⟨m,by rw [hm]⟩
  · rw [h.2 hv];rfl
theorem idxS_app:∀ (a b:List Str) (s:Str) (k:Nat),idxS (a ++ b) s k=if s∈a then idxS a s k else idxS b s (k+a.length)
  | [],b,s,k=>by simp
  | x :: a, b, s, k => by
    simp only [List.cons_append,idxS,List.mem_cons,List.length_cons]
    by_cases h:x=s
    · rw [if_pos h,if_pos (.inl h.symm),if_pos h]
    · rw [if_neg h, if_neg h, idxS_app a b s (k + 1)]
      by_cases h2:s∈a
      · rw [if_pos h2,if_pos (.inr h2)]
      · rw [if_neg h2, if_neg (by rintro (q | q); exact h q.symm; exact h2 q)]
        congr 1;omega
end Go.MD.LB
