/- Which programs have the form of one, as the program and the document tell it. No condition: plain lemmas. -/
import Derived.Test.YtgdkaddhhpgeiaaGreatDoorLBV
namespace Go.MD.LB
open Go Go.MD
def placeB (a:Int):Bool:=decide (0≤a) && decide (a≤4000)
theorem place_eq (N:Nat) (a:Int):Z7o N a=some (placeB a):=rfl
def cellB (most:Int) (c:api_Cell):Bool:=!(((!nameS c.Name) || (decide (c.N < 0))) || (decide (most < c.N))) && placeB c.At
theorem cell_eq (c:api_Cell) (most:Int):Z7n 1001 c most=some (!cellB most c):=by
  unfold Z7n cellB
  rw [Name_eq]
  simp only [Option.bind_some,place_eq]
  cases (((!nameS c.Name) || (decide (c.N < 0))) || (decide (most < c.N))) <;> simp
theorem cells_all {most:Int} {l:List api_Cell} (hl:l.length≤1000) (hs:∀ x∈l,True):Z8b 1001 l most=some (!l.all (cellB most)):=by
  have key:∀ (d j n:Nat),j+d=l.length→d < n→∃ r,Z8s 1001 Z8r l most n (j:Int)=some r∧(decide (0≤r) = !(l.drop j).all (cellB most)):=by
    intro d
    induction d with
    | zero =>
      intro j n hj hn
      obtain ⟨n,rfl⟩:∃ m,n=m+1:=⟨n - 1,by omega⟩
      rw [Z8s,if_neg (by omega),List.drop_of_length_le (by omega)]
      exact ⟨-1,rfl,rfl⟩
    | succ d ih =>
      intro j n hj hn
      obtain ⟨n,rfl⟩:∃ m,n=m+1:=⟨n - 1,by omega⟩
      have h1:j < l.length:=by omega
      have h2:Z7n 1001 l[j] most=some (!(cellB most) l[j]):=cell_eq _ _
      rw [Z8s,if_pos (by omega),getI_at rfl h1]
      simp only [Option.bind_some,h2]
      rw [List.drop_eq_getElem_cons h1,List.all_cons]
      cases hk:(cellB most) l[j] with
      | false=>exact ⟨j,by simp,by simp⟩
      | true =>
        obtain ⟨r,h2,h3⟩:=ih (j+1) n (by omega) (by omega)
        rw [wsucc h1 (by omega)]
        exact ⟨r,by simpa using h2,by simpa using h3⟩
  obtain ⟨r,h1,h2⟩:=key l.length 0 1001 (by omega) (by omega)
  unfold Z8b Z8q
  rw [show (0:Int)=((0:Nat):Int) from rfl,h1]
  simpa using h2
theorem cells_eq {l:List api_Cell} (hl:l.length≤1000) (most:Int):Z7m 1001 l most=some (l.all (cellB most)):=by
  unfold Z7m
  rw [cells_all hl (fun _ _=>trivial)]
  simp
def lineB (l:List api_Cell):Bool:=!decide (l.length=0) && l.all (cellB 4294967296)
theorem lineb_eq {l:List api_Cell} (hl:l.length≤1000):Z7h 1001 l=some (!lineB l):=by
  unfold Z7h lineB
  by_cases h:l.length=0
  · rw [if_pos (by omega),decide_eq_true h];rfl
  · rw [if_neg (by omega),decide_eq_false h,cells_eq hl];simp
theorem regn_eq (s:Str):Z7q 1001 s=some (!nameS s):=by
  unfold Z7q;rw [Name_eq];rfl
theorem lines_eq {l:List (List api_Cell)} (hl:l.length≤1000) (hs:∀ x∈l,x.length≤1000):Z89 1001 l=some (!l.all lineB):=by
  have key:∀ (d j n:Nat),j+d=l.length→d < n→∃ r,Z8m 1001 Z8l l n (j:Int)=some r∧(decide (0≤r) = !(l.drop j).all lineB):=by
    intro d
    induction d with
    | zero =>
      intro j n hj hn
      obtain ⟨n,rfl⟩:∃ m,n=m+1:=⟨n - 1,by omega⟩
      rw [Z8m,if_neg (by omega),List.drop_of_length_le (by omega)]
      exact ⟨-1,rfl,rfl⟩
    | succ d ih =>
      intro j n hj hn
      obtain ⟨n,rfl⟩:∃ m,n=m+1:=⟨n - 1,by omega⟩
      have h1:j < l.length:=by omega
      have h2:Z7h 1001 l[j]=some (!lineB l[j]):=lineb_eq (hs _ (List.getElem_mem h1))
      rw [Z8m,if_pos (by omega),getI_at rfl h1]
      simp only [Option.bind_some,h2]
      rw [List.drop_eq_getElem_cons h1,List.all_cons]
      cases hk:lineB l[j] with
      | false=>exact ⟨j,by simp,by simp⟩
      | true =>
        obtain ⟨r,h2,h3⟩:=ih (j+1) n (by omega) (by omega)
        rw [wsucc h1 (by omega)]
        exact ⟨r,by simpa using h2,by simpa using h3⟩
  obtain ⟨r,h1,h2⟩:=key l.length 0 1001 (by omega) (by omega)
  unfold Z89 Z8k
  rw [show (0:Int)=((0:Nat):Int) from rfl,h1]
  simpa using h2
theorem regs_eq {l:List Str} (hl:l.length≤1000) (hs:∀ x∈l,True):Z8i 1001 l=some (!l.all nameS):=by
  have key:∀ (d j n:Nat),j+d=l.length→d < n→∃ r,Z9d 1001 Z9c l n (j:Int)=some r∧(decide (0≤r) = !(l.drop j).all nameS):=by
    intro d
    induction d with
    | zero =>
      intro j n hj hn
      obtain ⟨n,rfl⟩:∃ m,n=m+1:=⟨n - 1,by omega⟩
      rw [Z9d,if_neg (by omega),List.drop_of_length_le (by omega)]
      exact ⟨-1,rfl,rfl⟩
    | succ d ih =>
      intro j n hj hn
      obtain ⟨n,rfl⟩:∃ m,n=m+1:=⟨n - 1,by omega⟩
      have h1:j < l.length:=by omega
      have h2:Z7q 1001 l[j]=some (!nameS l[j]):=regn_eq _
      rw [Z9d,if_pos (by omega),getI_at rfl h1]
      simp only [Option.bind_some,h2]
      rw [List.drop_eq_getElem_cons h1,List.all_cons]
      cases hk:nameS l[j] with
      | false=>exact ⟨j,by simp,by simp⟩
      | true =>
        obtain ⟨r,h2,h3⟩:=ih (j+1) n (by omega) (by omega)
        rw [wsucc h1 (by omega)]
        exact ⟨r,by simpa using h2,by simpa using h3⟩
  obtain ⟨r,h1,h2⟩:=key l.length 0 1001 (by omega) (by omega)
  unfold Z8i Z9b
  rw [show (0:Int)=((0:Nat):Int) from rfl,h1]
  simpa using h2
open Classical in
noncomputable def rightB (l:List api_Stmt):Bool:=decide (∃ t,RB l t)
theorem rightB_eq {l:List api_Stmt} (hl:l.length≤1000) (hs:∀ x∈l,smallS x):Z9l 1001 l=some (rightB l)∧Z45 1001 l=some (rightB l):=by
  obtain ⟨b,h1,h2,h3⟩:=SRight hl hs
  have:b=rightB l:=dec_ex h3
  rw [h1,h2,this]
  exact ⟨rfl,rfl⟩
theorem rightB_iff {l:List api_Stmt}:rightB l=true↔∃ t,RB l t:=by unfold rightB;simp
noncomputable def threadB (t:api_Thread):Bool:=placeB t.At && (t.Regs.all nameS && rightB t.Body)
theorem thread_eq {t:api_Thread} (ht:SmallT t):Z7p 1001 t=some (threadB t):=by
  unfold Z7p threadB
  rw [place_eq]
  simp only [Option.bind_some]
  cases placeB t.At with
  | false=>rfl
  | true =>
    rw [if_pos rfl,regs_eq (by have:=ht.regs;omega) (fun _ _=>trivial)]
    simp only [Option.bind_some]
    cases t.Regs.all nameS with
    | false=>rfl
    | true =>
      rw [if_neg (by decide),(rightB_eq (by have:=ht.body;omega) ht.small).1];rfl
noncomputable def namedB (t:api_Thread):Bool:=nameS t.Name && threadB t
noncomputable def unnamedB (t:api_Thread):Bool:=decide (t.Name=[]) && threadB t
theorem named_eq {t:api_Thread} (ht:SmallT t):Z7i 1001 t=some (!namedB t):=by
  unfold Z7i namedB
  rw [Name_eq]
  simp only [Option.bind_some]
  cases nameS t.Name with
  | false=>rfl
  | true=>rw [if_pos rfl,thread_eq ht];rfl
theorem unnamed_eq {t:api_Thread} (ht:SmallT t):Z7j 1001 t=some (!unnamedB t):=by
  unfold Z7j unnamedB
  by_cases h:t.Name=[]
  · rw [if_neg (by simpa using h),decide_eq_true h,thread_eq ht];rfl
  · rw [if_pos h,decide_eq_false h];rfl
noncomputable def claimB (c:api_Claim):Bool:=placeB c.At && rightE c.E
theorem claim_eq {c:api_Claim} (hc:c.E.length≤60):Z7k 1001 c=some (!claimB c):=by
  unfold Z7k claimB
  rw [place_eq]
  simp only [Option.bind_some]
  cases placeB c.At with
  | false=>rfl
  | true=>rw [if_pos rfl,rightE_eq hc];rfl
theorem nameds_eq {l:List api_Thread} (hl:l.length≤1000) (hs:∀ x∈l,SmallT x):Z8f 1001 l=some (!l.all namedB):=by
  have key:∀ (d j n:Nat),j+d=l.length→d < n→∃ r,Z94 1001 Z93 l n (j:Int)=some r∧(decide (0≤r) = !(l.drop j).all namedB):=by
    intro d
    induction d with
    | zero =>
      intro j n hj hn
      obtain ⟨n,rfl⟩:∃ m,n=m+1:=⟨n - 1,by omega⟩
      rw [Z94,if_neg (by omega),List.drop_of_length_le (by omega)]
      exact ⟨-1,rfl,rfl⟩
    | succ d ih =>
      intro j n hj hn
      obtain ⟨n,rfl⟩:∃ m,n=m+1:=⟨n - 1,by omega⟩
      have h1:j < l.length:=by omega
      have h2:Z7i 1001 l[j]=some (!namedB l[j]):=named_eq (hs _ (List.getElem_mem h1))
      rw [Z94,if_pos (by omega),getI_at rfl h1]
      simp only [Option.bind_some,h2]
      rw [List.drop_eq_getElem_cons h1,List.all_cons]
      cases hk:namedB l[j] with
      | false=>exact ⟨j,by simp,by simp⟩
      | true =>
        obtain ⟨r,h2,h3⟩:=ih (j+1) n (by omega) (by omega)
        rw [wsucc h1 (by omega)]
        exact ⟨r,by simpa using h2,by simpa using h3⟩
  obtain ⟨r,h1,h2⟩:=key l.length 0 1001 (by omega) (by omega)
  unfold Z8f Z92
  rw [show (0:Int)=((0:Nat):Int) from rfl,h1]
  simpa using h2
theorem unnameds_eq {l:List api_Thread} (hl:l.length≤1000) (hs:∀ x∈l,SmallT x):Z8g 1001 l=some (!l.all unnamedB):=by
  have key:∀ (d j n:Nat),j+d=l.length→d < n→∃ r,Z97 1001 Z96 l n (j:Int)=some r∧(decide (0≤r) = !(l.drop j).all unnamedB):=by
    intro d
    induction d with
    | zero =>
      intro j n hj hn
      obtain ⟨n,rfl⟩:∃ m,n=m+1:=⟨n - 1,by omega⟩
      rw [Z97,if_neg (by omega),List.drop_of_length_le (by omega)]
      exact ⟨-1,rfl,rfl⟩
    | succ d ih =>
      intro j n hj hn
      obtain ⟨n,rfl⟩:∃ m,n=m+1:=⟨n - 1,by omega⟩
      have h1:j < l.length:=by omega
      have h2:Z7j 1001 l[j]=some (!unnamedB l[j]):=unnamed_eq (hs _ (List.getElem_mem h1))
      rw [Z97,if_pos (by omega),getI_at rfl h1]
      simp only [Option.bind_some,h2]
      rw [List.drop_eq_getElem_cons h1,List.all_cons]
      cases hk:unnamedB l[j] with
      | false=>exact ⟨j,by simp,by simp⟩
      | true =>
        obtain ⟨r,h2,h3⟩:=ih (j+1) n (by omega) (by omega)
        rw [wsucc h1 (by omega)]
        exact ⟨r,by simpa using h2,by simpa using h3⟩
  obtain ⟨r,h1,h2⟩:=key l.length 0 1001 (by omega) (by omega)
  unfold Z8g Z95
  rw [show (0:Int)=((0:Nat):Int) from rfl,h1]
  simpa using h2
theorem claims_eq {l:List api_Claim} (hl:l.length≤1000) (hs:∀ x∈l,x.E.length≤60):Z8c 1001 l=some (!l.all claimB):=by
  have key:∀ (d j n:Nat),j+d=l.length→d < n→∃ r,Z8v 1001 Z8u l n (j:Int)=some r∧(decide (0≤r) = !(l.drop j).all claimB):=by
    intro d
    induction d with
    | zero =>
      intro j n hj hn
      obtain ⟨n,rfl⟩:∃ m,n=m+1:=⟨n - 1,by omega⟩
      rw [Z8v,if_neg (by omega),List.drop_of_length_le (by omega)]
      exact ⟨-1,rfl,rfl⟩
    | succ d ih =>
      intro j n hj hn
      obtain ⟨n,rfl⟩:∃ m,n=m+1:=⟨n - 1,by omega⟩
      have h1:j < l.length:=by omega
      have h2:Z7k 1001 l[j]=some (!claimB l[j]):=claim_eq (hs _ (List.getElem_mem h1))
      rw [Z8v,if_pos (by omega),getI_at rfl h1]
      simp only [Option.bind_some,h2]
      rw [List.drop_eq_getElem_cons h1,List.all_cons]
      cases hk:claimB l[j] with
      | false=>exact ⟨j,by simp,by simp⟩
      | true =>
        obtain ⟨r,h2,h3⟩:=ih (j+1) n (by omega) (by omega)
        rw [wsucc h1 (by omega)]
        exact ⟨r,by simpa using h2,by simpa using h3⟩
  obtain ⟨r,h1,h2⟩:=key l.length 0 1001 (by omega) (by omega)
  unfold Z8c Z8t
  rw [show (0:Int)=((0:Nat):Int) from rfl,h1]
  simpa using h2
noncomputable def progB (p:api_Prog):Bool:=p.Lines.all lineB && (p.Vols.all (cellB 4294967296) && (p.Locks.all (cellB 0) && (decide (p.Recover.length≤1) && (p.Threads.all namedB && (p.Recover.all unnamedB && p.Claims.all claimB)))))
theorem Right_j1_eq {p:api_Prog} (hp:SmallP p) (b:Bool):Z7l 1001 p b=some (!b && (p.Threads.all namedB && (p.Recover.all unnamedB && p.Claims.all claimB))):=by
  unfold Z7l
  cases b with
  | true=>rfl
  | false =>
    rw [if_neg (by decide),nameds_eq (by have:=hp.threads;omega) hp.thread]
    simp only [Option.bind_some]
    cases p.Threads.all namedB with
    | false=>rfl
    | true =>
      rw [if_neg (by decide),unnameds_eq (by have:=hp.recover;omega) hp.recov]
      simp only [Option.bind_some]
      cases p.Recover.all unnamedB with
      | false=>rfl
      | true =>
        rw [if_neg (by decide),claims_eq (by have:=hp.claims;omega) hp.claim]
        simp
theorem PRight_eq {p:api_Prog} (hp:SmallP p):Z7g 1001 p=some (progB p):=by
  unfold Z7g progB
  rw [lines_eq (by have:=hp.lines;omega) (fun x hx=>by have:=hp.line x hx;omega)]
  simp only [Option.bind_some]
  cases p.Lines.all lineB with
  | false=>rw [if_pos (by decide),Right_j1_eq hp];rfl
  | true =>
    rw [if_neg (by decide),cells_eq (by have:=hp.vols;omega)]
    simp only [Option.bind_some]
    cases p.Vols.all (cellB 4294967296) with
    | false=>rw [if_neg (by decide),Right_j1_eq hp];rfl
    | true =>
      rw [if_pos rfl,cells_eq (by have:=hp.locks;omega)]
      simp only [Option.bind_some]
      cases p.Locks.all (cellB 0) with
      | false=>rw [if_neg (by decide),Right_j1_eq hp];rfl
      | true =>
        rw [if_pos rfl,Right_j1_eq hp]
        by_cases h:p.Recover.length≤1
        · rw [decide_eq_true h,decide_eq_false (by omega)];simp
        · rw [decide_eq_false h,decide_eq_true (by omega)];simp
end Go.MD.LB
