/- Which programs have the form of one, as the program and the document tell it. No condition: plain lemmas. -/
import Derived.Test.YtgdkaddhhpgeiaaGreatDoorLBV
namespace Go.MD.LB
open Go Go.MD
def Gm (a:Int):Bool:=decide (0≤a) && decide (a≤4000)
theorem Kg (N:Nat) (a:Int):Z7j N a=some (Gm a):=rfl
def cellB (most:Int) (c:api_Cell):Bool:=!(((!Cy c.Name) || (decide (c.N < 0))) || (decide (most < c.N))) && Gm c.At
theorem Wr (c:api_Cell) (most:Int):Z7i 1001 c most=some (!cellB most c):=by
  unfold Z7i cellB
  rw [H5]
  simp only [Option.bind_some,Kg]
  cases (((!Cy c.Name) || (decide (c.N < 0))) || (decide (most < c.N))) <;> simp
theorem Ti {most:Int} {l:List api_Cell} (hl:l.length≤1000) (hs:∀ x∈l,True):Z86 1001 l most=some (!l.all (cellB most)):=by
  have key:∀ (d j n:Nat),j+d=l.length→d < n→∃ r,Z8n 1001 Z8m l most n (j:Int)=some r∧(decide (0≤r) = !(l.drop j).all (cellB most)):=by
    intro d
    induction d with
    | zero =>
      intro j n hj hn
      obtain ⟨n,rfl⟩:∃ m,n=m+1:=⟨n - 1,by omega⟩
      rw [Z8n,if_neg (by omega),List.drop_of_length_le (by omega)]
      exact ⟨-1,rfl,rfl⟩
    | succ d ih =>
      intro j n hj hn
      obtain ⟨n,rfl⟩:∃ m,n=m+1:=⟨n - 1,by omega⟩
      have h1:j < l.length:=by omega
      have h2:Z7i 1001 l[j] most=some (!(cellB most) l[j]):=Wr _ _
      rw [Z8n,if_pos (by omega),Ax rfl h1]
      simp only [Option.bind_some,h2]
      rw [List.drop_eq_getElem_cons h1,List.all_cons]
      cases hk:(cellB most) l[j] with
      | false=>exact ⟨j,by simp,by simp⟩
      | true =>
        obtain ⟨r,h2,h3⟩:=ih (j+1) n (by omega) (by omega)
        rw [Bf h1 (by omega)]
        exact ⟨r,by simpa using h2,by simpa using h3⟩
  obtain ⟨r,h1,h2⟩:=key l.length 0 1001 (by omega) (by omega)
  unfold Z86 Z8l
  rw [show (0:Int)=((0:Nat):Int) from rfl,h1]
  simpa using h2
theorem Lt {l:List api_Cell} (hl:l.length≤1000) (most:Int):Z7h 1001 l most=some (l.all (cellB most)):=by
  unfold Z7h
  rw [Ti hl (fun _ _=>trivial)]
  simp
def Ho (l:List api_Cell):Bool:=!decide (l.length=0) && l.all (cellB 4294967296)
theorem Vd {l:List api_Cell} (hl:l.length≤1000):Z7c 1001 l=some (!Ho l):=by
  unfold Z7c Ho
  by_cases h:l.length=0
  · rw [if_pos (by omega),decide_eq_true h];rfl
  · rw [if_neg (by omega),decide_eq_false h,Lt hl];simp
theorem Wz (s:Str):Z7l 1001 s=some (!Cy s):=by
  unfold Z7l;rw [H5];rfl
theorem Up {l:List (List api_Cell)} (hl:l.length≤1000) (hs:∀ x∈l,x.length≤1000):Z84 1001 l=some (!l.all Ho):=by
  have key:∀ (d j n:Nat),j+d=l.length→d < n→∃ r,Z8h 1001 Z8g l n (j:Int)=some r∧(decide (0≤r) = !(l.drop j).all Ho):=by
    intro d
    induction d with
    | zero =>
      intro j n hj hn
      obtain ⟨n,rfl⟩:∃ m,n=m+1:=⟨n - 1,by omega⟩
      rw [Z8h,if_neg (by omega),List.drop_of_length_le (by omega)]
      exact ⟨-1,rfl,rfl⟩
    | succ d ih =>
      intro j n hj hn
      obtain ⟨n,rfl⟩:∃ m,n=m+1:=⟨n - 1,by omega⟩
      have h1:j < l.length:=by omega
      have h2:Z7c 1001 l[j]=some (!Ho l[j]):=Vd (hs _ (List.getElem_mem h1))
      rw [Z8h,if_pos (by omega),Ax rfl h1]
      simp only [Option.bind_some,h2]
      rw [List.drop_eq_getElem_cons h1,List.all_cons]
      cases hk:Ho l[j] with
      | false=>exact ⟨j,by simp,by simp⟩
      | true =>
        obtain ⟨r,h2,h3⟩:=ih (j+1) n (by omega) (by omega)
        rw [Bf h1 (by omega)]
        exact ⟨r,by simpa using h2,by simpa using h3⟩
  obtain ⟨r,h1,h2⟩:=key l.length 0 1001 (by omega) (by omega)
  unfold Z84 Z8f
  rw [show (0:Int)=((0:Nat):Int) from rfl,h1]
  simpa using h2
theorem Wp {l:List Str} (hl:l.length≤1000) (hs:∀ x∈l,True):Z8d 1001 l=some (!l.all Cy):=by
  have key:∀ (d j n:Nat),j+d=l.length→d < n→∃ r,Z98 1001 Z97 l n (j:Int)=some r∧(decide (0≤r) = !(l.drop j).all Cy):=by
    intro d
    induction d with
    | zero =>
      intro j n hj hn
      obtain ⟨n,rfl⟩:∃ m,n=m+1:=⟨n - 1,by omega⟩
      rw [Z98,if_neg (by omega),List.drop_of_length_le (by omega)]
      exact ⟨-1,rfl,rfl⟩
    | succ d ih =>
      intro j n hj hn
      obtain ⟨n,rfl⟩:∃ m,n=m+1:=⟨n - 1,by omega⟩
      have h1:j < l.length:=by omega
      have h2:Z7l 1001 l[j]=some (!Cy l[j]):=Wz _
      rw [Z98,if_pos (by omega),Ax rfl h1]
      simp only [Option.bind_some,h2]
      rw [List.drop_eq_getElem_cons h1,List.all_cons]
      cases hk:Cy l[j] with
      | false=>exact ⟨j,by simp,by simp⟩
      | true =>
        obtain ⟨r,h2,h3⟩:=ih (j+1) n (by omega) (by omega)
        rw [Bf h1 (by omega)]
        exact ⟨r,by simpa using h2,by simpa using h3⟩
  obtain ⟨r,h1,h2⟩:=key l.length 0 1001 (by omega) (by omega)
  unfold Z8d Z96
  rw [show (0:Int)=((0:Nat):Int) from rfl,h1]
  simpa using h2
open Classical in
noncomputable def Ix (l:List api_Stmt):Bool:=decide (∃ t,RB l t)
theorem Ss {l:List api_Stmt} (hl:l.length≤1000) (hs:∀ x∈l,Dd x):Z9g 1001 l=some (Ix l)∧Z40 1001 l=some (Ix l):=by
  obtain ⟨b,h1,h2,h3⟩:=Jal hl hs
  have:b=Ix l:=Nb h3
  rw [h1,h2,this]
  exact ⟨rfl,rfl⟩
theorem Qz {l:List api_Stmt}:Ix l=true↔∃ t,RB l t:=by unfold Ix;simp
noncomputable def Ed (t:api_Thread):Bool:=Gm t.At && (t.Regs.all Cy && Ix t.Body)
theorem Mn {t:api_Thread} (ht:SmallT t):Z7k 1001 t=some (Ed t):=by
  unfold Z7k Ed
  rw [Kg]
  simp only [Option.bind_some]
  cases Gm t.At with
  | false=>rfl
  | true =>
    rw [if_pos rfl,Wp (by have:=ht.regs;omega) (fun _ _=>trivial)]
    simp only [Option.bind_some]
    cases t.Regs.all Cy with
    | false=>rfl
    | true =>
      rw [if_neg (by decide),(Ss (by have:=ht.body;omega) ht.small).1];rfl
noncomputable def Ek (t:api_Thread):Bool:=Cy t.Name && Ed t
noncomputable def Cq (t:api_Thread):Bool:=decide (t.Name=[]) && Ed t
theorem Vb {t:api_Thread} (ht:SmallT t):Z7d 1001 t=some (!Ek t):=by
  unfold Z7d Ek
  rw [H5]
  simp only [Option.bind_some]
  cases Cy t.Name with
  | false=>rfl
  | true=>rw [if_pos rfl,Mn ht];rfl
theorem Qj {t:api_Thread} (ht:SmallT t):Z7e 1001 t=some (!Cq t):=by
  unfold Z7e Cq
  by_cases h:t.Name=[]
  · rw [if_neg (by simpa using h),decide_eq_true h,Mn ht];rfl
  · rw [if_pos h,decide_eq_false h];rfl
noncomputable def Fh (c:api_Claim):Bool:=Gm c.At && Hw c.E
theorem Tl {c:api_Claim} (hc:c.E.length≤60):Z7f 1001 c=some (!Fh c):=by
  unfold Z7f Fh
  rw [Kg]
  simp only [Option.bind_some]
  cases Gm c.At with
  | false=>rfl
  | true=>rw [if_pos rfl,Mz hc];rfl
theorem Tf {l:List api_Thread} (hl:l.length≤1000) (hs:∀ x∈l,SmallT x):Z8a 1001 l=some (!l.all Ek):=by
  have key:∀ (d j n:Nat),j+d=l.length→d < n→∃ r,Z8z 1001 Z8y l n (j:Int)=some r∧(decide (0≤r) = !(l.drop j).all Ek):=by
    intro d
    induction d with
    | zero =>
      intro j n hj hn
      obtain ⟨n,rfl⟩:∃ m,n=m+1:=⟨n - 1,by omega⟩
      rw [Z8z,if_neg (by omega),List.drop_of_length_le (by omega)]
      exact ⟨-1,rfl,rfl⟩
    | succ d ih =>
      intro j n hj hn
      obtain ⟨n,rfl⟩:∃ m,n=m+1:=⟨n - 1,by omega⟩
      have h1:j < l.length:=by omega
      have h2:Z7d 1001 l[j]=some (!Ek l[j]):=Vb (hs _ (List.getElem_mem h1))
      rw [Z8z,if_pos (by omega),Ax rfl h1]
      simp only [Option.bind_some,h2]
      rw [List.drop_eq_getElem_cons h1,List.all_cons]
      cases hk:Ek l[j] with
      | false=>exact ⟨j,by simp,by simp⟩
      | true =>
        obtain ⟨r,h2,h3⟩:=ih (j+1) n (by omega) (by omega)
        rw [Bf h1 (by omega)]
        exact ⟨r,by simpa using h2,by simpa using h3⟩
  obtain ⟨r,h1,h2⟩:=key l.length 0 1001 (by omega) (by omega)
  unfold Z8a Z8x
  rw [show (0:Int)=((0:Nat):Int) from rfl,h1]
  simpa using h2
theorem Oa {l:List api_Thread} (hl:l.length≤1000) (hs:∀ x∈l,SmallT x):Z8b 1001 l=some (!l.all Cq):=by
  have key:∀ (d j n:Nat),j+d=l.length→d < n→∃ r,Z92 1001 Z91 l n (j:Int)=some r∧(decide (0≤r) = !(l.drop j).all Cq):=by
    intro d
    induction d with
    | zero =>
      intro j n hj hn
      obtain ⟨n,rfl⟩:∃ m,n=m+1:=⟨n - 1,by omega⟩
      rw [Z92,if_neg (by omega),List.drop_of_length_le (by omega)]
      exact ⟨-1,rfl,rfl⟩
    | succ d ih =>
      intro j n hj hn
      obtain ⟨n,rfl⟩:∃ m,n=m+1:=⟨n - 1,by omega⟩
      have h1:j < l.length:=by omega
      have h2:Z7e 1001 l[j]=some (!Cq l[j]):=Qj (hs _ (List.getElem_mem h1))
      rw [Z92,if_pos (by omega),Ax rfl h1]
      simp only [Option.bind_some,h2]
      rw [List.drop_eq_getElem_cons h1,List.all_cons]
      cases hk:Cq l[j] with
      | false=>exact ⟨j,by simp,by simp⟩
      | true =>
        obtain ⟨r,h2,h3⟩:=ih (j+1) n (by omega) (by omega)
        rw [Bf h1 (by omega)]
        exact ⟨r,by simpa using h2,by simpa using h3⟩
  obtain ⟨r,h1,h2⟩:=key l.length 0 1001 (by omega) (by omega)
  unfold Z8b Z90
  rw [show (0:Int)=((0:Nat):Int) from rfl,h1]
  simpa using h2
theorem Sz {l:List api_Claim} (hl:l.length≤1000) (hs:∀ x∈l,x.E.length≤60):Z87 1001 l=some (!l.all Fh):=by
  have key:∀ (d j n:Nat),j+d=l.length→d < n→∃ r,Z8q 1001 Z8p l n (j:Int)=some r∧(decide (0≤r) = !(l.drop j).all Fh):=by
    intro d
    induction d with
    | zero =>
      intro j n hj hn
      obtain ⟨n,rfl⟩:∃ m,n=m+1:=⟨n - 1,by omega⟩
      rw [Z8q,if_neg (by omega),List.drop_of_length_le (by omega)]
      exact ⟨-1,rfl,rfl⟩
    | succ d ih =>
      intro j n hj hn
      obtain ⟨n,rfl⟩:∃ m,n=m+1:=⟨n - 1,by omega⟩
      have h1:j < l.length:=by omega
      have h2:Z7f 1001 l[j]=some (!Fh l[j]):=Tl (hs _ (List.getElem_mem h1))
      rw [Z8q,if_pos (by omega),Ax rfl h1]
      simp only [Option.bind_some,h2]
      rw [List.drop_eq_getElem_cons h1,List.all_cons]
      cases hk:Fh l[j] with
      | false=>exact ⟨j,by simp,by simp⟩
      | true =>
        obtain ⟨r,h2,h3⟩:=ih (j+1) n (by omega) (by omega)
        rw [Bf h1 (by omega)]
        exact ⟨r,by simpa using h2,by simpa using h3⟩
  obtain ⟨r,h1,h2⟩:=key l.length 0 1001 (by omega) (by omega)
  unfold Z87 Z8o
  rw [show (0:Int)=((0:Nat):Int) from rfl,h1]
  simpa using h2
noncomputable def Jg (p:api_Prog):Bool:=p.Lines.all Ho && (p.Vols.all (cellB 4294967296) && (p.Locks.all (cellB 0) && (decide (p.Recover.length≤1) && (p.Threads.all Ek && (p.Recover.all Cq && p.Claims.all Fh)))))
theorem En {p:api_Prog} (hp:SmallP p) (b:Bool):Z7g 1001 p b=some (!b && (p.Threads.all Ek && (p.Recover.all Cq && p.Claims.all Fh))):=by
  unfold Z7g
  cases b with
  | true=>rfl
  | false =>
    rw [if_neg (by decide),Tf (by have:=hp.threads;omega) hp.thread]
    simp only [Option.bind_some]
    cases p.Threads.all Ek with
    | false=>rfl
    | true =>
      rw [if_neg (by decide),Oa (by have:=hp.recover;omega) hp.recov]
      simp only [Option.bind_some]
      cases p.Recover.all Cq with
      | false=>rfl
      | true =>
        rw [if_neg (by decide),Sz (by have:=hp.claims;omega) hp.claim]
        simp
theorem Sk {p:api_Prog} (hp:SmallP p):Z7b 1001 p=some (Jg p):=by
  unfold Z7b Jg
  rw [Up (by have:=hp.lines;omega) (fun x hx=>by have:=hp.line x hx;omega)]
  simp only [Option.bind_some]
  cases p.Lines.all Ho with
  | false=>rw [if_pos (by decide),En hp];rfl
  | true =>
    rw [if_neg (by decide),Lt (by have:=hp.vols;omega)]
    simp only [Option.bind_some]
    cases p.Vols.all (cellB 4294967296) with
    | false=>rw [if_neg (by decide),En hp];rfl
    | true =>
      rw [if_pos rfl,Lt (by have:=hp.locks;omega)]
      simp only [Option.bind_some]
      cases p.Locks.all (cellB 0) with
      | false=>rw [if_neg (by decide),En hp];rfl
      | true =>
        rw [if_pos rfl,En hp]
        by_cases h:p.Recover.length≤1
        · rw [decide_eq_true h,decide_eq_false (by omega)];simp
        · rw [decide_eq_false h,decide_eq_true (by omega)];simp
end Go.MD.LB
