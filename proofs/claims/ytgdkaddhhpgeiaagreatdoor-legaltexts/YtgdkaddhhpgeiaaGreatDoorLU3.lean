/- Which programs have the form of one, as the program and the document tell it. No condition: plain lemmas. -/
import Derived.Test.YtgdkaddhhpgeiaaGreatDoorLU2
namespace Go.MD.LB.W
open Go Go.MD Go.MD.LB
def Eo (a:Int):Bool:=decide (0≤a) && decide (a≤4000)
theorem Kt (N:Nat) (a:Int):Z8j N a=some (Eo a):=rfl
theorem Jd (N:Nat) (a:Int):Z4r N a=some (Eo a):=rfl
def cellB (most:Int) (c:api_Cell):Bool:=!(((!Cc c.Name) || (decide (c.N < 0))) || (decide (most < c.N))) && Eo c.At
theorem Xn (c:api_Cell) (most:Int):Z8i 1000001 c most=some (!cellB most c):=by
  unfold Z8i cellB
  rw [It]
  simp only [Option.bind_some,Kt]
  cases (((!Cc c.Name) || (decide (c.N < 0))) || (decide (most < c.N))) <;> simp
theorem Tk {most:Int} {l:List api_Cell} (hl:l.length≤3000) (hs:∀ x∈l,True):Z96 1000001 l most=some (!l.all (cellB most)):=by
  have key:∀ (d j n:Nat),j+d=l.length→d < n→∃ r,Z9n 1000001 Z9m l most n (j:Int)=some r∧(decide (0≤r) = !(l.drop j).all (cellB most)):=by
    intro d
    induction d with
    | zero =>
      intro j n hj hn
      obtain ⟨n,rfl⟩:∃ m,n=m+1:=⟨n - 1,by omega⟩
      rw [Z9n,if_neg (by omega),List.drop_of_length_le (by omega)]
      exact ⟨-1,rfl,rfl⟩
    | succ d ih =>
      intro j n hj hn
      obtain ⟨n,rfl⟩:∃ m,n=m+1:=⟨n - 1,by omega⟩
      have h1:j < l.length:=by omega
      have h2:Z8i 1000001 l[j] most=some (!(cellB most) l[j]):=Xn _ _
      rw [Z9n,if_pos (by omega),Ao rfl h1]
      simp only [Option.bind_some,h2]
      rw [List.drop_eq_getElem_cons h1,List.all_cons]
      cases hk:(cellB most) l[j] with
      | false=>exact ⟨j,by simp,by simp⟩
      | true =>
        obtain ⟨r,h2,h3⟩:=ih (j+1) n (by omega) (by omega)
        rw [Bc h1 (by omega)]
        exact ⟨r,by simpa using h2,by simpa using h3⟩
  obtain ⟨r,h1,h2⟩:=key l.length 0 1000001 (by omega) (by omega)
  unfold Z96 Z9l
  rw [show (0:Int)=((0:Nat):Int) from rfl,h1]
  simpa using h2
theorem Lj {l:List api_Cell} (hl:l.length≤3000) (most:Int):Z8h 1000001 l most=some (l.all (cellB most)):=by
  unfold Z8h
  rw [Tk hl (fun _ _=>trivial)]
  simp
def Fx (l:List api_Cell):Bool:=!decide (l.length=0) && l.all (cellB 4294967296)
theorem Wc {l:List api_Cell} (hl:l.length≤3000):Z8c 1000001 l=some (!Fx l):=by
  unfold Z8c Fx
  by_cases h:l.length=0
  · rw [if_pos (by omega),decide_eq_true h];rfl
  · rw [if_neg (by omega),decide_eq_false h,Lj hl];simp
theorem Xs (s:Str):Z8l 1000001 s=some (!Cc s):=by
  unfold Z8l;rw [It];rfl
theorem Ug {l:List (List api_Cell)} (hl:l.length≤3000) (hs:∀ x∈l,x.length≤3000):Z94 1000001 l=some (!l.all Fx):=by
  have key:∀ (d j n:Nat),j+d=l.length→d < n→∃ r,Z9h 1000001 Z9g l n (j:Int)=some r∧(decide (0≤r) = !(l.drop j).all Fx):=by
    intro d
    induction d with
    | zero =>
      intro j n hj hn
      obtain ⟨n,rfl⟩:∃ m,n=m+1:=⟨n - 1,by omega⟩
      rw [Z9h,if_neg (by omega),List.drop_of_length_le (by omega)]
      exact ⟨-1,rfl,rfl⟩
    | succ d ih =>
      intro j n hj hn
      obtain ⟨n,rfl⟩:∃ m,n=m+1:=⟨n - 1,by omega⟩
      have h1:j < l.length:=by omega
      have h2:Z8c 1000001 l[j]=some (!Fx l[j]):=Wc (hs _ (List.getElem_mem h1))
      rw [Z9h,if_pos (by omega),Ao rfl h1]
      simp only [Option.bind_some,h2]
      rw [List.drop_eq_getElem_cons h1,List.all_cons]
      cases hk:Fx l[j] with
      | false=>exact ⟨j,by simp,by simp⟩
      | true =>
        obtain ⟨r,h2,h3⟩:=ih (j+1) n (by omega) (by omega)
        rw [Bc h1 (by omega)]
        exact ⟨r,by simpa using h2,by simpa using h3⟩
  obtain ⟨r,h1,h2⟩:=key l.length 0 1000001 (by omega) (by omega)
  unfold Z94 Z9f
  rw [show (0:Int)=((0:Nat):Int) from rfl,h1]
  simpa using h2
theorem Xm {l:List Str} (hl:l.length≤3000) (hs:∀ x∈l,True):Z9d 1000001 l=some (!l.all Cc):=by
  have key:∀ (d j n:Nat),j+d=l.length→d < n→∃ r,Za8 1000001 Za7 l n (j:Int)=some r∧(decide (0≤r) = !(l.drop j).all Cc):=by
    intro d
    induction d with
    | zero =>
      intro j n hj hn
      obtain ⟨n,rfl⟩:∃ m,n=m+1:=⟨n - 1,by omega⟩
      rw [Za8,if_neg (by omega),List.drop_of_length_le (by omega)]
      exact ⟨-1,rfl,rfl⟩
    | succ d ih =>
      intro j n hj hn
      obtain ⟨n,rfl⟩:∃ m,n=m+1:=⟨n - 1,by omega⟩
      have h1:j < l.length:=by omega
      have h2:Z8l 1000001 l[j]=some (!Cc l[j]):=Xs _
      rw [Za8,if_pos (by omega),Ao rfl h1]
      simp only [Option.bind_some,h2]
      rw [List.drop_eq_getElem_cons h1,List.all_cons]
      cases hk:Cc l[j] with
      | false=>exact ⟨j,by simp,by simp⟩
      | true =>
        obtain ⟨r,h2,h3⟩:=ih (j+1) n (by omega) (by omega)
        rw [Bc h1 (by omega)]
        exact ⟨r,by simpa using h2,by simpa using h3⟩
  obtain ⟨r,h1,h2⟩:=key l.length 0 1000001 (by omega) (by omega)
  unfold Z9d Za6
  rw [show (0:Int)=((0:Nat):Int) from rfl,h1]
  simpa using h2
open Classical in
noncomputable def Ie (l:List api_Stmt):Bool:=decide (∃ t,RB l t)
theorem Mk {l:List api_Stmt} (hl:l.length≤3000) (hs:∀ x∈l,Dy x):Zag 1000001 l=some (Ie l)∧Z36 1000001 l=some (Ie l):=by
  obtain ⟨b,h1,h2,h3⟩:=Jay hl hs
  have:b=Ie l:=Nx h3
  rw [h1,h2,this]
  exact ⟨rfl,rfl⟩
theorem Ra {l:List api_Stmt}:Ie l=true↔∃ t,RB l t:=by unfold Ie;simp
noncomputable def Di (t:api_Thread):Bool:=Eo t.At && (t.Regs.all Cc && Ie t.Body)
theorem Mm {t:api_Thread} (ht:WideT t):Z8k 1000001 t=some (Di t):=by
  unfold Z8k Di
  rw [Kt]
  simp only [Option.bind_some]
  cases Eo t.At with
  | false=>rfl
  | true =>
    rw [if_pos rfl,Xm (by have:=ht.regs;omega) (fun _ _=>trivial)]
    simp only [Option.bind_some]
    cases t.Regs.all Cc with
    | false=>rfl
    | true =>
      rw [if_neg (by decide),(Mk (by have:=ht.body;omega) ht.small).1];rfl
noncomputable def Cy (t:api_Thread):Bool:=Cc t.Name && Di t
noncomputable def Cb (t:api_Thread):Bool:=decide (t.Name=[]) && Di t
theorem Uh {t:api_Thread} (ht:WideT t):Z8d 1000001 t=some (!Cy t):=by
  unfold Z8d Cy
  rw [It]
  simp only [Option.bind_some]
  cases Cc t.Name with
  | false=>rfl
  | true=>rw [if_pos rfl,Mm ht];rfl
theorem Qb {t:api_Thread} (ht:WideT t):Z8e 1000001 t=some (!Cb t):=by
  unfold Z8e Cb
  by_cases h:t.Name=[]
  · rw [if_neg (by simpa using h),decide_eq_true h,Mm ht];rfl
  · rw [if_pos h,decide_eq_false h];rfl
noncomputable def Dl (c:api_Claim):Bool:=Eo c.At && Gz c.E
theorem Vz {c:api_Claim} (hc:c.E.length≤60):Z8f 1000001 c=some (!Dl c):=by
  unfold Z8f Dl
  rw [Kt]
  simp only [Option.bind_some]
  cases Eo c.At with
  | false=>rfl
  | true=>rw [if_pos rfl,Mi hc];rfl
theorem Td {l:List api_Thread} (hl:l.length≤3000) (hs:∀ x∈l,WideT x):Z9a 1000001 l=some (!l.all Cy):=by
  have key:∀ (d j n:Nat),j+d=l.length→d < n→∃ r,Z9z 1000001 Z9y l n (j:Int)=some r∧(decide (0≤r) = !(l.drop j).all Cy):=by
    intro d
    induction d with
    | zero =>
      intro j n hj hn
      obtain ⟨n,rfl⟩:∃ m,n=m+1:=⟨n - 1,by omega⟩
      rw [Z9z,if_neg (by omega),List.drop_of_length_le (by omega)]
      exact ⟨-1,rfl,rfl⟩
    | succ d ih =>
      intro j n hj hn
      obtain ⟨n,rfl⟩:∃ m,n=m+1:=⟨n - 1,by omega⟩
      have h1:j < l.length:=by omega
      have h2:Z8d 1000001 l[j]=some (!Cy l[j]):=Uh (hs _ (List.getElem_mem h1))
      rw [Z9z,if_pos (by omega),Ao rfl h1]
      simp only [Option.bind_some,h2]
      rw [List.drop_eq_getElem_cons h1,List.all_cons]
      cases hk:Cy l[j] with
      | false=>exact ⟨j,by simp,by simp⟩
      | true =>
        obtain ⟨r,h2,h3⟩:=ih (j+1) n (by omega) (by omega)
        rw [Bc h1 (by omega)]
        exact ⟨r,by simpa using h2,by simpa using h3⟩
  obtain ⟨r,h1,h2⟩:=key l.length 0 1000001 (by omega) (by omega)
  unfold Z9a Z9x
  rw [show (0:Int)=((0:Nat):Int) from rfl,h1]
  simpa using h2
theorem Ol {l:List api_Thread} (hl:l.length≤3000) (hs:∀ x∈l,WideT x):Z9b 1000001 l=some (!l.all Cb):=by
  have key:∀ (d j n:Nat),j+d=l.length→d < n→∃ r,Za2 1000001 Za1 l n (j:Int)=some r∧(decide (0≤r) = !(l.drop j).all Cb):=by
    intro d
    induction d with
    | zero =>
      intro j n hj hn
      obtain ⟨n,rfl⟩:∃ m,n=m+1:=⟨n - 1,by omega⟩
      rw [Za2,if_neg (by omega),List.drop_of_length_le (by omega)]
      exact ⟨-1,rfl,rfl⟩
    | succ d ih =>
      intro j n hj hn
      obtain ⟨n,rfl⟩:∃ m,n=m+1:=⟨n - 1,by omega⟩
      have h1:j < l.length:=by omega
      have h2:Z8e 1000001 l[j]=some (!Cb l[j]):=Qb (hs _ (List.getElem_mem h1))
      rw [Za2,if_pos (by omega),Ao rfl h1]
      simp only [Option.bind_some,h2]
      rw [List.drop_eq_getElem_cons h1,List.all_cons]
      cases hk:Cb l[j] with
      | false=>exact ⟨j,by simp,by simp⟩
      | true =>
        obtain ⟨r,h2,h3⟩:=ih (j+1) n (by omega) (by omega)
        rw [Bc h1 (by omega)]
        exact ⟨r,by simpa using h2,by simpa using h3⟩
  obtain ⟨r,h1,h2⟩:=key l.length 0 1000001 (by omega) (by omega)
  unfold Z9b Za0
  rw [show (0:Int)=((0:Nat):Int) from rfl,h1]
  simpa using h2
theorem Sx {l:List api_Claim} (hl:l.length≤3000) (hs:∀ x∈l,x.E.length≤60):Z97 1000001 l=some (!l.all Dl):=by
  have key:∀ (d j n:Nat),j+d=l.length→d < n→∃ r,Z9q 1000001 Z9p l n (j:Int)=some r∧(decide (0≤r) = !(l.drop j).all Dl):=by
    intro d
    induction d with
    | zero =>
      intro j n hj hn
      obtain ⟨n,rfl⟩:∃ m,n=m+1:=⟨n - 1,by omega⟩
      rw [Z9q,if_neg (by omega),List.drop_of_length_le (by omega)]
      exact ⟨-1,rfl,rfl⟩
    | succ d ih =>
      intro j n hj hn
      obtain ⟨n,rfl⟩:∃ m,n=m+1:=⟨n - 1,by omega⟩
      have h1:j < l.length:=by omega
      have h2:Z8f 1000001 l[j]=some (!Dl l[j]):=Vz (hs _ (List.getElem_mem h1))
      rw [Z9q,if_pos (by omega),Ao rfl h1]
      simp only [Option.bind_some,h2]
      rw [List.drop_eq_getElem_cons h1,List.all_cons]
      cases hk:Dl l[j] with
      | false=>exact ⟨j,by simp,by simp⟩
      | true =>
        obtain ⟨r,h2,h3⟩:=ih (j+1) n (by omega) (by omega)
        rw [Bc h1 (by omega)]
        exact ⟨r,by simpa using h2,by simpa using h3⟩
  obtain ⟨r,h1,h2⟩:=key l.length 0 1000001 (by omega) (by omega)
  unfold Z97 Z9o
  rw [show (0:Int)=((0:Nat):Int) from rfl,h1]
  simpa using h2
noncomputable def Gn (p:api_Prog):Bool:=p.Lines.all Fx && (p.Vols.all (cellB 4294967296) && (p.Locks.all (cellB 0) && (decide (p.Recover.length≤1) && (p.Threads.all Cy && (p.Recover.all Cb && p.Claims.all Dl)))))
theorem Fp {p:api_Prog} (hp:WideP p) (b:Bool):Z8g 1000001 p b=some (!b && (p.Threads.all Cy && (p.Recover.all Cb && p.Claims.all Dl))):=by
  unfold Z8g
  cases b with
  | true=>rfl
  | false =>
    rw [if_neg (by decide),Td (by have:=hp.threads;omega) hp.thread]
    simp only [Option.bind_some]
    cases p.Threads.all Cy with
    | false=>rfl
    | true =>
      rw [if_neg (by decide),Ol (by have:=hp.recover;omega) hp.recov]
      simp only [Option.bind_some]
      cases p.Recover.all Cb with
      | false=>rfl
      | true =>
        rw [if_neg (by decide),Sx (by have:=hp.claims;omega) hp.claim]
        simp
theorem Jg {p:api_Prog} (hp:WideP p):Z8b 1000001 p=some (Gn p):=by
  unfold Z8b Gn
  rw [Ug (by have:=hp.lines;omega) (fun x hx=>by have:=hp.line x hx;omega)]
  simp only [Option.bind_some]
  cases p.Lines.all Fx with
  | false=>rw [if_pos (by decide),Fp hp];rfl
  | true =>
    rw [if_neg (by decide),Lj (by have:=hp.vols;omega)]
    simp only [Option.bind_some]
    cases p.Vols.all (cellB 4294967296) with
    | false=>rw [if_neg (by decide),Fp hp];rfl
    | true =>
      rw [if_pos rfl,Lj (by have:=hp.locks;omega)]
      simp only [Option.bind_some]
      cases p.Locks.all (cellB 0) with
      | false=>rw [if_neg (by decide),Fp hp];rfl
      | true =>
        rw [if_pos rfl,Fp hp]
        by_cases h:p.Recover.length≤1
        · rw [decide_eq_true h,decide_eq_false (by omega)];simp
        · rw [decide_eq_false h,decide_eq_true (by omega)];simp
theorem Ou {l:List api_Cell} (hl:l.length≤3000) (most:Int):∀ (d j n:Nat),j+d=l.length→d < n→Z4q 1000001 Z4o l most n (j:Int)=some ((l.drop j).all (cellB most)):=by
  intro d
  induction d with
  | zero =>
    intro j n hj hn
    obtain ⟨n,rfl⟩:∃ m,n=m+1:=⟨n - 1,by omega⟩
    rw [Z4q,if_neg (by omega),List.drop_of_length_le (by omega)];rfl
  | succ d ih =>
    intro j n hj hn
    obtain ⟨n,rfl⟩:∃ m,n=m+1:=⟨n - 1,by omega⟩
    have h1:j < l.length:=by omega
    rw [Z4q,if_pos (by omega),Ao rfl h1]
    simp only [Option.bind_some]
    rw [Fy]
    simp only [Option.bind_some,Jd]
    rw [List.drop_eq_getElem_cons h1,List.all_cons]
    conv=>rhs;rw [cellB]
    cases (((!Cc l[j].Name) || (decide (l[j].N < 0))) || (decide (most < l[j].N))) with
    | true=>rw [if_pos rfl,Z4p,if_pos rfl];rfl
    | false =>
      rw [if_neg (by decide),Z4p]
      cases Eo l[j].At with
      | false=>rfl
      | true =>
        rw [if_neg (by decide),Bc h1 (by omega),ih (j+1) n (by omega) (by omega)];simp
theorem Jk {l:List api_Cell} (hl:l.length≤3000) (most:Int):Z4n 1000001 l most=some (l.all (cellB most)):=by
  have:=Ou hl most l.length 0 1000001 (by omega) (by omega)
  rw [List.drop_zero] at this
  exact this
theorem Qe {p:List api_Thread} {i:Nat} (hi:i < p.length) (hr:p[i].Regs.length≤3000) (k:Option Bool):∀ (d j n:Nat),j+d=p[i].Regs.length→d < n→Z4x 1000001 k p (i:Int) n (j:Int)=if (p[i].Regs.drop j).all Cc=true then k else some false:=by
  intro d
  induction d with
  | zero =>
    intro j n hj hn
    obtain ⟨n,rfl⟩:∃ m,n=m+1:=⟨n - 1,by omega⟩
    rw [Z4x,Ao rfl hi]
    simp only [Option.bind_some]
    rw [if_neg (by omega),List.drop_of_length_le (by omega)];rfl
  | succ d ih =>
    intro j n hj hn
    obtain ⟨n,rfl⟩:∃ m,n=m+1:=⟨n - 1,by omega⟩
    have h1:j < p[i].Regs.length:=by omega
    rw [Z4x,Ao rfl hi]
    simp only [Option.bind_some]
    rw [if_pos (by omega),Ao rfl h1]
    simp only [Option.bind_some]
    rw [Fy]
    simp only [Option.bind_some]
    rw [List.drop_eq_getElem_cons h1,List.all_cons]
    cases Cc p[i].Regs[j] with
    | false=>rfl
    | true =>
      rw [if_pos rfl,Bc h1 (by omega),ih (j+1) n (by omega) (by omega)];simp
noncomputable def Qv (named:Bool) (t:api_Thread):Bool:=if named=true then Cy t else Cb t
theorem Mc {p:List api_Thread} (hl:p.length≤3000) (hs:∀ t∈p,WideT t) (named:Bool):∀ (d j n:Nat),j+d=p.length→d < n→Z4w 1000001 Z4t p named n (j:Int)=some ((p.drop j).all (Qv named)):=by
  intro d
  induction d with
  | zero =>
    intro j n hj hn
    obtain ⟨n,rfl⟩:∃ m,n=m+1:=⟨n - 1,by omega⟩
    rw [Z4w,if_neg (by omega),List.drop_of_length_le (by omega)];rfl
  | succ d ih =>
    intro j n hj hn
    obtain ⟨n,rfl⟩:∃ m,n=m+1:=⟨n - 1,by omega⟩
    have h1:j < p.length:=by omega
    have ht:=hs _ (List.getElem_mem h1)
    rw [Z4w,if_pos (by omega),Ao rfl h1]
    simp only [Option.bind_some]
    rw [Fy]
    simp only [Option.bind_some,Jd]
    rw [List.drop_eq_getElem_cons h1,List.all_cons]
    have hw:Qv named p[j]=(!((named != Cc p[j].Name) || ((!named) && (decide (p[j].Name≠[])))) && Di p[j]):=by
      unfold Qv Cy Cb
      cases named with
      | true=>simp
      | false =>
        by_cases e:p[j].Name=[]
        · rw [e];simp [Cc]
        · simp [e]
    rw [hw,Di]
    have fin:∀ b:Bool,Z4v 1000001 (Z4u (Z4w 1000001 Z4t p named n) (j:Int)) p (j:Int) b=some (!b && (p[j].Regs.all Cc && (p.drop (j+1)).all (Qv named))):=by
      intro b
      rw [Z4v]
      cases b with
      | true=>rfl
      | false =>
        rw [if_neg (by decide),show (0:Int)=((0:Nat):Int) from rfl,Qe h1 (by have:=ht.regs;omega) _ p[j].Regs.length 0 1000001 (by omega) (by have:=ht.regs;omega),List.drop_zero]
        cases p[j].Regs.all Cc with
        | false=>rfl
        | true=>rw [if_pos rfl,Z4u,Bc h1 (by omega),ih (j+1) n (by omega) (by omega)];rfl
    cases ((named != Cc p[j].Name) || ((!named) && (decide (p[j].Name≠[])))) with
    | true=>rw [if_pos rfl,fin];rfl
    | false =>
      rw [if_neg (by decide)]
      cases Eo p[j].At with
      | false=>rw [if_neg (by decide),fin];rfl
      | true =>
        rw [if_pos rfl,(Mk (by have:=ht.body;omega) ht.small).2]
        simp only [Option.bind_some]
        rw [fin]
        cases Ie p[j].Body <;> cases p[j].Regs.all Cc <;> simp
theorem Jy {p:List api_Thread} (hl:p.length≤3000) (hs:∀ t∈p,WideT t) (named:Bool):Z4s 1000001 p named=some (p.all (Qv named)):=by
  have:=Mc hl hs named p.length 0 1000001 (by omega) (by omega)
  rw [List.drop_zero] at this
  exact this
theorem Nn {p:api_Prog} (hp:WideP p) (k:Option Bool):∀ (d j n:Nat),j+d=p.Claims.length→d < n→Z4m 1000001 k p n (j:Int)=if (p.Claims.drop j).all Dl=true then k else some false:=by
  intro d
  have hC:=hp.claims
  induction d with
  | zero =>
    intro j n hj hn
    obtain ⟨n,rfl⟩:∃ m,n=m+1:=⟨n - 1,by omega⟩
    rw [Z4m,if_neg (by omega),List.drop_of_length_le (by omega)];rfl
  | succ d ih =>
    intro j n hj hn
    obtain ⟨n,rfl⟩:∃ m,n=m+1:=⟨n - 1,by omega⟩
    have h1:j < p.Claims.length:=by omega
    rw [Z4m,if_pos (by omega),Ao rfl h1]
    simp only [Option.bind_some,Jd]
    rw [List.drop_eq_getElem_cons h1,List.all_cons]
    conv=>rhs;rw [Dl]
    cases Eo p.Claims[j].At with
    | false=>rw [if_neg (by decide),Z4k];rfl
    | true =>
      rw [if_pos rfl,Ib (hp.claim _ (List.getElem_mem h1))]
      simp only [Option.bind_some]
      rw [Z4k]
      cases Gz p.Claims[j].E with
      | false=>rfl
      | true=>rw [if_neg (by decide),Bc h1 (by omega),ih (j+1) n (by omega) (by omega)];simp
theorem Oe {p:api_Prog} (hp:WideP p) (k:Option Bool):∀ (d j n:Nat),j+d=p.Lines.length→d < n→Z4l 1000001 k p n (j:Int)=if (p.Lines.drop j).all Fx=true then k else some false:=by
  intro d
  have hC:=hp.lines
  induction d with
  | zero =>
    intro j n hj hn
    obtain ⟨n,rfl⟩:∃ m,n=m+1:=⟨n - 1,by omega⟩
    rw [Z4l,if_neg (by omega),List.drop_of_length_le (by omega)];rfl
  | succ d ih =>
    intro j n hj hn
    obtain ⟨n,rfl⟩:∃ m,n=m+1:=⟨n - 1,by omega⟩
    have h1:j < p.Lines.length:=by omega
    have h2:=hp.line _ (List.getElem_mem h1)
    rw [Z4l,if_pos (by omega),Ao rfl h1]
    simp only [Option.bind_some]
    rw [List.drop_eq_getElem_cons h1,List.all_cons]
    conv=>rhs;rw [Fx]
    by_cases h:p.Lines[j].length=0
    · rw [if_pos (by omega),decide_eq_true h,Z4i];rfl
    · rw [if_neg (by omega), decide_eq_false h, Jk (by omega)]
      simp only [Option.bind_some]
      rw [Z4i]
      cases p.Lines[j].all (cellB 4294967296) with
      | false=>rfl
      | true=>rw [if_neg (by decide),Bc h1 (by omega),ih (j+1) n (by omega) (by omega)];simp
theorem Jp {p:api_Prog} (hp:WideP p):Z4g 1000001 p=some (Gn p):=by
  have hL:=hp.lines
  have hC:=hp.claims
  unfold Z4g
  rw [show (0:Int)=((0:Nat):Int) from rfl,Oe hp _ p.Lines.length 0 1000001 (by omega) (by omega),List.drop_zero]
  unfold Gn
  cases p.Lines.all Fx with
  | false=>rfl
  | true =>
    rw [if_pos rfl,Z4h,show (0:Int)=((0:Nat):Int) from rfl,Nn hp _ p.Claims.length 0 1000001 (by omega) (by omega),List.drop_zero]
    have hj4:Z4j 1000001 p=some (p.Vols.all (cellB 4294967296) && (p.Locks.all (cellB 0) && (p.Threads.all Cy && (p.Recover.all Cb && decide (p.Recover.length≤1))))):=by
      rw [Z4j,Jk (by have:=hp.vols;omega)]
      simp only [Option.bind_some]
      cases p.Vols.all (cellB 4294967296) with
      | false=>rfl
      | true =>
        rw [if_pos rfl,Jk (by have:=hp.locks;omega)]
        simp only [Option.bind_some]
        cases p.Locks.all (cellB 0) with
        | false=>rfl
        | true =>
          rw [if_pos rfl,Jy (by have:=hp.threads;omega) hp.thread]
          simp only [Option.bind_some]
          rw [show p.Threads.all (Qv true)=p.Threads.all Cy from rfl]
          cases p.Threads.all Cy with
          | false=>rfl
          | true =>
            rw [if_pos rfl,Jy (by have:=hp.recover;omega) hp.recov]
            simp only [Option.bind_some]
            rw [show p.Recover.all (Qv false)=p.Recover.all Cb from rfl]
            congr 1
            rw [show decide ((p.Recover.length:Int)≤1)=decide (p.Recover.length≤1) from by congr 1;exact propext (by omega)]
            simp
    rw [hj4]
    cases p.Claims.all Dl <;> cases p.Vols.all (cellB 4294967296) <;> cases p.Locks.all (cellB 0) <;> cases p.Threads.all Cy <;> cases p.Recover.all Cb <;> cases decide (p.Recover.length≤1) <;> rfl
end Go.MD.LB.W
namespace Go.MD.LB.W
open Go Go.MD Go.MD.LB
def Ce (p:api_Prog):List api_Thread:=p.Threads ++ p.Recover
theorem Km {p:api_Prog} (hp:SmallP p):(Ce p).length≤8∧∀ t∈Ce p,SmallT t:=by
  refine ⟨?_,fun t ht=>(List.mem_append.1 ht).elim (hp.thread t) (hp.recov t)⟩
  have:=hp.threads;have:=hp.recover
  simp only [Ce,List.length_append];omega
theorem Mh {p:api_Prog} (hp:WideP p):(Ce p).length≤2005∧∀ t∈Ce p,WideT t:=by
  refine ⟨?_,fun t ht=>(List.mem_append.1 ht).elim (hp.thread t) (hp.recov t)⟩
  have:=hp.threads;have:=hp.recover
  simp only [Ce,List.length_append];omega
theorem Oz {p:api_Prog} (hp:WideP p) (m:Nat):Z7t (m+3) p=some (Ce p):=by
  have h1:=hp.threads
  have h2:=hp.recover
  unfold Z7t Z8z
  have w1:IntKind.i64.wrap (0+(p.Threads.length:Int))=(p.Threads.length:Int):=by rw [w64 (by omega) (by omega)];omega
  have w2:IntKind.i64.wrap ((p.Threads.length:Int)+(p.Recover.length:Int))=((p.Threads.length+p.Recover.length:Nat):Int):=by rw [w64 (by omega) (by omega)];omega
  have i1:IntKind.i64.wrap (0+1)=1:=by decide
  have i2:IntKind.i64.wrap (1+1)=2:=by decide
  rw [Z92,if_pos (by show (0:Int) < 2;decide),N0]
  simp only [Option.bind_some,w1]
  rw [if_neg (by omega),i1,Z92,if_pos (by show (1:Int) < 2;decide),Qc]
  simp only [Option.bind_some,w2]
  rw [if_neg (by omega),i2,Z92,if_neg (by show ¬ (2:Int) < 2;decide),Z90]
  have hg:Pb 72 ((p.Threads.length+p.Recover.length:Nat):Int)=some ():=by
    unfold Pb
    rw [if_pos ⟨by omega,by omega,by omega⟩]
  rw [hg]
  simp only [Option.bind_some]
  rw [Z93,if_pos (by show (0:Int) < 2;decide),N0]
  simp only [Option.bind_some]
  rw [Bq (by simp;omega) (by decide)]
  simp only [Option.bind_some,List.nil_append]
  rw [i1,Z93,if_pos (by show (1:Int) < 2;decide),Qc]
  simp only [Option.bind_some]
  rw [Bq (by omega) (by decide)]
  simp only [Option.bind_some]
  rw [i2,Z93,if_neg (by show ¬ (2:Int) < 2;decide)]
  rfl
theorem Gi {p:api_Prog} (hp:WideP p):Z7t 1000001 p=some (Ce p):=Oz hp 999998
theorem Gw {p:api_Prog} (hp:WideP p):Z5u 1000001 p=some (Ce p):=by
  have h1:=hp.threads
  have h2:=hp.recover
  unfold Z5u
  rw [Bq (by simp;omega) (by decide)]
  simp only [Option.bind_some,List.nil_append]
  rw [Bq (by omega) (by decide)]
  rfl
def Es (l:List api_Cell):Bool:=!decide (4 < l.length)
def Kx (t:api_Thread):Bool:=!decide (4 < t.Regs.length)
theorem Xb (l:List api_Cell):Z7f 1000001 l=some (!Es l):=by
  unfold Z7f Es
  rw [Bool.not_not];congr 2;exact propext (by omega)
theorem Ty (t:api_Thread):Z7g 1000001 t=some (!Kx t):=by
  unfold Z7g Kx
  rw [Bool.not_not];congr 2;exact propext (by omega)
theorem Uc {l:List (List api_Cell)} (hl:l.length≤3000) (hs:∀ x∈l,True):Z95 1000001 l=some (!l.all Es):=by
  have key:∀ (d j n:Nat),j+d=l.length→d < n→∃ r,Z9k 1000001 Z9j l n (j:Int)=some r∧(decide (0≤r) = !(l.drop j).all Es):=by
    intro d
    induction d with
    | zero =>
      intro j n hj hn
      obtain ⟨n,rfl⟩:∃ m,n=m+1:=⟨n - 1,by omega⟩
      rw [Z9k,if_neg (by omega),List.drop_of_length_le (by omega)]
      exact ⟨-1,rfl,rfl⟩
    | succ d ih =>
      intro j n hj hn
      obtain ⟨n,rfl⟩:∃ m,n=m+1:=⟨n - 1,by omega⟩
      have h1:j < l.length:=by omega
      have h2:Z7f 1000001 l[j]=some (!Es l[j]):=Xb _
      rw [Z9k,if_pos (by omega),Ao rfl h1]
      simp only [Option.bind_some,h2]
      rw [List.drop_eq_getElem_cons h1,List.all_cons]
      cases hk:Es l[j] with
      | false=>exact ⟨j,by simp,by simp⟩
      | true =>
        obtain ⟨r,h2,h3⟩:=ih (j+1) n (by omega) (by omega)
        rw [Bc h1 (by omega)]
        exact ⟨r,by simpa using h2,by simpa using h3⟩
  obtain ⟨r,h1,h2⟩:=key l.length 0 1000001 (by omega) (by omega)
  unfold Z95 Z9i
  rw [show (0:Int)=((0:Nat):Int) from rfl,h1]
  simpa using h2
theorem Vt {l:List api_Thread} (hl:l.length≤3000) (hs:∀ x∈l,True):Z9c 1000001 l=some (!l.all Kx):=by
  have key:∀ (d j n:Nat),j+d=l.length→d < n→∃ r,Za5 1000001 Za4 l n (j:Int)=some r∧(decide (0≤r) = !(l.drop j).all Kx):=by
    intro d
    induction d with
    | zero =>
      intro j n hj hn
      obtain ⟨n,rfl⟩:∃ m,n=m+1:=⟨n - 1,by omega⟩
      rw [Za5,if_neg (by omega),List.drop_of_length_le (by omega)]
      exact ⟨-1,rfl,rfl⟩
    | succ d ih =>
      intro j n hj hn
      obtain ⟨n,rfl⟩:∃ m,n=m+1:=⟨n - 1,by omega⟩
      have h1:j < l.length:=by omega
      have h2:Z7g 1000001 l[j]=some (!Kx l[j]):=Ty _
      rw [Za5,if_pos (by omega),Ao rfl h1]
      simp only [Option.bind_some,h2]
      rw [List.drop_eq_getElem_cons h1,List.all_cons]
      cases hk:Kx l[j] with
      | false=>exact ⟨j,by simp,by simp⟩
      | true =>
        obtain ⟨r,h2,h3⟩:=ih (j+1) n (by omega) (by omega)
        rw [Bc h1 (by omega)]
        exact ⟨r,by simpa using h2,by simpa using h3⟩
  obtain ⟨r,h1,h2⟩:=key l.length 0 1000001 (by omega) (by omega)
  unfold Z9c Za3
  rw [show (0:Int)=((0:Nat):Int) from rfl,h1]
  simpa using h2
def Ks (p:api_Prog):Bool:=!(p.Lines.all Es && (Ce p).all Kx) || decide (4 < p.Lines.length∨4 < p.Vols.length∨2 < p.Locks.length∨p.Threads.length < 1∨3 < p.Threads.length∨4 < p.Claims.length)
theorem Un {p:api_Prog} (hp:WideP p):Z7e 1000001 p=some (Ks p):=by
  unfold Z7e Ks
  by_cases h1:4 < p.Lines.length
  · rw [if_pos (by omega),decide_eq_true (.inl h1)];simp
  · rw [if_neg (by omega), Uc (by have := hp.lines; omega) (fun _ _ => trivial)]
    simp only [Option.bind_some]
    cases p.Lines.all Es with
    | false=>rw [if_pos (by simp)];simp
    | true =>
      by_cases h2:4 < p.Vols.length∨2 < p.Locks.length∨p.Threads.length=0∨3 < p.Threads.length
      · rw [if_pos (by simp only [Bool.not_true,Bool.false_or,Bool.or_eq_true,decide_eq_true_eq];omega),decide_eq_true (by omega)];simp
      · rw [if_neg (by simp only [Bool.not_true, Bool.false_or, Bool.or_eq_true, decide_eq_true_eq]; omega), Gi hp]
        simp only [Option.bind_some]
        rw [Vt (by have:=(Mh hp).1;omega) (fun _ _=>trivial)]
        simp only [Option.bind_some]
        congr 1
        rw [show decide (4 < p.Lines.length∨4 < p.Vols.length∨2 < p.Locks.length∨p.Threads.length < 1∨3 < p.Threads.length∨4 < p.Claims.length)=decide (4 < (p.Claims.length:Int)) from by congr 1;exact propext (by omega)]
        simp
theorem Qj {p:api_Prog} (hp:WideP p) (k:Option Bool):∀ (d j n:Nat),j+d=p.Lines.length→d < n→Z5y 1000001 k p n (j:Int)=if (p.Lines.drop j).all Es=true then k else some true:=by
  intro d
  have hC:=hp.lines
  induction d with
  | zero =>
    intro j n hj hn
    obtain ⟨n,rfl⟩:∃ m,n=m+1:=⟨n - 1,by omega⟩
    rw [Z5y,if_neg (by omega),List.drop_of_length_le (by omega)];rfl
  | succ d ih =>
    intro j n hj hn
    obtain ⟨n,rfl⟩:∃ m,n=m+1:=⟨n - 1,by omega⟩
    have h1:j < p.Lines.length:=by omega
    rw [Z5y,if_pos (by omega),Ao rfl h1]
    simp only [Option.bind_some]
    rw [List.drop_eq_getElem_cons h1,List.all_cons]
    conv=>rhs;rw [Es]
    by_cases h:4 < p.Lines[j].length
    · rw [if_pos (by omega),decide_eq_true h];rfl
    · rw [if_neg (by omega),decide_eq_false h,Bc h1 (by omega),ih (j+1) n (by omega) (by omega)];simp
theorem Tc {l:List api_Thread} (hl:l.length≤3000) (k:Option Bool):∀ (d j n:Nat),j+d=l.length→d < n→Z5z 1000001 k l n (j:Int)=if (l.drop j).all Kx=true then k else some true:=by
  intro d
  induction d with
  | zero =>
    intro j n hj hn
    obtain ⟨n,rfl⟩:∃ m,n=m+1:=⟨n - 1,by omega⟩
    rw [Z5z,if_neg (by omega),List.drop_of_length_le (by omega)];rfl
  | succ d ih =>
    intro j n hj hn
    obtain ⟨n,rfl⟩:∃ m,n=m+1:=⟨n - 1,by omega⟩
    have h1:j < l.length:=by omega
    rw [Z5z,if_pos (by omega),Ao rfl h1]
    simp only [Option.bind_some]
    rw [List.drop_eq_getElem_cons h1,List.all_cons]
    conv=>rhs;rw [Kx]
    by_cases h:4 < l[j].Regs.length
    · rw [if_pos (by omega),decide_eq_true h];rfl
    · rw [if_neg (by omega),decide_eq_false h,Bc h1 (by omega),ih (j+1) n (by omega) (by omega)];simp
theorem Rr {p:api_Prog} (hp:WideP p):Z5v 1000001 p=some (Ks p):=by
  have hL:=hp.lines
  have hT:=(Mh hp).1
  unfold Z5v Ks
  rw [show (0:Int)=((0:Nat):Int) from rfl,Qj hp _ p.Lines.length 0 1000001 (by omega) (by omega),List.drop_zero]
  cases p.Lines.all Es with
  | false=>rfl
  | true =>
    rw [if_pos rfl,Z5w,Gw hp]
    simp only [Option.bind_some]
    rw [show (0:Int)=((0:Nat):Int) from rfl,Tc (by omega) _ (Ce p).length 0 1000001 (by omega) (by omega),List.drop_zero]
    cases (Ce p).all Kx with
    | false=>rfl
    | true =>
      rw [if_pos rfl,Z5x]
      congr 1
      rw [Bool.eq_iff_iff]
      simp only [Bool.or_eq_true,decide_eq_true_eq,Bool.and_self,Bool.not_true,Bool.false_or]
      omega
def B.wild:B→Int→Option Int
  | .nil,_=>none
  | .cons x a c r,n=>if 64 < (if x.Kind=12 then n * x.N else n) then some x.At else ((a.wild (if x.Kind=12 then n * x.N else n)).or (c.wild (if x.Kind=12 then n * x.N else n))).or (r.wild n)
theorem B.app_wild:∀ (b c:B) (n:Int),(b.app c).wild n=(b.wild n).or (c.wild n)
  | .nil,c,n=>rfl
  | .cons x a d r, c, n => by
    simp only [B.app,B.wild]
    generalize (if x.Kind=12 then n * x.N else n)=m
    split
    · rfl
    · rw [B.app_wild r c n];simp only [Option.or_assoc]
theorem B.app_size:∀ b c:B,(b.app c).size=b.size+c.size
  | .nil,c=>by simp [B.app,B.size]
  | .cons x a d r,c=>by simp only [B.app,B.size,B.app_size r c];omega
theorem B.app_depth:∀ b c:B,(b.app c).depth=max b.depth c.depth
  | .nil,c=>by simp [B.app,B.depth]
  | .cons x a d r, c => by
    simp only [B.app,B.depth,B.app_depth r c]
    split <;> omega
theorem B.app_okN {c:B} (hc:c.okN):∀ b:B,b.okN→(b.app c).okN
  | .nil,_=>hc
  | .cons x a d r,⟨h1,h2,h3,h4⟩=>⟨h1,h2,h3,B.app_okN hc r h4⟩
theorem OKB.ac {x:api_Stmt} {a c r:B} (h:OKB (.cons x a c r)):OKB (a.app c):=by
  have ha:=h.a
  have hc:=h.c
  obtain ⟨⟨p,hg⟩,hn,hs,hd⟩:=h
  have hdd:=Kg x a c r p hg
  simp only [B.size] at hs
  refine ⟨⟨inL x p,B.app_good hg.2.2.2.2.2.2.1 a hg.2.2.2.2.2.1⟩,B.app_okN hn.2.2.1 a hn.2.1,?_,?_⟩
  · rw [B.app_size];omega
  · rw [B.app_depth];omega
theorem Oh {l:List api_Stmt} {i:Nat} {x:api_Stmt} {a c r:B} (hl:l.length≤40) (hb:OKB (.cons x a c r)) (h:l.drop i=(B.cons x a c r).flat) :
    Et l ((i+1:Nat):Int) ((i+1+a.size+c.size:Nat):Int)=some (a.app c).flat:=by
  obtain ⟨h1,h2,w1,w2,w3,s1,s2,s3,s4⟩:=parts hl hb h
  rw [show i+1+a.size+c.size=(i+1)+(a.size+c.size) from by omega,Ga (by omega)]
  have e:l.drop (i+1)=a.flat ++ (c.flat ++ r.flat):=by
    have:=congrArg (List.drop 1) h
    rw [List.drop_drop] at this
    simpa [B.flat] using this
  rw [e,← List.append_assoc,← B.app_flat,List.take_left']
  rw [B.flat_len,B.app_size]
def Kj (o:Option Int):Int×Bool:=match o with | some v=>(v,true) | none=>(0,false)
theorem Rn:∀ (f:Nat) (b:B),OKB b→b.size+2≤f→∀ m:Int,0≤m→m≤64→Z87 f b.flat m=some (Kj (b.wild m)):=by
  intro f
  induction f with
  | zero=>intro b _ h;omega
  | succ f ih =>
    intro b hb hf m hm0 hm
    have hl:b.flat.length≤40:=by rw [B.flat_len];exact hb.size
    have key:∀ (t:B) (i n:Nat),OKB t→b.flat.drop i=t.flat→t.size < n→t.size≤b.size→Z8a (Z87 f) f Z88 b.flat m n (i:Int)=some (Kj (t.wild m)):=by
      intro t
      induction t with
      | nil =>
        intro i n ht hd hn _
        obtain ⟨n,rfl⟩:∃ q,n=q+1:=⟨n - 1,by omega⟩
        have:b.flat.length≤i:=by have:=congrArg List.length hd;simp [B.flat] at this;omega
        rw [Z8a,if_neg (by omega)];rfl
      | cons x a c r iha ihc ihr =>
        intro i n ht hd hn hsz
        obtain ⟨n,rfl⟩:∃ q,n=q+1:=⟨n - 1,by omega⟩
        obtain ⟨h1,h2,w1,w2,w3,s1,s2,s3,s4⟩:=parts hl ht hd
        have s5:=Oh hl ht hd
        simp only [B.size] at hn hsz
        rw [Z8a,if_pos (by omega),h2]
        simp only [Option.bind_some]
        have next:∀ q:Int,0≤q→q=(if x.Kind=12 then m * x.N else m)→Z89 (Z87 f) (Z8a (Z87 f) f Z88 b.flat m n) b.flat x (i:Int) q=some (Kj ((B.cons x a c r).wild m)):=by
          intro q hq0 hq
          rw [Z89,B.wild,← hq]
          by_cases h64:64 < q
          · rw [if_pos h64,if_pos h64];rfl
          · rw [if_neg h64, if_neg h64]
            simp only [w1,w2,w3,s5,Option.bind_some]
            rw [ih (a.app c) ht.ac (by rw [B.app_size];omega) q hq0 (by omega),B.app_wild]
            simp only [Option.bind_some]
            cases (a.wild q).or (c.wild q) with
            | some v=>rfl
            | none=>rw [show (Kj none).2=false from rfl,if_neg (by decide),Option.none_or,ihr _ n ht.r s3 (by omega) (by omega)]
        by_cases k2:x.Kind=12
        · have hN := ht.okN.1 k2
          rw [if_pos k2]
          obtain ⟨u,rfl⟩:∃ u:Nat,m=(u:Int):=⟨m.toNat,by omega⟩
          obtain ⟨z,hz⟩:∃ z:Nat,x.N=(z:Int):=⟨x.N.toNat,by omega⟩
          have hb2:u * z≤64 * 8:=Nat.mul_le_mul (by omega) (by omega)
          have hw:IntKind.i64.wrap ((u:Int) * x.N)=(u:Int) * x.N:=by
            rw [hz,← Int.natCast_mul]
            generalize u * z=y at hb2
            rw [w64 (by omega) (by omega)]
          rw [hw]
          exact next _ (by rw [hz,← Int.natCast_mul];omega) (by rw [if_pos k2])
        · rw [if_neg k2]
          exact next m hm0 (by rw [if_neg k2])
    rw [Z87]
    exact key b 0 f hb List.drop_zero (by omega) (Nat.le_refl _)
theorem Hi:∀ (b:B) (n:Int) {v:Int},b.wild n=some v→∃ x∈b.flat,v=x.At
  | .nil,n,v,h=>by simp [B.wild] at h
  | .cons x a c r, n, v, h => by
    simp only [B.wild] at h
    generalize (if x.Kind=12 then n * x.N else n)=m at h
    split at h
    · injection h with h;exact ⟨x,.head _,h.symm⟩
    · rw [Option.or_eq_some_iff, Option.or_eq_some_iff] at h
      rcases h with (h | ⟨_,h⟩) | ⟨_,h⟩
      · obtain ⟨y,hy,e⟩:=Hi a _ h;exact ⟨y,by simp [B.flat,hy],e⟩
      · obtain ⟨y,hy,e⟩:=Hi c _ h;exact ⟨y,by simp [B.flat,hy],e⟩
      · obtain ⟨y,hy,e⟩:=Hi r _ h;exact ⟨y,by simp [B.flat,hy],e⟩
theorem Vj:∀ (f:Nat) (b:B),OKB b→(∀ x∈b.flat,0≤x.At)→b.size+2≤f→∀ m:Int,0≤m→m≤64→Z6g f b.flat m=some ((b.wild m).getD (-1)):=by
  intro f
  induction f with
  | zero=>intro b _ _ h;omega
  | succ f ih =>
    intro b hb hat hf m hm0 hm
    cases b with
    | nil=>rfl
    | cons x a c r =>
      have hl:(B.cons x a c r).flat.length≤40:=by rw [B.flat_len];exact hb.size
      obtain ⟨h1,h2,w2,w3,s1,s2,s3⟩:=Jah hb rfl
      have s5:=Oh (i:=0) hl hb List.drop_zero
      simp only [Nat.zero_add] at s5
      simp only [B.size] at hf
      have hac:∀ y∈(a.app c).flat,0≤y.At:=fun y hy=>hat y (by rw [B.app_flat] at hy;simp only [B.flat,List.mem_cons,List.mem_append];rcases List.mem_append.1 hy with h | h <;> simp [h])
      have hr:∀ y∈r.flat,0≤y.At:=fun y hy=>hat y (by simp [B.flat,hy])
      have next:∀ q:Int,0≤q→q=(if x.Kind=12 then m * x.N else m)→Z6h (Z6g f) (B.cons x a c r).flat m x q=some (((B.cons x a c r).wild m).getD (-1)):=by
        intro q hq0 hq
        rw [Z6h,B.wild,← hq]
        by_cases h64:64 < q
        · rw [if_pos h64,if_pos h64];rfl
        · rw [if_neg h64, if_neg h64]
          simp only [w2,w3]
          rw [show (1:Int)=((1:Nat):Int) from rfl,s5]
          simp only [Option.bind_some]
          rw [ih (a.app c) hb.ac hac (by rw [B.app_size];omega) q hq0 (by omega)]
          simp only [Option.bind_some]
          have hsp:=B.app_wild a c q
          cases hw:(a.app c).wild q with
          | some v =>
            rw [hw] at hsp
            obtain ⟨y,hy,e⟩:=Hi _ _ hw
            have:=hac y hy
            rw [← hsp,Option.getD_some,if_pos (by omega)];rfl
          | none =>
            rw [hw] at hsp
            rw [← hsp,Option.getD_none,if_neg (by decide),s3]
            simp only [Option.bind_some]
            rw [ih r hb.r hr (by omega) m hm0 hm];rfl
      generalize hl:(B.cons x a c r).flat=l at h1 h2 next
      rw [Z6g,if_neg (by omega),h2]
      simp only [Option.bind_some]
      by_cases k2:x.Kind=12
      · have hN := hb.okN.1 k2
        rw [if_pos k2]
        obtain ⟨u,rfl⟩:∃ u:Nat,m=(u:Int):=⟨m.toNat,by omega⟩
        obtain ⟨z,hz⟩:∃ z:Nat,x.N=(z:Int):=⟨x.N.toNat,by omega⟩
        have hb2:u * z≤64 * 8:=Nat.mul_le_mul (by omega) (by omega)
        have hw:IntKind.i64.wrap ((u:Int) * x.N)=(u:Int) * x.N:=by
          rw [hz,← Int.natCast_mul]
          generalize u * z=y at hb2
          rw [w64 (by omega) (by omega)]
        rw [hw]
        exact next _ (by rw [hz,← Int.natCast_mul];omega) (by rw [if_pos k2])
      · rw [if_neg k2]
        exact next m hm0 (by rw [if_neg k2])
end Go.MD.LB.W
namespace Go.MD.LB.W
open Go Go.MD Go.MD.LB
theorem Ho {m1 m2:List (Str×Int)} {k:Str}:Bf k (m1 ++ m2)=(Bf k m1).or (Bf k m2):=by
  induction m1 with
  | nil=>simp [Bf]
  | cons x r ih =>
    simp only [List.cons_append,Bf]
    split
    · simp
    · exact ih
theorem Ii {m:List (Str×Int)} {k:Str}:Bf k m=none↔k ∉ m.map (·.1):=by
  induction m with
  | nil=>simp [Bf]
  | cons x r ih =>
    simp only [Bf,List.map_cons,List.mem_cons,not_or]
    split
    · rename_i h;simp [h]
    · rename_i h;rw [ih];simp [h]
theorem Sm {m:List (Str×Int)} {k:Str} {v:Int} (h:Bf k m=some v):∃ e∈m,e.2=v:=by
  induction m with
  | nil=>simp [Bf] at h
  | cons x r ih =>
    simp only [Bf] at h
    split at h
    · exact ⟨x,.head _,Option.some.inj h⟩
    · obtain ⟨e,h1,h2⟩:=ih h;exact ⟨e,.tail _ h1,h2⟩
theorem Kf {m:List (Str×Int)} (hm:∀ e∈m,e.2≠0) (k:Str):(Bf k m).getD 0≠0↔k∈m.map (·.1):=by
  cases h:Bf k m with
  | none=>have:=Ii.1 h;simp [this]
  | some v =>
    obtain ⟨e,h1,h2⟩:=Sm h
    have h3:=hm e h1
    have h4:k∈m.map (·.1):=Decidable.byContradiction fun h5=>by rw [Ii.2 h5] at h;cases h
    simp only [Option.getD_some,h4,iff_true]
    exact h2 ▸ h3
theorem Pp {m:List (Str×Int)} {k:Str} {v:Int} (h:k ∉ m.map (·.1)):Ih k v m=m ++ [(k,v)]:=by
  unfold Ih;rw [Ii.2 h];rfl
theorem Cz {α:Type} {l:List α} {f:α→Str} {v:Int} {k:Str}:Bf k (l.map fun x=>(f x,v))=if k∈l.map f then some v else none:=by
  induction l with
  | nil=>rfl
  | cons x r ih =>
    simp only [List.map_cons,Bf,List.mem_cons]
    by_cases h:k=f x
    · rw [if_pos h,if_pos (.inl h)]
    · rw [if_neg h, ih]
      simp [h]
abbrev NSt:=List (Str×Int)×Int×Bool
abbrev Ent:=Str×Int×Int
def Fw (s:NSt) (e:Ent):NSt:=
  if ((decide (((Bf e.1 s.1).getD 0)≠0)) && (!s.2.2))=true then (Ih e.1 e.2.1 s.1,e.2.2,true) else (Ih e.1 e.2.1 s.1,s.2.1,s.2.2)
theorem Nq (N:Nat) (e:Ent) (s:NSt):Z7i N e.1 e.2.1 e.2.2 s.1 s.2.2 s.2.1=some ((Fw s e).1,(Fw s e).2.2,(Fw s e).2.1):=by
  unfold Z7i Fw
  split <;> rfl
def Hz (n:Nat) (x:api_Cell×Int):Ent:=(x.1.Name,if (n:Int)≤x.2 then 2 else 1,x.1.At)
def My (c:api_Cell):Ent:=(c.Name,3,c.At)
def Iu (t:api_Thread):Ent:=(t.Name,4,t.At)
def Nj (p:api_Prog):List Ent:=(Pl p).map (Hz p.Lines.length) ++ (p.Locks.map My ++ p.Threads.map Iu)
theorem Lb (p:api_Prog):∀ (l:List (api_Cell×Int)) (s:NSt),Oc (yy (fun (s:NSt) (x:api_Cell×Int)=>(Z7k 1000001 p) s.1 s.2.1 s.2.2 x)) l (.inl s)=some (.inl ((l.map (Hz p.Lines.length)).foldl Fw s))
  | [],s=>rfl
  | x :: l, s => by
    have e:Z7k 1000001 p s.1 s.2.1 s.2.2 x=some (.inl (Fw s (Hz p.Lines.length x))):=by
      unfold Z7k Hz
      split
      · have := Nq 1000001 (x.1.Name, 2, x.1.At) s
        rw [Z7l,this];rfl
      · have := Nq 1000001 (x.1.Name, 1, x.1.At) s
        rw [Z7l,this];rfl
    simp only [Oc,yy,e,Option.map_some,Option.bind_some,Sum.isLeft_inl,if_true]
    exact Lb p l _
theorem N5 {p:api_Prog} (hK:p.Locks.length≤3000) (k:List (Str×Int)→Int→Bool→Option NSt):∀ (d j n:Nat) (s:NSt),j+d=p.Locks.length→d < n→
    Z7o 1000001 k p n s.1 s.2.1 s.2.2 (j:Int)=(fun t:NSt=>k t.1 t.2.1 t.2.2) (((p.Locks.drop j).map My).foldl Fw s):=by
  intro d
  induction d with
  | zero =>
    intro j n s hj hn
    obtain ⟨n,rfl⟩:∃ m,n=m+1:=⟨n - 1,by omega⟩
    rw [Z7o,if_neg (by omega),List.drop_of_length_le (by omega)]
    rfl
  | succ d ih =>
    intro j n s hj hn
    obtain ⟨n,rfl⟩:∃ m,n=m+1:=⟨n - 1,by omega⟩
    have h1:j < p.Locks.length:=by omega
    have e:=Nq 1000001 (My p.Locks[j]) s
    rw [Z7o,if_pos (by omega),Ao rfl h1]
    simp only [Option.bind_some]
    simp only [My] at e
    rw [e]
    simp only [Option.bind_some]
    rw [Bc h1 (by omega),List.drop_eq_getElem_cons h1,List.map_cons,List.foldl_cons]
    exact ih (j+1) n (Fw s (My p.Locks[j])) (by omega) (by omega)
theorem Ma {p:api_Prog} (hK:p.Threads.length≤3000) (k:List (Str×Int)→Int→Bool→Option NSt):∀ (d j n:Nat) (s:NSt),j+d=p.Threads.length→d < n→
    Z7p 1000001 k p n s.1 s.2.1 s.2.2 (j:Int)=(fun t:NSt=>k t.1 t.2.1 t.2.2) (((p.Threads.drop j).map Iu).foldl Fw s):=by
  intro d
  induction d with
  | zero =>
    intro j n s hj hn
    obtain ⟨n,rfl⟩:∃ m,n=m+1:=⟨n - 1,by omega⟩
    rw [Z7p,if_neg (by omega),List.drop_of_length_le (by omega)]
    rfl
  | succ d ih =>
    intro j n s hj hn
    obtain ⟨n,rfl⟩:∃ m,n=m+1:=⟨n - 1,by omega⟩
    have h1:j < p.Threads.length:=by omega
    have e:=Nq 1000001 (Iu p.Threads[j]) s
    rw [Z7p,if_pos (by omega),Ao rfl h1]
    simp only [Option.bind_some]
    simp only [Iu] at e
    rw [e]
    simp only [Option.bind_some]
    rw [Bc h1 (by omega),List.drop_eq_getElem_cons h1,List.map_cons,List.foldl_cons]
    exact ih (j+1) n (Fw s (Iu p.Threads[j])) (by omega) (by omega)
theorem Ob {p:api_Prog} (hp:WideP p):Z7h 1000001 p=some ((Nj p).foldl Fw ([],0,false)):=by
  have h1:=hp.locks
  have h2:=hp.threads
  unfold Z7h Z77
  simp only [Option.bind_some]
  rw [JaD _ _ hp,Lb p (Pl p) ([],0,false)]
  simp only [Option.bind_some]
  unfold Nj
  rw [List.foldl_append,List.foldl_append]
  generalize ((Pl p).map (Hz p.Lines.length)).foldl Fw ([],0,false)=s
  obtain ⟨m,a,t⟩:=s
  have e1:=N5 (p:=p) (by omega) (Z7m 1000001 p) p.Locks.length 0 1000001 (m,a,t) (by omega) (by omega)
  simp only [List.drop_zero] at e1
  refine e1.trans ?_
  generalize (p.Locks.map My).foldl Fw (m,a,t)=s
  have e2:=Ma (p:=p) (by omega) Z7n p.Threads.length 0 1000001 s (by omega) (by omega)
  simp only [List.drop_zero] at e2
  exact e2
def Ej:List (Str×Int)→List Str→Option Int
  | [],_=>none
  | e :: r,seen=>if e.1∈seen then some e.2 else Ej r (seen ++ [e.1])
theorem Pn:∀ (l:List Ent) (m:List (Str×Int)) (a:Int),∃ m',l.foldl Fw (m,a,true)=(m',a,true)
  | [],m,a=>⟨m,rfl⟩
  | e :: l, m, a => by
    simp only [List.foldl_cons,Fw,Bool.not_true,Bool.and_false]
    exact Pn l _ a
theorem Sb:∀ (l:List Ent) (m:List (Str×Int)) (a:Int),(∀ e∈m,e.2≠0)→(∀ e∈l,e.2.1≠0)→
    (∀ v,Ej (l.map fun e=>(e.1,e.2.2)) (m.map (·.1))=some v→∃ m',l.foldl Fw (m,a,false)=(m',v,true))∧
    (Ej (l.map fun e=>(e.1,e.2.2)) (m.map (·.1))=none→l.foldl Fw (m,a,false)=(m ++ l.map fun e=>(e.1,e.2.1),a,false))
  | [],m,a,_,_=>⟨fun v h=>by simp [Ej] at h,fun _=>by simp⟩
  | e :: l, m, a, hm, hl => by
    simp only [List.map_cons,Ej,List.foldl_cons]
    by_cases h:e.1∈m.map (·.1)
    · rw [if_pos h]
      have h':(Bf e.1 m).getD 0≠0:=(Kf hm _).2 h
      refine ⟨fun v hv=>?_,fun hv=>by cases hv⟩
      injection hv with hv
      subst hv
      simp only [Fw,decide_eq_true h',Bool.not_false,Bool.and_self,if_true]
      exact Pn l _ _
    · rw [if_neg h]
      have h' : ¬ (Bf e.1 m).getD 0≠0:=fun q=>h ((Kf hm _).1 q)
      have e1:Fw (m,a,false) e=(m ++ [(e.1,e.2.1)],a,false):=by
        simp only [Fw,decide_eq_false h',Bool.false_and]
        rw [Pp h];rfl
      rw [e1]
      have:=Sb l (m ++ [(e.1,e.2.1)]) a (fun x hx=>by
        rcases List.mem_append.1 hx with hx | hx
        · exact hm x hx
        · simp only [List.mem_cons, List.not_mem_nil, or_false] at hx
          subst hx;exact hl e (.head _)) (fun x hx=>hl x (.tail _ hx))
      simp only [List.map_append,List.map_cons,List.map_nil] at this
      refine ⟨this.1,fun q=>?_⟩
      rw [this.2 q,List.append_assoc];rfl
theorem Jaf {p:api_Prog}:∀ e∈Nj p,e.2.1≠0:=by
  intro e he
  simp only [Nj,List.mem_append,List.mem_map] at he
  rcases he with ⟨x,_,rfl⟩ | ⟨x,_,rfl⟩ | ⟨x,_,rfl⟩
  · unfold Hz;simp only;split <;> decide
  · show (3:Int)≠0;decide
  · show (4:Int)≠0;decide
def Dd (p:api_Prog):List (Str×Int):=(Ca p).map (fun c=>(c.Name,c.At)) ++ (p.Locks.map (fun c=>(c.Name,c.At)) ++ p.Threads.map fun t=>(t.Name,t.At))
theorem Tb (p:api_Prog):(Nj p).map (fun e=>(e.1,e.2.2))=Dd p:=by
  simp only [Nj,Dd,List.map_append,List.map_map,← Tz]
  rfl
def Kd (p:api_Prog):List (Str×Int):=(Nj p).map fun e=>(e.1,e.2.1)
theorem Su {p:api_Prog} (hp:WideP p) :
    (∀ v,Ej (Dd p) []=some v→∃ m,Z7h 1000001 p=some (m,v,true))∧(Ej (Dd p) []=none→Z7h 1000001 p=some (Kd p,0,false)):=by
  have h:=Sb (Nj p) [] 0 (fun e he=>by cases he) Jaf
  rw [Tb] at h
  rw [Ob hp]
  refine ⟨fun v hv=>?_,fun hv=>?_⟩
  · obtain ⟨m,hm⟩:=h.1 v hv;exact ⟨m,by rw [hm]⟩
  · rw [h.2 hv];rfl
theorem Ki {p:api_Prog} (hp:WideP p):∃ r,Z7h 1000001 p=some r:=⟨_,Ob hp⟩
theorem Kq:∀ (a b:List Str) (s:Str) (k:Nat),Dp (a ++ b) s k=if s∈a then Dp a s k else Dp b s (k+a.length)
  | [],b,s,k=>by simp
  | x :: a, b, s, k => by
    simp only [List.cons_append,Dp,List.mem_cons,List.length_cons]
    by_cases h:x=s
    · rw [if_pos h,if_pos (.inl h.symm),if_pos h]
    · rw [if_neg h, if_neg h, Kq a b s (k + 1)]
      by_cases h2:s∈a
      · rw [if_pos h2,if_pos (.inr h2)]
      · rw [if_neg h2, if_neg (by rintro (q | q); exact h q.symm; exact h2 q)]
        congr 1;omega
theorem Lg {l:List Str} {j:Nat} (hj:j < l.length):Dp l (l[j]'hj) 0 < (j:Int)↔(l[j]'hj)∈l.take j:=by
  have e:l=l.take j ++ l.drop j:=(List.take_append_drop j l).symm
  have hlen:(l.take j).length=j:=by rw [List.length_take];omega
  have e2:Dp l (l[j]'hj) 0=Dp (l.take j ++ l.drop j) (l[j]'hj) 0:=by rw [← e]
  rw [e2,Kq]
  by_cases h:(l[j]'hj)∈l.take j
  · rw [if_pos h]
    have:=((Dm (l.take j) (l[j]'hj) 0).2 h).2
    rw [hlen] at this
    exact ⟨fun _=>h,fun _=>by omega⟩
  · rw [if_neg h, List.drop_eq_getElem_cons hj, Dp, if_pos rfl, hlen]
    exact ⟨fun q=>by omega,fun q=>absurd q h⟩
theorem Fl {l:List Str} {s:Str}:0≤Dp l s 0↔s∈l:=(Dm l s 0).1
def Vk (c:api_Cell):Str×Int:=(c.Name,c.At)
theorem Tr {l:List api_Cell} (hl:l.length≤200):∀ (d j n:Nat),j+d=l.length→d < n→Z6b 1000001 Z69 l (l.map (·.Name)) n (j:Int)=some ((Ej ((l.drop j).map Vk) ((l.take j).map (·.Name))).getD (-1)):=by
  intro d
  induction d with
  | zero =>
    intro j n hj hn
    obtain ⟨n,rfl⟩:∃ m,n=m+1:=⟨n - 1,by omega⟩
    rw [Z6b,if_neg (by omega),List.drop_of_length_le (by omega)]
    rfl
  | succ d ih =>
    intro j n hj hn
    obtain ⟨n,rfl⟩:∃ m,n=m+1:=⟨n - 1,by omega⟩
    have h1:j < l.length:=by omega
    rw [Z6b,if_pos (by omega),Ao rfl h1]
    simp only [Option.bind_some]
    rw [Ei (by simp;omega) (by simp;omega)]
    simp only [Option.bind_some]
    rw [List.drop_eq_getElem_cons h1,List.map_cons,Ej]
    have hb:=Lg (l:=l.map (·.Name)) (j:=j) (by simpa using h1)
    rw [List.getElem_map,← List.map_take] at hb
    by_cases h:l[j].Name∈(l.take j).map (·.Name)
    · have h' : (Vk l[j]).1 ∈ (l.take j).map (·.Name) := h
      rw [if_pos (hb.2 h),if_pos h'];rfl
    · have h' : ¬ (Vk l[j]).1 ∈ (l.take j).map (·.Name) := h
      rw [if_neg (fun q=>h (hb.1 q)),if_neg h',Bc h1 (by omega),ih (j+1) n (by omega) (by omega),List.take_succ_eq_append_getElem h1,List.map_append]
      rfl
theorem Uj {p:api_Prog} (hT:p.Threads.length≤100) (k:List api_Cell→Option Int):∀ (d j n:Nat) (out:List api_Cell),j+d=p.Threads.length→d < n→out.length≤3000+j→
    Z6a 1000001 k p n out (j:Int)=k (out ++ (p.Threads.drop j).map fun t=>api_Cell.mk t.Name 0 t.At):=by
  intro d
  induction d with
  | zero =>
    intro j n out hj hn ho
    obtain ⟨n,rfl⟩:∃ m,n=m+1:=⟨n - 1,by omega⟩
    rw [Z6a,if_neg (by omega),List.drop_of_length_le (by omega)]
    simp
  | succ d ih =>
    intro j n out hj hn ho
    obtain ⟨n,rfl⟩:∃ m,n=m+1:=⟨n - 1,by omega⟩
    have h1:j < p.Threads.length:=by omega
    rw [Z6a,if_pos (by omega),Ao rfl h1]
    simp only [Option.bind_some]
    rw [Bq (by simp;omega) (by decide)]
    simp only [Option.bind_some]
    rw [Bc h1 (by omega),ih (j+1) n _ (by omega) (by omega) (by simp;omega),List.drop_eq_getElem_cons h1,List.map_cons,List.append_assoc]
    rfl
theorem Um {p:api_Prog} (hp:SmallP p):Z67 1000001 p=some ((Ej (Dd p) []).getD (-1)):=by
  have h1:=hp.locks
  have h2:=hp.threads
  have hC:=Dr hp
  unfold Z67
  rw [Ps hp]
  simp only [Option.bind_some]
  rw [Bq (by simp;omega) (by decide)]
  simp only [Option.bind_some,List.nil_append]
  rw [Bq (by omega) (by decide)]
  simp only [Option.bind_some]
  rw [show (0:Int)=((0:Nat):Int) from rfl,Uj (by omega) _ p.Threads.length 0 1000001 _ (by omega) (by omega) (by simp;omega),List.drop_zero,Z68]
  have hl:(Ca p ++ p.Locks ++ p.Threads.map fun t=>api_Cell.mk t.Name 0 t.At).length≤200:=by simp;omega
  rw [La hl]
  simp only [Option.bind_some]
  have e:=Tr hl _ 0 1000001 (Nat.zero_add _) (by omega)
  rw [List.drop_zero,List.take_zero] at e
  refine Eq.trans e ?_
  congr 2
  unfold Dd
  simp only [List.map_append,List.append_assoc,List.map_map]
  rfl
end Go.MD.LB.W
namespace Go.MD.LB.W
open Go Go.MD Go.MD.LB
def Fb (p:api_Prog):List (Str×Int):=p.Lines.flatten.map (fun c=>(c.Name,(1:Int))) ++ (p.Vols.map (fun c=>(c.Name,(2:Int))) ++ p.Locks.map (fun c=>(c.Name,(3:Int))))
theorem Mw:∀ (ls:List (List api_Cell)) (i n:Nat),i+ls.length≤n→((Ju ls i).map (Hz n)).map (fun e=>(e.1,e.2.1))=ls.flatten.map (fun c=>(c.Name,(1:Int)))
  | [],_,_,_=>rfl
  | l :: r, i, n, h => by
    simp only [List.length_cons] at h
    simp only [Ju,List.map_append,List.flatten_cons,Mw r (i+1) n (by omega),List.map_map]
    congr 1
    apply List.map_congr_left
    intro c _
    simp only [Function.comp,Hz]
    rw [if_neg (by omega)]
theorem Pk:∀ (vs:List api_Cell) (i n:Nat),n≤i→((Ow vs i).map (Hz n)).map (fun e=>(e.1,e.2.1))=vs.map (fun c=>(c.Name,(2:Int)))
  | [],_,_,_=>rfl
  | c :: r, i, n, h => by
    simp only [Ow,List.map_cons,Pk r (i+1) n (by omega)]
    congr 1
    simp only [Hz]
    rw [if_pos (by omega)]
theorem Sd (p:api_Prog):Kd p=Fb p ++ p.Threads.map (fun t=>(t.Name,(4:Int))):=by
  unfold Kd Nj Pl Fb
  simp only [List.map_append]
  rw [Mw p.Lines 0 _ (by omega),Pk p.Vols _ _ (Nat.le_refl _)]
  simp only [List.map_map,List.append_assoc]
  rfl
theorem Rt {p:api_Prog}:∀ e∈Fb p,e.2≠0∧e.2≠4:=by
  intro e he
  simp only [Fb,List.mem_append,List.mem_map] at he
  rcases he with ⟨x,_,rfl⟩ | ⟨x,_,rfl⟩ | ⟨x,_,rfl⟩
  · exact ⟨by show (1:Int)≠0;decide,by show (1:Int)≠4;decide⟩
  · exact ⟨by show (2:Int)≠0;decide,by show (2:Int)≠4;decide⟩
  · exact ⟨by show (3:Int)≠0;decide,by show (3:Int)≠4;decide⟩
theorem Pd (p:api_Prog):(Kd p).filter (fun q=>decide (q.2≠4))=Fb p:=by
  rw [Sd,List.filter_append,List.filter_eq_self.2 (fun e he=>decide_eq_true (Rt e he).2),List.filter_eq_nil_iff.2,List.append_nil]
  intro e he
  obtain ⟨x,_,rfl⟩:=List.mem_map.1 he
  simp
def Fi (p:api_Prog):List Str:=(Ca p).map (·.Name) ++ p.Locks.map (·.Name)
theorem Sr (p:api_Prog):(Fb p).map (·.1)=Fi p:=by
  simp [Fb,Fi,Ca,Function.comp_def]
def Gy:List Str→List Str→Bool
  | _,[]=>false
  | K,s :: r=>if s∈K then true else Gy (K ++ [s]) r
theorem Pq {t:api_Thread} (hr:t.Regs.length≤3000):∀ (d j n:Nat) (m:List (Str×Int)),j+d=t.Regs.length→d < n→(∀ e∈m,e.2≠0)→
    Z7s 1000001 Z7r t n m (j:Int)=some (if Gy (m.map (·.1)) (t.Regs.drop j)=true then ([],true) else (m ++ (t.Regs.drop j).map (fun s=>(s,(5:Int))),false)):=by
  intro d
  induction d with
  | zero =>
    intro j n m hj hn hm
    obtain ⟨n,rfl⟩:∃ m,n=m+1:=⟨n - 1,by omega⟩
    rw [Z7s,if_neg (by omega),List.drop_of_length_le (by omega)]
    simp [Gy,Z7r]
  | succ d ih =>
    intro j n m hj hn hm
    obtain ⟨n,rfl⟩:∃ m,n=m+1:=⟨n - 1,by omega⟩
    have h1:j < t.Regs.length:=by omega
    rw [Z7s,if_pos (by omega),Ao rfl h1]
    simp only [Option.bind_some]
    rw [List.drop_eq_getElem_cons h1,Gy]
    by_cases h:t.Regs[j]∈m.map (·.1)
    · rw [if_pos ((Kf hm _).2 h),if_pos h];rfl
    · rw [if_neg (fun q=>h ((Kf hm _).1 q)),if_neg h,Pp h,Bc h1 (by omega),ih (j+1) n _ (by omega) (by omega) (fun e he=>by
        rcases List.mem_append.1 he with he | he
        · exact hm e he
        · simp only [List.mem_cons, List.not_mem_nil, or_false] at he
          subst he;show (5:Int)≠0;decide)]
      simp only [List.map_append,List.map_cons,List.map_nil,List.append_assoc,List.cons_append,List.nil_append]
def gM (G:List Str):List (Str×Int):=G.map fun s=>(s,(5:Int))
theorem Mt {p:api_Prog} {t:api_Thread} (hr:t.Regs.length≤3000):Z7q 1000001 t (Kd p)=some (if Gy (Fi p) t.Regs=true then ([],true) else (Fb p ++ gM t.Regs,false)):=by
  unfold Z7q
  rw [Pd]
  have:=Pq hr t.Regs.length 0 1000001 (Fb p) (by omega) (by omega) (fun e he=>(Rt e he).1)
  rw [List.drop_zero,Sr] at this
  exact this
theorem Ja {p:api_Prog} {s:Str}:s∈Fi p↔s∈(Ca p).map (·.Name)∨s∈p.Locks.map (·.Name):=by
  unfold Fi;exact List.mem_append
theorem On {p:api_Prog} (hp:SmallP p) {l:List api_Thread} {i:Nat} (hi:i < l.length) (hr:l[i].Regs.length≤200) (k:Option (Int×Int)):∀ (d j n:Nat),j+d=l[i].Regs.length→d < n→
    Z5e 1000001 k p l (i:Int) n (j:Int)=if Gy (Fi p ++ l[i].Regs.take j) (l[i].Regs.drop j)=true then some (10,l[i].At) else k:=by
  intro d
  have hC:=Dr hp
  have hL:=hp.locks
  induction d with
  | zero =>
    intro j n hj hn
    obtain ⟨n,rfl⟩:∃ m,n=m+1:=⟨n - 1,by omega⟩
    rw [Z5e,Ao rfl hi]
    simp only [Option.bind_some]
    rw [if_neg (by omega),List.drop_of_length_le (by omega)]
    simp [Gy]
  | succ d ih =>
    intro j n hj hn
    obtain ⟨n,rfl⟩:∃ m,n=m+1:=⟨n - 1,by omega⟩
    have h1:j < l[i].Regs.length:=by omega
    rw [Z5e,Ao rfl hi]
    simp only [Option.bind_some]
    rw [if_pos (by omega),Ao rfl h1]
    simp only [Option.bind_some]
    rw [Ei (by omega) (by omega)]
    simp only [Option.bind_some]
    rw [List.drop_eq_getElem_cons h1,Gy]
    have hb:=Lg h1
    by_cases h:l[i].Regs[j]∈l[i].Regs.take j
    · rw [if_pos (hb.2 h),if_pos (List.mem_append_right _ h),Z58,if_pos rfl];rfl
    · rw [if_neg (fun q => h (hb.1 q)), Jj hp]
      simp only [Option.bind_some]
      rw [Ei (by simp;omega) (by simp;omega)]
      simp only [Option.bind_some]
      by_cases h2:l[i].Regs[j]∈(Ca p).map (·.Name)
      · rw [if_pos (Fl.2 h2),if_pos (List.mem_append_left _ (Ja.2 (.inl h2))),Z58,if_pos rfl];rfl
      · rw [if_neg (fun q => h2 (Fl.1 q)), Mq hp]
        simp only [Option.bind_some]
        rw [Ei (by simp;omega) (by simp;omega)]
        simp only [Option.bind_some]
        by_cases h3:l[i].Regs[j]∈p.Locks.map (·.Name)
        · rw [decide_eq_true (Fl.2 h3),if_pos (List.mem_append_left _ (Ja.2 (.inr h3))),Z58,if_pos rfl];rfl
        · have h4 : ¬ l[i].Regs[j]∈Fi p ++ l[i].Regs.take j:=by
            intro q
            rcases List.mem_append.1 q with q | q
            · rcases Ja.1 q with q | q
              · exact h2 q
              · exact h3 q
            · exact h q
          rw [decide_eq_false (fun q=>h3 (Fl.1 q)),if_neg h4,Z58,if_neg (by decide),Bc h1 (by omega),ih (j+1) n (by omega) (by omega),List.take_succ_eq_append_getElem h1,List.append_assoc]
theorem N3:∀ (l K:List Str),Gy K l=false→∀ s∈l,s ∉ K
  | [],_,_,s,hs=>by cases hs
  | x :: l, K, h, s, hs => by
    rw [Gy] at h
    split at h
    · cases h
    · rename_i hx
      rcases List.mem_cons.1 hs with rfl | hs
      · exact hx
      · exact fun q=>N3 l _ h s hs (List.mem_append_left _ q)
def A1 (p:api_Prog):List Str:=p.Lines.flatten.map (·.Name)
def A2 (p:api_Prog):List Str:=p.Vols.map (·.Name)
def K1 (p:api_Prog):List Str:=p.Locks.map (·.Name)
def Hu (p:api_Prog) (G:List Str) (s:Str):Int:=if s∈A1 p then 1 else if s∈A2 p then 2 else if s∈K1 p then 3 else if s∈G then 5 else 0
theorem Jaj {G:List Str} {s:Str}:Bf s (gM G)=if s∈G then some 5 else none:=by
  have:=Cz (l:=G) (f:=fun x=>x) (v:=5) (k:=s)
  simpa [gM] using this
theorem Sw (p:api_Prog) (G:List Str) (s:Str):(Bf s (Fb p ++ gM G)).getD 0=Hu p G s:=by
  simp only [Fb,Ho]
  rw [Cz (f:=fun c:api_Cell=>c.Name),Cz (f:=fun c:api_Cell=>c.Name),Cz (f:=fun c:api_Cell=>c.Name),Jaj]
  unfold Hu A1 A2 K1
  split
  · rfl
  · split
    · rfl
    · split
      · rfl
      · split <;> rfl
theorem Dv (p:api_Prog):(Ca p).map (·.Name)=A1 p ++ A2 p:=by simp [Ca,A1,A2]
structure Apt (p:api_Prog) (G:List Str):Prop where
  locks:∀ s∈K1 p,s ∉ A1 p ++ A2 p
  regs:∀ s∈G,s ∉ A1 p ++ A2 p∧s ∉ K1 p
theorem Jb6 {p:api_Prog} {G:List Str} {s:Str}:Hu p G s=1↔s∈A1 p:=by
  unfold Hu;split
  · simp [*]
  · split
    · simp [*]
    · split
      · simp [*]
      · split <;> simp [*]
theorem JaB {p:api_Prog} {G:List Str} {s:Str}:(Hu p G s=1∨Hu p G s=2)↔s∈A1 p ++ A2 p:=by
  unfold Hu;rw [List.mem_append];split
  · simp [*]
  · split
    · simp [*]
    · split
      · simp [*]
      · split <;> simp [*]
theorem Jb8 {p:api_Prog} {G:List Str} (ha:Apt p G) {s:Str}:Hu p G s=3↔s∈K1 p:=by
  have h:=ha.locks s
  rw [List.mem_append] at h
  unfold Hu;split
  · rename_i q;simp only [show ¬ (1:Int)=3 by decide,false_iff];exact fun k=>h k (.inl q)
  · split
    · rename_i q;simp only [show ¬ (2:Int)=3 by decide,false_iff];exact fun k=>h k (.inr q)
    · split
      · simp [*]
      · split <;> simp [*]
theorem Ru {p:api_Prog} {G:List Str} (ha:Apt p G) {s:Str}:Hu p G s=5↔s∈G:=by
  have h:=ha.regs s
  rw [List.mem_append] at h
  unfold Hu;split
  · rename_i q;simp only [show ¬ (1:Int)=5 by decide,false_iff];exact fun k=>(h k).1 (.inl q)
  · split
    · rename_i q;simp only [show ¬ (2:Int)=5 by decide,false_iff];exact fun k=>(h k).1 (.inr q)
    · split
      · rename_i q;simp only [show ¬ (3:Int)=5 by decide,false_iff];exact fun k=>(h k).2 q
      · split <;> simp [*]
def Gq (l:List api_Node):List legal_use:=l.filterMap fun x=>if x.Op=2 then some ⟨x.Name,x.At,[5]⟩ else none
def Hv (k:Int):List Int:=if k=5∨k=6 then [1] else if k=9∨k=10 then [3] else [1,2]
def Jc (x:api_Stmt):List legal_use:=(if x.Reg≠[] then [⟨x.Reg,x.At,[5]⟩] else []) ++ ((if x.Name≠[] then [⟨x.Name,x.At,Hv x.Kind⟩] else []) ++ (Gq x.E ++ Gq x.F))
def Lv {τ α:Type} (y:τ→α→Option (τ×Bool)):List α→τ→Option (Bool×τ)
  | [],s=>some (true,s)
  | x :: r,s=>(y s x).bind fun q=>if q.2=true then Lv y r q.1 else some (false,q.1)
theorem Qu {τ α:Type} (y:τ→α→Option (τ×Bool)) (k:τ→Option τ):∀ (l:List α) (s:τ),((Lv y l s).bind fun r=>if r.1=true then k r.2 else some r.2)=Bz y k l s
  | [],s=>by simp [Lv,Bz]
  | x :: l, s => by
    simp only [Lv,Bz,Option.bind_assoc]
    congr 1
    funext q
    split
    · exact Qu y k l q.1
    · rfl
theorem Qa {τ α:Type} (y:τ→α→Option (τ×Bool)) (k:τ→Option τ) (l m:List α):Bz y k (l ++ m)=Bz y (Bz y k m) l:=funext (Hl y k l m)
theorem Ss {τ:Type} {l:List api_Node} (hl:l.length≤3000) (y:τ→legal_use→Option (τ×Bool)):∀ (d j n:Nat) (s:τ),j+d=l.length→d < n→Z86 1000001 Z84 l 5 y n (j:Int) s=Lv y (Gq (l.drop j)) s:=by
  intro d
  induction d with
  | zero =>
    intro j n s hj hn
    obtain ⟨n,rfl⟩:∃ m,n=m+1:=⟨n - 1,by omega⟩
    rw [Z86,if_neg (by omega),List.drop_of_length_le (by omega)];rfl
  | succ d ih =>
    intro j n s hj hn
    obtain ⟨n,rfl⟩:∃ m,n=m+1:=⟨n - 1,by omega⟩
    have h1:j < l.length:=by omega
    rw [Z86,if_pos (by omega),Ao rfl h1]
    simp only [Option.bind_some]
    rw [List.drop_eq_getElem_cons h1,Gq,List.filterMap_cons]
    by_cases h:l[j].Op=2
    · rw [if_pos h, if_pos h]
      simp only [Lv]
      congr 1
      funext q
      rw [Z85]
      cases q.2 with
      | false=>rfl
      | true=>rw [if_neg (by decide),if_pos rfl,Bc h1 (by omega),ih (j+1) n _ (by omega) (by omega)];rfl
    · rw [if_neg h,if_neg h,Z85,if_neg (by decide),Bc h1 (by omega),ih (j+1) n _ (by omega) (by omega)];rfl
theorem Rm {τ:Type} {l:List api_Node} (hl:l.length≤3000) (y:τ→legal_use→Option (τ×Bool)) (s:τ):Z83 1000001 l 5 y s=Lv y (Gq l) s:=by
  have:=Ss hl y l.length 0 1000001 s (by omega) (by omega)
  rw [List.drop_zero] at this
  exact this
theorem Ws {τ:Type} (k:List Int→τ→Option τ) (x:api_Stmt) (s:τ) :
    (if x.Kind=5 then Z7y k x (decide (x.Kind=5)) s else Z7y k x (decide (x.Kind=6)) s)=k (Hv x.Kind) s:=by
  unfold Z7y Z7z Hv
  by_cases h5:x.Kind=5
  · simp [h5]
  · by_cases h6 : x.Kind = 6
    · simp [h6]
    · by_cases h9 : x.Kind = 9
      · simp [h9]
      · by_cases h10 : x.Kind = 10
        · simp [h10]
        · simp [h5,h6,h9,h10]
theorem Tl {τ:Type} {l:List api_Stmt} (hl:l.length≤3000) (hs:∀ x∈l,Dy x) (y:τ→legal_use→Option (τ×Bool)):∀ (d j n:Nat) (s:τ),j+d=l.length→d < n→Z82 1000001 y l n (j:Int) s=Bz y some ((l.drop j).flatMap Jc) s:=by
  intro d
  induction d with
  | zero =>
    intro j n s hj hn
    obtain ⟨n,rfl⟩:∃ m,n=m+1:=⟨n - 1,by omega⟩
    rw [Z82,if_neg (by omega),List.drop_of_length_le (by omega)];rfl
  | succ d ih =>
    intro j n s hj hn
    obtain ⟨n,rfl⟩:∃ m,n=m+1:=⟨n - 1,by omega⟩
    have h1:j < l.length:=by omega
    have hx:=hs _ (List.getElem_mem h1)
    rw [Z82,if_pos (by omega),Ao rfl h1]
    simp only [Option.bind_some]
    rw [List.drop_eq_getElem_cons h1,List.flatMap_cons]
    generalize hxx:l[j]=x at hx
    have e7:∀ (b:Bool) (s:τ),Z81 (Z82 1000001 y l n) (j:Int) (!b) s=if b=true then Bz y some ((l.drop (j+1)).flatMap Jc) s else some s:=by
      intro b s
      rw [Z81]
      cases b with
      | false=>rfl
      | true=>rw [if_neg (by decide),if_pos rfl,Bc h1 (by omega),ih (j+1) n s (by omega) (by omega)]
    have e6:∀ (b:Bool) (s:τ),Z80 1000001 (Z82 1000001 y l n) y x (j:Int) (!b) s=if b=true then Bz y (Bz y (Bz y some ((l.drop (j+1)).flatMap Jc)) (Gq x.F)) (Gq x.E) s else some s:=by
      intro b s
      rw [Z80]
      cases b with
      | false=>rfl
      | true =>
        rw [if_neg (by decide),if_pos rfl,Rm (by have:=hx.1;omega),← Qu]
        congr 1
        funext r
        cases hr:r.1 with
        | false=>simp [Z81]
        | true =>
          rw [if_pos rfl,if_pos rfl,Rm (by have:=hx.2;omega),← Qu]
          congr 1
          funext r
          exact e7 r.1 r.2
    have e3:∀ (may:List Int) (s:τ),may=Hv x.Kind→Z7x 1000001 (Z82 1000001 y l n) y x (j:Int) may s=Bz y (Bz y (Bz y (Bz y some ((l.drop (j+1)).flatMap Jc)) (Gq x.F)) (Gq x.E)) (if x.Name≠[] then [⟨x.Name,x.At,Hv x.Kind⟩] else []) s:=by
      intro may s hmay
      subst hmay
      rw [Z7x]
      by_cases h:x.Name≠[]
      · rw [if_pos h, if_pos h, Bz]
        congr 1
        funext q
        rw [e6]
        rfl
      · rw [if_neg h, if_neg h]
        exact (e6 true s).trans (if_pos rfl)
    have e2:∀ (b:Bool) (s:τ),Z7w 1000001 (Z82 1000001 y l n) y x (j:Int) (!b) s=if b=true then Bz y (Bz y (Bz y (Bz y some ((l.drop (j+1)).flatMap Jc)) (Gq x.F)) (Gq x.E)) (if x.Name≠[] then [⟨x.Name,x.At,Hv x.Kind⟩] else []) s else some s:=by
      intro b s
      rw [Z7w]
      cases b with
      | false=>rfl
      | true =>
        rw [if_neg (by decide),if_pos rfl,Ws]
        exact e3 _ s rfl
    rw [show Jc x=(if x.Reg≠[] then [⟨x.Reg,x.At,[5]⟩] else []) ++ ((if x.Name≠[] then [⟨x.Name,x.At,Hv x.Kind⟩] else []) ++ (Gq x.E ++ Gq x.F)) from rfl]
    simp only [Qa]
    by_cases h:x.Reg≠[]
    · rw [if_pos h, if_pos h]
      simp only [Bz]
      congr 1
      funext q
      exact e2 q.2 q.1
    · rw [if_neg h, if_neg h]
      exact (e2 true s).trans (if_pos rfl)
theorem Xz {τ:Type} {l:List api_Stmt} (hl:l.length≤3000) (hs:∀ x∈l,Dy x) (y:τ→legal_use→Option (τ×Bool)) (s:τ):Z7v 1000001 y s l=Bz y some (l.flatMap Jc) s:=by
  have:=Tl hl hs y l.length 0 1000001 s (by omega) (by omega)
  rw [List.drop_zero] at this
  exact this
end Go.MD.LB.W
namespace Go.MD.LB.W
open Go Go.MD Go.MD.LB
theorem Il {l:List Str} {s:Str} (h:s ∉ l) (k:Nat):Dp l s k < 0:=by
  have:=(Dm l s k).1
  have h2:=fun z=>h (this.1 z)
  exact Int.not_le.1 h2
theorem Mb {l:List Int} {v:Int} (hl:l.length≤3000):∀ (d j n:Nat),j+d=l.length→d < n→∃ r,Zab 1000001 Zaa l v n (j:Int)=some r∧(0≤r↔v∈l.drop j):=by
  intro d
  induction d with
  | zero =>
    intro j n hj hn
    obtain ⟨n,rfl⟩:∃ m,n=m+1:=⟨n - 1,by omega⟩
    rw [Zab,if_neg (by omega),List.drop_of_length_le (by omega)]
    exact ⟨-1,rfl,by simp⟩
  | succ d ih =>
    intro j n hj hn
    obtain ⟨n,rfl⟩:∃ m,n=m+1:=⟨n - 1,by omega⟩
    have h1:j < l.length:=by omega
    rw [Zab,if_pos (by omega),Ao rfl h1]
    simp only [Option.bind_some]
    rw [List.drop_eq_getElem_cons h1]
    by_cases h:v=l[j]
    · rw [if_pos h];exact ⟨j,rfl,fun _=>h ▸ .head _,fun _=>by omega⟩
    · rw [if_neg h, Bc h1 (by omega)]
      obtain ⟨r,h2,h3⟩:=ih (j+1) n (by omega) (by omega)
      exact ⟨r,h2,h3.trans ⟨fun q=>.tail _ q,fun q=>(List.mem_cons.1 q).resolve_left h⟩⟩
theorem Oj {l:List Int} {v:Int} (hl:l.length≤3000):Z9e 1000001 l v=some (decide (v∈l)):=by
  obtain ⟨r,h1,h2⟩:=Mb (v:=v) hl l.length 0 1000001 (by omega) (by omega)
  unfold Z9e Za9
  rw [show (0:Int)=((0:Nat):Int) from rfl,h1]
  simp only [Option.bind_some]
  rw [List.drop_zero] at h2
  congr 1
  exact decide_eq_decide.2 h2
def Kv (p:api_Prog) (G:List Str) (u:legal_use):Option Int:=if Hu p G u.name∈u.may then none else some u.at'
def Vo (u:legal_use):Prop:=u.may.length≤3000
theorem Yt {p:api_Prog} {G:List Str} (tw:Bool):∀ (l:List legal_use),(∀ u∈l,Vo u)→Bz (yy (fun (s:Unit) (x:legal_use)=>(Z6l 1000001 (Fb p ++ gM G,tw)) x)) some l (.inl ())=some (match l.findSome? (Kv p G) with | some v=>.inr v | none=>.inl ())
  | [],_=>rfl
  | u :: l, h => by
    have e:Z6l 1000001 (Fb p ++ gM G,tw) u=some (match Kv p G u with | some v=>.inr v | none=>.inl ()):=by
      rw [Z6l,Sw,Oj (h u (.head _))]
      simp only [Option.bind_some,Kv]
      by_cases q:Hu p G u.name∈u.may
      · rw [decide_eq_true q,if_pos rfl,if_pos q]
      · rw [decide_eq_false q,if_neg (by decide),if_neg q]
    simp only [Bz,yy,e,Option.map_some,Option.bind_some,List.findSome?_cons]
    cases Kv p G u with
    | some v=>rfl
    | none =>
      simp only [Sum.isLeft_inl,if_true]
      exact Yt tw l fun u hu=>h u (.tail _ hu)
theorem Oa {l:List api_Node}:∀ u∈Gq l,Vo u:=by
  intro u hu
  obtain ⟨x,_,h⟩:=List.mem_filterMap.1 hu
  split at h
  · injection h with h;subst h;show ([5]:List Int).length≤3000;decide
  · cases h
theorem Uo {x:api_Stmt}:∀ u∈Jc x,Vo u:=by
  intro u hu
  simp only [Jc,List.mem_append] at hu
  rcases hu with hu | hu | hu | hu
  · split at hu
    · simp only [List.mem_cons,List.not_mem_nil,or_false] at hu;subst hu;show ([5]:List Int).length≤3000;decide
    · cases hu
  · split at hu
    · simp only [List.mem_cons, List.not_mem_nil, or_false] at hu; subst hu
      show (Hv x.Kind).length≤3000
      unfold Hv;split
      · decide
      · split <;> decide
    · cases hu
  · exact Oa u hu
  · exact Oa u hu
theorem Gd {α β γ:Type} (f:α→List β) (g:β→Option γ):∀ l:List α,(l.flatMap f).findSome? g=l.findSome? fun x=>(f x).findSome? g
  | []=>rfl
  | x :: l => by
    simp only [List.flatMap_cons,List.findSome?_append,List.findSome?_cons,Gd f g l]
    cases (f x).findSome? g <;> rfl
def Le (p:api_Prog) (G:List Str) (x:api_Stmt):Option Int:=(Jc x).findSome? (Kv p G)
theorem Rb {p:api_Prog} {G:List Str} {l:List api_Stmt} (hl:l.length≤3000) (hs:∀ x∈l,Dy x) (tw:Bool) :
    Z7v 1000001 (yy (fun (s:Unit) (x:legal_use)=>(Z6l 1000001 (Fb p ++ gM G,tw)) x)) (.inl ()) l=some (match l.findSome? (Le p G) with | some v=>.inr v | none=>.inl ()):=by
  rw [Xz hl hs,Yt tw _ (fun u hu=>by obtain ⟨x,_,h⟩:=List.mem_flatMap.1 hu;exact Uo u h),Gd]
  rfl
def El (names:List Str) (x:api_Node):Option Int:=if x.Op=2∧x.Name ∉ names then some x.At else none
theorem Qz {l:List api_Node} {names:List Str} (hl:l.length≤3000) (hnm:names.length≤3000):∀ (d j n:Nat),j+d=l.length→d < n→
    Z6f 1000001 Z6d l names n (j:Int)=some (((l.drop j).findSome? (El names)).getD (-1)):=by
  intro d
  induction d with
  | zero =>
    intro j n hj hn
    obtain ⟨n,rfl⟩:∃ m,n=m+1:=⟨n - 1,by omega⟩
    rw [Z6f,if_neg (by omega),List.drop_of_length_le (by omega)];rfl
  | succ d ih =>
    intro j n hj hn
    obtain ⟨n,rfl⟩:∃ m,n=m+1:=⟨n - 1,by omega⟩
    have h1:j < l.length:=by omega
    rw [Z6f,if_pos (by omega),Ao rfl h1]
    simp only [Option.bind_some]
    rw [List.drop_eq_getElem_cons h1,List.findSome?_cons]
    have go:Z6e (Z6f 1000001 Z6d l names n) l (j:Int) false=some (((l.drop (j+1)).findSome? (El names)).getD (-1)):=by
      rw [Z6e,if_neg (by decide),Bc h1 (by omega),ih (j+1) n (by omega) (by omega)]
    by_cases h:l[j].Op=2
    · rw [if_pos h, Ei hnm (by omega)]
      simp only [Option.bind_some]
      by_cases q:l[j].Name∈names
      · rw [decide_eq_false (fun k=>by have:=(Fl (l:=names) (s:=l[j].Name)).2 q;omega),go,El,if_neg (fun k=>k.2 q)]
      · rw [decide_eq_true (Il q 0), Z6e, if_pos rfl, Ao rfl h1, El, if_pos ⟨h, q⟩]
        rfl
    · rw [if_neg h,go,El,if_neg (fun k=>h k.1)]
theorem Kz {l:List api_Node} {names:List Str} (hl:l.length≤3000) (hn:names.length≤3000):Z6c 1000001 l names=some ((l.findSome? (El names)).getD (-1)):=by
  have:=Qz hl hn l.length 0 1000001 (by omega) (by omega)
  rw [List.drop_zero] at this
  exact this
theorem Kp {p:api_Prog} {G:List Str} (ha:Apt p G):∀ l:List api_Node,(Gq l).findSome? (Kv p G)=l.findSome? (El G)
  | []=>rfl
  | x :: l => by
    rw [List.findSome?_cons,← Kp ha l]
    unfold Gq
    rw [List.filterMap_cons]
    by_cases h:x.Op=2
    · rw [if_pos h]
      simp only [List.findSome?_cons,Kv,El,List.mem_cons,List.not_mem_nil,or_false]
      by_cases q:x.Name∈G
      · rw [if_pos ((Ru ha).2 q),if_neg (fun k=>k.2 q)]
      · rw [if_neg (fun k=>q ((Ru ha).1 k)),if_pos ⟨h,q⟩]
    · rw [if_neg h]
      simp only [El,if_neg (fun k:x.Op=2∧x.Name ∉ G=>h k.1)]
theorem Ph {α:Type} {f:α→Option Int} {l:List α} {v:Int} (h:l.findSome? f=some v):∃ x∈l,f x=some v:=List.exists_of_findSome?_eq_some h
theorem Ve {names:List Str} {l:List api_Node} (hl:∀ x∈l,0≤x.At) {v:Int} (h:l.findSome? (El names)=some v):0≤v:=by
  obtain ⟨x,hx,e⟩:=Ph h
  unfold El at e
  split at e
  · injection e with e;subst e;exact hl x hx
  · cases e
theorem Sn {x:api_Stmt} (h:Cw x=true):(x.Name=[]↔¬ (x.Kind=2∨x.Kind=3∨x.Kind=4∨x.Kind=5∨x.Kind=6∨x.Kind=9∨x.Kind=10)):=by
  simp only [Cw,Bool.and_eq_true,decide_eq_true_eq] at h
  obtain ⟨⟨hk,_⟩,_,ht,_⟩:=h
  have cases14:x.Kind=1∨x.Kind=2∨x.Kind=3∨x.Kind=4∨x.Kind=5∨x.Kind=6∨x.Kind=7∨x.Kind=8∨x.Kind=9∨x.Kind=10∨x.Kind=11∨x.Kind=12∨x.Kind=13∨x.Kind=14:=by omega
  have nn:∀ s:Str,Cc s=true→s≠[]:=by intro s hs e;subst e;simp [Cc] at hs
  rcases cases14 with k | k | k | k | k | k | k | k | k | k | k | k | k | k <;> rw [k] at ht ⊢ <;>
    first
    | (have ht':Eu true x.Name=true:=ht;have:=nn _ (by simpa [Eu] using ht');simp [this])
    | (have ht' : Eu false x.Name = true := ht; have : x.Name = [] := by simpa [Eu] using ht'
       simp [this])
theorem Va {is:Bool} {l:List api_Node} (h:Ew is l=true):l.length≤40∧∀ x∈l,0≤x.At∧x.At≤4000:=by
  unfold Ew at h
  split at h
  · have h' : ∃ t, RightE l t := by unfold Gz at h; simpa using h
    obtain ⟨t,ht⟩:=h'
    refine ⟨ht.len,fun x hx=>?_⟩
    have:=ht.may x hx
    unfold Hw at this
    rw [Bool.and_eq_true,decide_eq_true_eq] at this
    exact this.1
  · have := of_decide_eq_true h
    subst this
    exact ⟨by simp,fun x hx=>by cases hx⟩
theorem Np {x:api_Stmt} (h:Cw x=true):(0≤x.At∧x.At≤4000)∧(x.E.length≤40∧∀ y∈x.E,0≤y.At∧y.At≤4000)∧(x.F.length≤40∧∀ y∈x.F,0≤y.At∧y.At≤4000):=by
  simp only [Cw,Bool.and_eq_true,decide_eq_true_eq] at h
  obtain ⟨⟨hk,_⟩,_,_,he,hf⟩:=h
  exact ⟨⟨hk.2.2.1,hk.2.2.2⟩,Va he,Va hf⟩
def Iz (p:api_Prog) (G:List Str) (x:api_Stmt):Option Int:=if x.Name≠[]∧Hu p G x.Name ∉ Hv x.Kind then some x.At else none
def Jak (G:List Str) (x:api_Stmt):Option Int:=if x.Reg≠[]∧x.Reg ∉ G then some x.At else none
theorem Wq {p:api_Prog} {G:List Str} (ha:Apt p G) (x:api_Stmt):Le p G x=(Jak G x).or ((Iz p G x).or ((x.E.findSome? (El G)).or (x.F.findSome? (El G)))):=by
  unfold Le Jc
  rw [List.findSome?_append,List.findSome?_append,List.findSome?_append,Kp ha,Kp ha]
  congr 1
  · unfold Jak
    by_cases h:x.Reg≠[]
    · rw [if_pos h]
      simp only [List.findSome?_cons,List.findSome?_nil,Kv,List.mem_cons,List.not_mem_nil,or_false]
      by_cases q:x.Reg∈G
      · rw [if_pos ((Ru ha).2 q),if_neg (fun k=>k.2 q)]
      · rw [if_neg (fun k=>q ((Ru ha).1 k)),if_pos ⟨h,q⟩]
    · rw [if_neg h,if_neg (fun k=>h k.1)];rfl
  · congr 1
    unfold Iz
    by_cases h:x.Name≠[]
    · rw [if_pos h]
      simp only [List.findSome?_cons,List.findSome?_nil,Kv]
      by_cases q:Hu p G x.Name∈Hv x.Kind
      · rw [if_pos q,if_neg (fun k=>k.2 q)]
      · rw [if_neg q,if_pos ⟨h,q⟩]
    · rw [if_neg h,if_neg (fun k=>h k.1)];rfl
theorem Xc {t:api_Thread} {x:api_Stmt} (hx:Cw x=true) (hr:t.Regs.length≤3000):Z62 1000001 t x=some (((x.E.findSome? (El t.Regs)).or (x.F.findSome? (El t.Regs))).getD (-1)):=by
  obtain ⟨_,⟨he,hea⟩,⟨hf,_⟩⟩:=Np hx
  rw [Z62,Kz (by omega) hr]
  simp only [Option.bind_some]
  cases h:x.E.findSome? (El t.Regs) with
  | some v =>
    have:=Ve (fun y hy=>(hea y hy).1) h
    rw [if_pos (by simpa using this)];rfl
  | none =>
    rw [if_neg (by simp),Kz (by omega) hr];rfl
theorem Qm {p:api_Prog} (hp:SmallP p) {x:api_Stmt} {G:List Str} (ha:Apt p G) (hx:Cw x=true) (k:Option Int) :
    (if x.Kind=2 then Z63 1000001 k p x (Dp ((Ca p).map (·.Name)) x.Name 0) (decide (x.Kind=2)) else
      if x.Kind=3 then Z63 1000001 k p x (Dp ((Ca p).map (·.Name)) x.Name 0) (decide (x.Kind=3)) else
        Z63 1000001 k p x (Dp ((Ca p).map (·.Name)) x.Name 0) (decide (x.Kind=4)))=(match Iz p G x with | some v=>some v | none=>k):=by
  have hC:=Dr hp
  have hL:=hp.locks
  have hn:=Sn hx
  have ix:=Fl (l:=(Ca p).map (·.Name)) (s:=x.Name)
  have e1:(if x.Kind=2 then Z63 1000001 k p x (Dp ((Ca p).map (·.Name)) x.Name 0) (decide (x.Kind=2)) else
      if x.Kind=3 then Z63 1000001 k p x (Dp ((Ca p).map (·.Name)) x.Name 0) (decide (x.Kind=3)) else
        Z63 1000001 k p x (Dp ((Ca p).map (·.Name)) x.Name 0) (decide (x.Kind=4)))=Z63 1000001 k p x (Dp ((Ca p).map (·.Name)) x.Name 0) (decide (x.Kind=2∨x.Kind=3∨x.Kind=4)):=by
    by_cases h2:x.Kind=2
    · rw [if_pos h2,decide_eq_true h2,decide_eq_true (.inl h2)]
    · rw [if_neg h2]
      by_cases h3:x.Kind=3
      · rw [if_pos h3,decide_eq_true h3,decide_eq_true (.inr (.inl h3))]
      · rw [if_neg h3];congr 1;exact decide_eq_decide.2 (by omega)
  rw [e1,Z63]
  by_cases c1:x.Kind=2∨x.Kind=3∨x.Kind=4
  · have hne : x.Name ≠ [] := fun e => hn.1 e (by omega)
    have hm:Hv x.Kind=[1,2]:=by unfold Hv;rw [if_neg (by omega),if_neg (by omega)]
    rw [decide_eq_true c1,if_pos rfl,Iz,hm]
    have hw:=JaB (p:=p) (G:=G) (s:=x.Name)
    rw [← Dv] at hw
    simp only [List.mem_cons,List.not_mem_nil,or_false]
    by_cases q:x.Name∈(Ca p).map (·.Name)
    · rw [if_neg (by have:=ix.2 q;omega),if_neg (fun z=>z.2 (hw.2 q))]
    · rw [if_pos (Il q 0),if_pos ⟨hne,fun z=>q (hw.1 z)⟩]
  rw [decide_eq_false c1,if_neg (by decide)]
  have e2:(if x.Kind=5 then Z64 1000001 k p x (Dp ((Ca p).map (·.Name)) x.Name 0) (decide (x.Kind=5)) else Z64 1000001 k p x (Dp ((Ca p).map (·.Name)) x.Name 0) (decide (x.Kind=6))) =
      Z64 1000001 k p x (Dp ((Ca p).map (·.Name)) x.Name 0) (decide (x.Kind=5∨x.Kind=6)):=by
    by_cases h2:x.Kind=5
    · rw [if_pos h2,decide_eq_true h2,decide_eq_true (.inl h2)]
    · rw [if_neg h2];congr 1;exact decide_eq_decide.2 (by omega)
  rw [e2,Z64]
  by_cases c2:x.Kind=5∨x.Kind=6
  · have hne : x.Name ≠ [] := fun e => hn.1 e (by omega)
    have hm:Hv x.Kind=[1]:=if_pos c2
    rw [decide_eq_true c2,if_pos rfl,Iz,hm]
    simp only [List.mem_cons,List.not_mem_nil,or_false]
    have hw:=Jb6 (p:=p) (G:=G) (s:=x.Name)
    have hA:(A1 p).length=p.Lines.flatten.length:=List.length_map _
    have hi:=Kq (A1 p) (A2 p) x.Name 0
    have hn1:=Dm (A1 p) x.Name 0
    have hn2:=Dm (A2 p) x.Name (0+(A1 p).length)
    rw [Dv] at ix ⊢
    by_cases q:x.Name∈A1 p
    · rw [if_pos q] at hi
      have h1:=hn1.2 q
      rw [hi,if_neg (by omega),Jb hp]
      simp only [Option.bind_some]
      rw [Z65,decide_eq_false (by omega),if_neg (by decide),if_neg (fun z=>z.2 (hw.2 q))]
    · rw [if_neg q] at hi
      rw [hi]
      by_cases q2:x.Name∈A2 p
      · have h1 := hn2.2 q2
        rw [if_neg (by omega),Jb hp]
        simp only [Option.bind_some]
        rw [Z65,decide_eq_true (by omega),if_pos rfl,if_pos ⟨hne,fun z=>q (hw.1 z)⟩]
      · rw [if_pos (Il q2 _),Z65,if_pos rfl,if_pos ⟨hne,fun z=>q (hw.1 z)⟩]
  rw [decide_eq_false c2,if_neg (by decide)]
  have e3:(if x.Kind=9 then Z66 1000001 k p x (decide (x.Kind=9)) else Z66 1000001 k p x (decide (x.Kind=10)))=Z66 1000001 k p x (decide (x.Kind=9∨x.Kind=10)):=by
    by_cases h2:x.Kind=9
    · rw [if_pos h2,decide_eq_true h2,decide_eq_true (.inl h2)]
    · rw [if_neg h2];congr 1;exact decide_eq_decide.2 (by omega)
  rw [e3,Z66]
  by_cases c3:x.Kind=9∨x.Kind=10
  · have hne : x.Name ≠ [] := fun e => hn.1 e (by omega)
    rw [decide_eq_true c3,if_pos rfl,Mq hp]
    simp only [Option.bind_some]
    have hm:Hv x.Kind=[3]:=by unfold Hv;rw [if_neg c2,if_pos c3]
    rw [Ei (by simp;omega) (by simp;omega),Iz,hm]
    simp only [Option.bind_some,List.mem_cons,List.not_mem_nil,or_false]
    have hw:=Jb8 ha (s:=x.Name)
    have iy:=Fl (l:=p.Locks.map (·.Name)) (s:=x.Name)
    by_cases q:x.Name∈p.Locks.map (·.Name)
    · rw [if_neg (by have:=iy.2 q;omega),if_neg (fun z=>z.2 (hw.2 q))]
    · rw [if_pos (Il q 0),if_pos ⟨hne,fun z=>q (hw.1 z)⟩]
  · rw [decide_eq_false c3,if_neg (by decide),Iz,if_neg (fun z=>z.1 (hn.2 (by omega)))]
theorem Xa {p:api_Prog} (hp:SmallP p) {t:api_Thread} (hr:t.Regs.length≤3000) {x:api_Stmt} (ha:Apt p t.Regs) (hx:Cw x=true):Z60 1000001 p t x=some ((Le p t.Regs x).getD (-1)):=by
  have hC:=Dr hp
  rw [Wq ha]
  have go:Z61 1000001 p t x false=some (((Iz p t.Regs x).or ((x.E.findSome? (El t.Regs)).or (x.F.findSome? (El t.Regs)))).getD (-1)):=by
    rw [Z61,if_neg (by decide),Jj hp]
    simp only [Option.bind_some]
    rw [Ei (by simp;omega) (by simp;omega)]
    simp only [Option.bind_some]
    rw [Qm hp ha hx,Xc hx hr]
    cases Iz p t.Regs x <;> rfl
  unfold Z60 Jak
  by_cases h:x.Reg≠[]
  · rw [if_pos h, Ei hr (by omega)]
    simp only [Option.bind_some]
    have ix:=Fl (l:=t.Regs) (s:=x.Reg)
    by_cases q:x.Reg∈t.Regs
    · rw [decide_eq_false (by have:=ix.2 q;omega),go,if_neg (fun z=>z.2 q),Option.none_or]
    · rw [decide_eq_true (Il q 0),Z61,if_pos rfl,if_pos ⟨h,q⟩];rfl
  · rw [if_neg h,go,if_neg (fun z=>h z.1),Option.none_or]
theorem Wo {p:api_Prog} {G:List Str} {x:api_Stmt} (hx:Cw x=true) {v:Int} (h:Le p G x=some v):0≤v∧v≤4000:=by
  obtain ⟨h1,⟨_,h2⟩,⟨_,h3⟩⟩:=Np hx
  obtain ⟨u,hu,e⟩:=Ph h
  have hv:u.at'=v:=by
    unfold Kv at e;split at e
    · cases e
    · exact Option.some.inj e
  subst hv
  simp only [Jc,List.mem_append] at hu
  have node:∀ {l:List api_Node},(∀ y∈l,0≤y.At∧y.At≤4000)→u∈Gq l→0≤u.at'∧u.at'≤4000:=by
    intro l hl hu
    obtain ⟨y,hy,e⟩:=List.mem_filterMap.1 hu
    split at e
    · injection e with e;subst e;exact hl y hy
    · cases e
  rcases hu with hu | hu | hu | hu
  · split at hu
    · simp only [List.mem_cons,List.not_mem_nil,or_false] at hu;subst hu;exact h1
    · cases hu
  · split at hu
    · simp only [List.mem_cons,List.not_mem_nil,or_false] at hu;subst hu;exact h1
    · cases hu
  · exact node h2 hu
  · exact node h3 hu
end Go.MD.LB.W
namespace Go.MD.LB.W
open Go Go.MD Go.MD.LB
structure PB (p:api_Prog):Prop where
  line:∀ l∈p.Lines,Fx l=true
  vols:∀ c∈p.Vols,cellB 4294967296 c=true
  locks:∀ c∈p.Locks,cellB 0 c=true
  recover:p.Recover.length≤1
  named:∀ t∈p.Threads,Cy t=true
  unnamed:∀ t∈p.Recover,Cb t=true
  claims:∀ c∈p.Claims,Dl c=true
theorem Jn {p:api_Prog}:Gn p=true↔PB p:=by
  simp only [Gn,Bool.and_eq_true,List.all_eq_true,decide_eq_true_eq]
  exact ⟨fun ⟨a,b,c,d,e,f,g⟩=>⟨a,b,c,d,e,f,g⟩,fun ⟨a,b,c,d,e,f,g⟩=>⟨a,b,c,d,e,f,g⟩⟩
theorem Lo {a:Int}:Eo a=true↔0≤a∧a≤4000:=by simp [Eo]
theorem Oy {m:Int} {c:api_Cell} (h:cellB m c=true):0≤c.At∧c.At≤4000:=by
  unfold cellB at h;rw [Bool.and_eq_true] at h;exact Lo.1 h.2
theorem PB.cell {p:api_Prog} (h:PB p):∀ c∈Ca p,cellB 4294967296 c=true:=by
  intro c hc
  rcases List.mem_append.1 hc with hc | hc
  · obtain ⟨l, hl, hcl⟩ := List.mem_flatten.1 hc
    have:=h.line l hl
    unfold Fx at this
    rw [Bool.and_eq_true,List.all_eq_true] at this
    exact this.2 c hcl
  · exact h.vols c hc
theorem PB.thread {p:api_Prog} (h:PB p):∀ t∈Ce p,Di t=true:=by
  intro t ht
  rcases List.mem_append.1 ht with ht | ht
  · have:=h.named t ht;unfold Cy at this;rw [Bool.and_eq_true] at this;exact this.2
  · have:=h.unnamed t ht;unfold Cb at this;rw [Bool.and_eq_true] at this;exact this.2
theorem Fo {t:api_Thread} (h:Di t=true):(0≤t.At∧t.At≤4000)∧(∀ s∈t.Regs,Cc s=true)∧∃ b,RB t.Body b:=by
  unfold Di at h
  rw [Bool.and_eq_true,Bool.and_eq_true,List.all_eq_true] at h
  exact ⟨Lo.1 h.1,h.2.1,Ra.1 h.2.2⟩
theorem Sq {p:api_Prog} (h:PB p):∀ e∈Dd p,0≤e.2∧e.2≤4000:=by
  intro e he
  simp only [Dd,List.mem_append,List.mem_map] at he
  rcases he with ⟨x,hx,rfl⟩ | ⟨x,hx,rfl⟩ | ⟨x,hx,rfl⟩
  · exact Oy (h.cell x hx)
  · exact Oy (h.locks x hx)
  · exact (Fo (h.thread x (List.mem_append_left _ hx))).1
theorem Nw:∀ {l:List (Str×Int)} {seen:List Str} {v:Int},Ej l seen=some v→∃ e∈l,e.2=v
  | [],_,_,h=>by simp [Ej] at h
  | e :: l, seen, v, h => by
    rw [Ej] at h
    split at h
    · exact ⟨e,.head _,Option.some.inj h⟩
    · obtain ⟨x,h1,h2⟩:=Nw h;exact ⟨x,.tail _ h1,h2⟩
theorem Kw:∀ (a b:List (Str×Int)) (seen:List Str),Ej (a ++ b) seen=none→Ej a seen=none∧Ej b (seen ++ a.map (·.1))=none
  | [],b,seen,h=>⟨rfl,by simpa using h⟩
  | e :: a, b, seen, h => by
    simp only [List.cons_append,Ej] at h ⊢
    split at h
    · cases h
    · rename_i q
      have:=Kw a b _ h
      rw [if_neg q]
      refine ⟨this.1,?_⟩
      have:=this.2
      rw [List.append_assoc] at this
      simpa using this
theorem Od:∀ (l:List (Str×Int)) (seen:List Str),Ej l seen=none→∀ e∈l,e.1 ∉ seen
  | [],_,_,e,he=>by cases he
  | x :: l, seen, h, e, he => by
    rw [Ej] at h
    split at h
    · cases h
    · rename_i q
      rcases List.mem_cons.1 he with rfl | he
      · exact q
      · exact fun k=>Od l _ h e he (List.mem_append_left _ k)
theorem Ja9 {p:api_Prog} {G:List Str} (h1:Ej (Dd p) []=none) (h2:Gy (Fi p) G=false):Apt p G:=by
  have h3:=(Kw _ _ _ h1).2
  have h4:=(Kw _ _ _ h3).1
  refine ⟨fun s hs=>?_,fun s hs=>?_⟩
  · obtain ⟨c, hc, rfl⟩ := List.mem_map.1 hs
    have:=Od _ _ h4 (c.Name,c.At) (List.mem_map.2 ⟨c,hc,rfl⟩)
    rw [← Dv]
    simpa [Function.comp_def] using this
  · have := N3 G _ h2 s hs
    rw [Ja,Dv,not_or] at this
    exact this
def Gs (t:api_Thread):Option Int:=(Z87 1000001 t.Body 1).bind fun r=>if r.2=true then some r.1 else none
theorem Ot {t:api_Thread} {o:Option Int} (h:Z87 1000001 t.Body 1=some (Kj o)):Gs t=o:=by
  unfold Gs;rw [h]
  cases o <;> rfl
theorem Vu {t:api_Thread} (h:Di t=true):Z87 1000001 t.Body 1=some (Kj (Gs t))∧Z6g 1000001 t.Body 1=some ((Gs t).getD (-1))∧∀ v,Gs t=some v→0≤v∧v≤4000:=by
  obtain ⟨_,_,b,hb⟩:=Fo h
  have hat:∀ x∈b.flat,0≤x.At∧x.At≤4000:=fun x hx=>(Np (hb.fits x (by rw [hb.flat];exact hx))).1
  have hlen:b.size≤40:=by have:=hb.len;rw [hb.flat,B.flat_len] at this;exact this
  have e1:=Rn 1000001 b hb.ok (by omega) 1 (by decide) (by decide)
  have e2:=Vj 1000001 b hb.ok (fun x hx=>(hat x hx).1) (by omega) 1 (by decide) (by decide)
  rw [← hb.flat] at e1 e2
  rw [Ot e1]
  refine ⟨e1,e2,fun v hv=>?_⟩
  obtain ⟨x,hx,rfl⟩:=Hi b 1 hv
  exact hat x hx
def out (c:Int) (o:Option Int) (k:Option (Int×Int)):Option (Int×Int):=match o with | some v=>some (c,v) | none=>k
theorem JaV {l:List api_Thread} (hl:l.length≤3000) (ht:∀ t∈l,Di t=true) (k:Option (Int×Int)):∀ (d j n:Nat),j+d=l.length→d < n→Z6s 1000001 k l n (j:Int)=out 11 ((l.drop j).findSome? Gs) k:=by
  intro d
  induction d with
  | zero =>
    intro j n hj hn
    obtain ⟨n,rfl⟩:∃ m,n=m+1:=⟨n - 1,by omega⟩
    rw [Z6s,if_neg (by omega),List.drop_of_length_le (by omega)];rfl
  | succ d ih =>
    intro j n hj hn
    obtain ⟨n,rfl⟩:∃ m,n=m+1:=⟨n - 1,by omega⟩
    have h1:j < l.length:=by omega
    rw [Z6s,if_pos (by omega),Ao rfl h1]
    simp only [Option.bind_some]
    rw [(Vu (ht _ (List.getElem_mem h1))).1,List.drop_eq_getElem_cons h1,List.findSome?_cons]
    simp only [Option.bind_some]
    cases Gs l[j] with
    | some v=>rfl
    | none=>rw [if_neg (by simp [Kj]),Bc h1 (by omega),ih (j+1) n (by omega) (by omega)]
theorem Jax {l:List api_Thread} (hl:l.length≤3000) (ht:∀ t∈l,Di t=true) (k:Option (Int×Int)):∀ (d j n:Nat),j+d=l.length→d < n→Z5c 1000001 k l n (j:Int)=out 11 ((l.drop j).findSome? Gs) k:=by
  intro d
  induction d with
  | zero =>
    intro j n hj hn
    obtain ⟨n,rfl⟩:∃ m,n=m+1:=⟨n - 1,by omega⟩
    rw [Z5c,if_neg (by omega),List.drop_of_length_le (by omega)];rfl
  | succ d ih =>
    intro j n hj hn
    obtain ⟨n,rfl⟩:∃ m,n=m+1:=⟨n - 1,by omega⟩
    have h1:j < l.length:=by omega
    have hw:=Vu (ht _ (List.getElem_mem h1))
    rw [Z5c,if_pos (by omega),Ao rfl h1]
    simp only [Option.bind_some]
    rw [hw.2.1,List.drop_eq_getElem_cons h1,List.findSome?_cons]
    simp only [Option.bind_some]
    cases hv:Gs l[j] with
    | some v=>rw [if_pos (by have:=(hw.2.2 v hv).1;simpa using this)];rfl
    | none=>rw [if_neg (by simp),Bc h1 (by omega),ih (j+1) n (by omega) (by omega)]
def Jf (p:api_Prog) (t:api_Thread):Option Int:=if Gy (Fi p) t.Regs=true then some t.At else none
theorem Jbi {p:api_Prog} {l:List api_Thread} (hl:l.length≤3000) (ht:∀ t∈l,SmallT t) (k:Option (Int×Int)) (a:Int) (b:Bool):∀ (d j n:Nat),j+d=l.length→d < n→Z6t 1000001 k (Kd p,a,b) l n (j:Int)=out 10 ((l.drop j).findSome? (Jf p)) k:=by
  intro d
  induction d with
  | zero =>
    intro j n hj hn
    obtain ⟨n,rfl⟩:∃ m,n=m+1:=⟨n - 1,by omega⟩
    rw [Z6t,if_neg (by omega),List.drop_of_length_le (by omega)];rfl
  | succ d ih =>
    intro j n hj hn
    obtain ⟨n,rfl⟩:∃ m,n=m+1:=⟨n - 1,by omega⟩
    have h1:j < l.length:=by omega
    have hs:=ht _ (List.getElem_mem h1)
    rw [Z6t,if_pos (by omega),Ao rfl h1]
    simp only [Option.bind_some]
    rw [Mt (by have:=hs.regs;omega),List.drop_eq_getElem_cons h1,List.findSome?_cons]
    simp only [Option.bind_some]
    unfold Jf
    cases Gy (Fi p) l[j].Regs with
    | true=>rfl
    | false=>rw [if_neg (by simp),Bc h1 (by omega),ih (j+1) n (by omega) (by omega)];rfl
theorem JaL {p:api_Prog} (hp:SmallP p) {l:List api_Thread} (hl:l.length≤3000) (ht:∀ t∈l,SmallT t) (k:Option (Int×Int)):∀ (d j n:Nat),j+d=l.length→d < n→Z5d 1000001 k p l n (j:Int)=out 10 ((l.drop j).findSome? (Jf p)) k:=by
  intro d
  induction d with
  | zero =>
    intro j n hj hn
    obtain ⟨n,rfl⟩:∃ m,n=m+1:=⟨n - 1,by omega⟩
    rw [Z5d,if_neg (by omega),List.drop_of_length_le (by omega)];rfl
  | succ d ih =>
    intro j n hj hn
    obtain ⟨n,rfl⟩:∃ m,n=m+1:=⟨n - 1,by omega⟩
    have h1:j < l.length:=by omega
    have hs:=ht _ (List.getElem_mem h1)
    rw [Z5d,if_pos (by omega),show (0:Int)=((0:Nat):Int) from rfl,On hp h1 (by have:=hs.regs;omega) _ l[j].Regs.length 0 1000001 (by omega) (by have:=hs.regs;omega),
      List.take_zero,List.append_nil,List.drop_zero,List.drop_eq_getElem_cons h1,List.findSome?_cons]
    unfold Jf
    cases Gy (Fi p) l[j].Regs with
    | true=>rfl
    | false=>rw [if_neg (by decide),Z57,Bc h1 (by omega),ih (j+1) n (by omega) (by omega)];rfl
def Ia (p:api_Prog) (t:api_Thread):Option Int:=t.Body.findSome? (Le p t.Regs)
theorem Jau {p:api_Prog} {l:List api_Thread} (hl:l.length≤3000) (ht:∀ t∈l,SmallT t) (hr:∀ t∈l,Gy (Fi p) t.Regs=false) (k:Option (Int×Int)) (a:Int) (b:Bool):∀ (d j n:Nat),j+d=l.length→d < n→Z6u 1000001 k (Kd p,a,b) l n (j:Int)=out 9 ((l.drop j).findSome? (Ia p)) k:=by
  intro d
  induction d with
  | zero =>
    intro j n hj hn
    obtain ⟨n,rfl⟩:∃ m,n=m+1:=⟨n - 1,by omega⟩
    rw [Z6u,if_neg (by omega),List.drop_of_length_le (by omega)];rfl
  | succ d ih =>
    intro j n hj hn
    obtain ⟨n,rfl⟩:∃ m,n=m+1:=⟨n - 1,by omega⟩
    have h1:j < l.length:=by omega
    have hs:=ht _ (List.getElem_mem h1)
    rw [Z6u,if_pos (by omega),Ao rfl h1]
    simp only [Option.bind_some]
    rw [Mt (by have:=hs.regs;omega),hr _ (List.getElem_mem h1),if_neg (by decide)]
    simp only [Option.bind_some,Z7u]
    rw [Rb (by have:=hs.body;omega) hs.small,List.drop_eq_getElem_cons h1,List.findSome?_cons]
    simp only [Option.bind_some]
    unfold Ia
    cases l[j].Body.findSome? (Le p l[j].Regs) with
    | some v=>rfl
    | none=>simp only;rw [Bc h1 (by omega),ih (j+1) n (by omega) (by omega)];rfl
theorem Ja3 {p:api_Prog} (hp:SmallP p) {l:List api_Thread} {i:Nat} (hi:i < l.length) (hs:SmallT l[i]) (hf:∀ x∈l[i].Body,Cw x=true) (ha:Apt p l[i].Regs) (k:Option (Int×Int)):∀ (d j n:Nat),j+d=l[i].Body.length→d < n→
    Z5a 1000001 k p l (i:Int) n (j:Int)=out 9 ((l[i].Body.drop j).findSome? (Le p l[i].Regs)) k:=by
  intro d
  have hB:=hs.body
  induction d with
  | zero =>
    intro j n hj hn
    obtain ⟨n,rfl⟩:∃ m,n=m+1:=⟨n - 1,by omega⟩
    rw [Z5a,Ao rfl hi]
    simp only [Option.bind_some]
    rw [if_neg (by omega),List.drop_of_length_le (by omega)];rfl
  | succ d ih =>
    intro j n hj hn
    obtain ⟨n,rfl⟩:∃ m,n=m+1:=⟨n - 1,by omega⟩
    have h1:j < l[i].Body.length:=by omega
    have hx:=hf _ (List.getElem_mem h1)
    rw [Z5a,Ao rfl hi]
    simp only [Option.bind_some]
    rw [if_pos (by omega),Ao rfl h1]
    simp only [Option.bind_some]
    rw [Xa hp (by have:=hs.regs;omega) ha hx,List.drop_eq_getElem_cons h1,List.findSome?_cons]
    simp only [Option.bind_some]
    cases hv:Le p l[i].Regs l[i].Body[j] with
    | some v=>rw [if_pos (by have:=(Wo hx hv).1;simpa using this)];rfl
    | none=>rw [if_neg (by simp),Bc h1 (by omega),ih (j+1) n (by omega) (by omega)]
theorem Xp {p:api_Prog} (hp:SmallP p) {l:List api_Thread} (hl:l.length≤3000) (ht:∀ t∈l,SmallT t) (hf:∀ t∈l,∀ x∈t.Body,Cw x=true) (ha:∀ t∈l,Apt p t.Regs) (k:Option (Int×Int)):∀ (d j n:Nat),j+d=l.length→d < n→
    Z5f 1000001 k p l n (j:Int)=out 9 ((l.drop j).findSome? (Ia p)) k:=by
  intro d
  induction d with
  | zero =>
    intro j n hj hn
    obtain ⟨n,rfl⟩:∃ m,n=m+1:=⟨n - 1,by omega⟩
    rw [Z5f,if_neg (by omega),List.drop_of_length_le (by omega)];rfl
  | succ d ih =>
    intro j n hj hn
    obtain ⟨n,rfl⟩:∃ m,n=m+1:=⟨n - 1,by omega⟩
    have h1:j < l.length:=by omega
    have hm:=List.getElem_mem h1
    have hs:=ht _ hm
    rw [Z5f,if_pos (by omega),show (0:Int)=((0:Nat):Int) from rfl,Ja3 hp h1 hs (hf _ hm) (ha _ hm) _ l[j].Body.length 0 1000001 (by omega) (by have:=hs.body;omega),List.drop_zero,List.drop_eq_getElem_cons h1,List.findSome?_cons]
    unfold Ia
    cases l[j].Body.findSome? (Le p l[j].Regs) with
    | some v=>rfl
    | none=>simp only [out];rw [Z54,Bc h1 (by omega),ih (j+1) n (by omega) (by omega)];rfl
def He (p:api_Prog) (c:api_Claim):Option Int:=c.E.findSome? (El (A1 p))
theorem Ts (p:api_Prog) (s:Str):(Bf s (Kd p)).getD 0=1↔s∈A1 p:=by
  rw [Sd]
  simp only [Fb,Ho]
  rw [Cz (f:=fun c:api_Cell=>c.Name),Cz (f:=fun c:api_Cell=>c.Name),Cz (f:=fun c:api_Cell=>c.Name),Cz (f:=fun t:api_Thread=>t.Name)]
  unfold A1
  split
  · rename_i h;exact ⟨fun _=>h,fun _=>rfl⟩
  · simp only [*, iff_false, Option.none_or]
    split
    · simp
    · simp only [Option.none_or]
      split
      · simp
      · simp only [Option.none_or];split <;> simp
theorem Jal {p:api_Prog} {c:api_Claim} (hc:c.E.length≤60) (k:Option (Int×Int)) (a:Int) (b:Bool):∀ (d j n:Nat),j+d=c.E.length→d < n→Z6r 1000001 k (Kd p,a,b) c n (j:Int)=out 9 ((c.E.drop j).findSome? (El (A1 p))) k:=by
  intro d
  induction d with
  | zero =>
    intro j n hj hn
    obtain ⟨n,rfl⟩:∃ m,n=m+1:=⟨n - 1,by omega⟩
    rw [Z6r,if_neg (by omega),List.drop_of_length_le (by omega)];rfl
  | succ d ih =>
    intro j n hj hn
    obtain ⟨n,rfl⟩:∃ m,n=m+1:=⟨n - 1,by omega⟩
    have h1:j < c.E.length:=by omega
    rw [Z6r,if_pos (by omega),Ao rfl h1]
    simp only [Option.bind_some]
    rw [List.drop_eq_getElem_cons h1,List.findSome?_cons,El]
    have hw:=Ts p c.E[j].Name
    by_cases h:c.E[j].Op=2∧c.E[j].Name ∉ A1 p
    · rw [if_pos h,if_pos (by rw [Bool.and_eq_true,decide_eq_true_eq,decide_eq_true_eq];exact ⟨h.1,fun q=>h.2 (hw.1 q)⟩)];rfl
    · rw [if_neg h,if_neg (by rw [Bool.and_eq_true,decide_eq_true_eq,decide_eq_true_eq];exact fun q=>h ⟨q.1,fun z=>q.2 (hw.2 z)⟩),Bc h1 (by omega),ih (j+1) n (by omega) (by omega)]
theorem Ww {p:api_Prog} (hp:SmallP p) (k:Option (Int×Int)) (a:Int) (b:Bool):∀ (d j n:Nat),j+d=p.Claims.length→d < n→Z6v 1000001 k p (Kd p,a,b) n (j:Int)=out 9 ((p.Claims.drop j).findSome? (He p)) k:=by
  intro d
  have hC:=hp.claims
  induction d with
  | zero =>
    intro j n hj hn
    obtain ⟨n,rfl⟩:∃ m,n=m+1:=⟨n - 1,by omega⟩
    rw [Z6v,if_neg (by omega),List.drop_of_length_le (by omega)];rfl
  | succ d ih =>
    intro j n hj hn
    obtain ⟨n,rfl⟩:∃ m,n=m+1:=⟨n - 1,by omega⟩
    have h1:j < p.Claims.length:=by omega
    have hs:=hp.claim _ (List.getElem_mem h1)
    rw [Z6v,if_pos (by omega),Ao rfl h1]
    simp only [Option.bind_some]
    rw [show (0:Int)=((0:Nat):Int) from rfl,Jal hs _ a b p.Claims[j].E.length 0 1000001 (by omega) (by omega),List.drop_zero,List.drop_eq_getElem_cons h1,List.findSome?_cons]
    unfold He
    cases p.Claims[j].E.findSome? (El (A1 p)) with
    | some v=>rfl
    | none=>simp only [out];rw [Z6n,Bc h1 (by omega),ih (j+1) n (by omega) (by omega)];rfl
theorem Wg {c:api_Claim} (h:Dl c=true):∀ x∈c.E,0≤x.At∧x.At≤4000:=by
  unfold Dl at h
  rw [Bool.and_eq_true] at h
  exact (Va (is:=true) (l:=c.E) h.2).2
theorem Vy {p:api_Prog} (hp:SmallP p) (hc:∀ c∈p.Claims,Dl c=true) (k:Option (Int×Int)):∀ (d j n:Nat),j+d=p.Claims.length→d < n→Z5b 1000001 k p (A1 p) n (j:Int)=out 9 ((p.Claims.drop j).findSome? (He p)) k:=by
  intro d
  have hC:=hp.claims
  have hF:=Dr hp
  have hA:(A1 p).length≤56:=by have e:=congrArg List.length (Dv p);simp only [List.length_map,List.length_append] at e;omega
  induction d with
  | zero =>
    intro j n hj hn
    obtain ⟨n,rfl⟩:∃ m,n=m+1:=⟨n - 1,by omega⟩
    rw [Z5b,if_neg (by omega),List.drop_of_length_le (by omega)];rfl
  | succ d ih =>
    intro j n hj hn
    obtain ⟨n,rfl⟩:∃ m,n=m+1:=⟨n - 1,by omega⟩
    have h1:j < p.Claims.length:=by omega
    have hs:=hp.claim _ (List.getElem_mem h1)
    rw [Z5b,if_pos (by omega),Ao rfl h1]
    simp only [Option.bind_some]
    rw [Kz (by omega) (by omega),List.drop_eq_getElem_cons h1,List.findSome?_cons]
    simp only [Option.bind_some]
    unfold He
    cases hv:p.Claims[j].E.findSome? (El (A1 p)) with
    | some v=>rw [if_pos (by have:=Ve (fun x hx=>(Wg (hc _ (List.getElem_mem h1)) x hx).1) hv;simpa using this)];rfl
    | none=>rw [if_neg (by simp),Bc h1 (by omega),ih (j+1) n (by omega) (by omega)];rfl
noncomputable def Jr (p:api_Prog):Option (Int×Int):=
  if Gn p=true then if Ks p=true then some (2,0) else
    out 11 ((Ce p).findSome? Gs) (out 10 (Ej (Dd p) []) (out 10 ((Ce p).findSome? (Jf p)) (out 9 ((Ce p).findSome? (Ia p)) (out 9 (p.Claims.findSome? (He p)) (some (0,0))))))
  else some (8,0)
theorem Mr {α β:Type} {f:α→Option β} {l:List α} (h:l.findSome? f=none):∀ x∈l,f x=none:=List.findSome?_eq_none_iff.1 h
theorem Up {p:api_Prog} (hp:SmallP p):Z6k 1000001 p=Jr p:=by
  have hA:=Km hp
  obtain ⟨n1,n2⟩:=Su hp.wide
  unfold Z6k Jr
  have hN:∃ r,Z7h 1000001 p=some r∧∀ (q:Gn p=true),Z6m 1000001 p r=out 10 (Ej (Dd p) []) (out 10 ((Ce p).findSome? (Jf p)) (out 9 ((Ce p).findSome? (Ia p)) (out 9 (p.Claims.findSome? (He p)) (some (0,0))))):=by
    cases hd:Ej (Dd p) [] with
    | some v =>
      obtain ⟨m,hm⟩:=n1 v hd
      exact ⟨_,hm,fun _=>by rw [Z6m,if_pos rfl];rfl⟩
    | none =>
      refine ⟨_,n2 hd,fun q=>?_⟩
      rw [Z6m,if_neg (show ¬ ((false:Bool)=true) from Bool.false_ne_true),Gi hp.wide]
      simp only [Option.bind_some]
      have e1:=Jbi (p:=p) (l:=Ce p) (by omega) hA.2 (Z6o 1000001 p (Kd p,0,false)) 0 false (Ce p).length 0 1000001 (by omega) (by omega)
      rw [List.drop_zero] at e1
      refine Eq.trans e1 ?_
      cases hr:(Ce p).findSome? (Jf p) with
      | some v=>rfl
      | none =>
        have hr':∀ t∈Ce p,Gy (Fi p) t.Regs=false:=by
          intro t ht
          have:=Mr hr t ht
          unfold Jf at this
          split at this
          · cases this
          · rename_i z;simpa using z
        simp only [out]
        rw [Z6o,Gi hp.wide]
        simp only [Option.bind_some]
        have e2:=Jau (p:=p) (l:=Ce p) (by omega) hA.2 hr' (Z6p 1000001 p (Kd p,0,false)) 0 false (Ce p).length 0 1000001 (by omega) (by omega)
        rw [List.drop_zero] at e2
        refine Eq.trans e2 ?_
        cases (Ce p).findSome? (Ia p) with
        | some v=>rfl
        | none =>
          simp only [out]
          rw [Z6p]
          have e3:=Ww hp Z6q 0 false p.Claims.length 0 1000001 (by omega) (by have:=hp.claims;omega)
          rw [List.drop_zero] at e3
          exact e3
  obtain ⟨r,hr,hj⟩:=hN
  rw [hr]
  simp only [Option.bind_some]
  rw [Jg hp.wide]
  simp only [Option.bind_some]
  cases hq:Gn p with
  | false=>rfl
  | true =>
    rw [if_pos rfl,if_pos rfl,Un hp.wide]
    simp only [Option.bind_some]
    cases Ks p with
    | true=>rfl
    | false =>
      rw [if_neg (by decide),if_neg (by decide),Gi hp.wide]
      simp only [Option.bind_some]
      have e1:=JaV (l:=Ce p) (by omega) (Jn.1 hq).thread (Z6m 1000001 p r) (Ce p).length 0 1000001 (by omega) (by omega)
      rw [List.drop_zero,hj hq] at e1
      rw [hj hq]
      exact e1
theorem Ti {p:api_Prog} (hp:SmallP p):Z52 1000001 p=Jr p:=by
  have hA:=Km hp
  have hF:=Dr hp
  unfold Z52 Jr
  rw [Jp hp.wide]
  simp only [Option.bind_some]
  cases hq:Gn p with
  | false=>rfl
  | true =>
    have hB:=Jn.1 hq
    rw [if_pos rfl,if_pos rfl,Rr hp.wide]
    simp only [Option.bind_some]
    cases Ks p with
    | true=>rfl
    | false =>
      rw [if_neg (by decide),if_neg (by decide),Gw hp.wide]
      simp only [Option.bind_some]
      have e1:=Jax (l:=Ce p) (by omega) hB.thread (Z53 1000001 p (Ce p)) (Ce p).length 0 1000001 (by omega) (by omega)
      rw [List.drop_zero] at e1
      refine Eq.trans e1 ?_
      suffices hj:Z53 1000001 p (Ce p)=out 10 (Ej (Dd p) []) (out 10 ((Ce p).findSome? (Jf p)) (out 9 ((Ce p).findSome? (Ia p)) (out 9 (p.Claims.findSome? (He p)) (some (0,0))))) by rw [hj]
      rw [Z53,Um hp]
      simp only [Option.bind_some]
      cases hd:Ej (Dd p) [] with
      | some v =>
        obtain ⟨e,he,hv⟩:=Nw hd
        have:=(Sq hB e he).1
        rw [Option.getD_some,if_pos (show v≥0 by omega)];simp only [out]
      | none =>
        rw [if_neg (by simp)]
        have e1:=JaL hp (l:=Ce p) (by omega) hA.2 (Z56 1000001 p (Ce p)) (Ce p).length 0 1000001 (by omega) (by omega)
        rw [List.drop_zero] at e1
        refine Eq.trans e1 ?_
        cases hr:(Ce p).findSome? (Jf p) with
        | some v=>rfl
        | none =>
          have hr':∀ t∈Ce p,Gy (Fi p) t.Regs=false:=by
            intro t ht
            have:=Mr hr t ht
            unfold Jf at this
            split at this
            · cases this
            · rename_i z;simpa using z
          simp only [out]
          rw [Z56]
          have e2:=Xp hp (l:=Ce p) (by omega) hA.2 (fun t ht x hx=>by
            obtain ⟨_,_,b,hb⟩:=Fo (hB.thread t ht)
            exact hb.fits x hx) (fun t ht=>Ja9 hd (hr' t ht)) (Z59 1000001 p) (Ce p).length 0 1000001 (by omega) (by omega)
          rw [List.drop_zero] at e2
          refine Eq.trans e2 ?_
          cases (Ce p).findSome? (Ia p) with
          | some v=>rfl
          | none =>
            simp only [out]
            rw [Z59,Jj hp,Jb hp]
            simp only [Option.bind_some]
            have hlen:(Ca p).length=p.Lines.flatten.length+p.Vols.length:=by simp [Ca]
            rw [Iw (by omega) (by omega) (by simp only [List.length_map];omega)]
            simp only [Option.bind_some]
            have hst:((List.map (fun x:api_Cell=>x.Name) (Ca p)).take (p.Lines.flatten.length:Int).toNat).drop (0:Int).toNat=A1 p:=by
              rw [Dv,Int.toNat_natCast,show (0:Int).toNat=0 from rfl,List.drop_zero,List.take_left' (by simp only [A1,List.length_map])]
            rw [hst]
            have e3:=Vy hp hB.claims Z55 p.Claims.length 0 1000001 (by omega) (by have:=hp.claims;omega)
            rw [List.drop_zero] at e3
            exact e3
end Go.MD.LB.W
