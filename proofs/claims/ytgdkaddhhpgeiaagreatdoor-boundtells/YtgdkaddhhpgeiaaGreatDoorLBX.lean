/- Which programs have the form of one, as the program and the document tell it. No condition: plain lemmas. -/
import Derived.Test.YtgdkaddhhpgeiaaGreatDoorLBV
namespace Go.MD.LB
open Go Go.MD
def Ez (a:Int):Bool:=decide (0≤a) && decide (a≤4000)
theorem Lh (N:Nat) (a:Int):Z9s N a=some (Ez a):=rfl
theorem Jp (N:Nat) (a:Int):Z60 N a=some (Ez a):=rfl
def cellB (most:Int) (c:api_Cell):Bool:=!(((!Cj c.Name) || (decide (c.N < 0))) || (decide (most < c.N))) && Ez c.At
theorem Xt (c:api_Cell) (most:Int):Z9r 1001 c most=some (!cellB most c):=by
  unfold Z9r cellB
  rw [Jb]
  simp only [Option.bind_some,Lh]
  cases (((!Cj c.Name) || (decide (c.N < 0))) || (decide (most < c.N))) <;> simp
theorem Tr {most:Int} {l:List api_Cell} (hl:l.length≤1000) (hs:∀ x∈l,True):Zaf 1001 l most=some (!l.all (cellB most)):=by
  have key:∀ (d j n:Nat),j+d=l.length→d < n→∃ r,Zaw 1001 Zav l most n (j:Int)=some r∧(decide (0≤r) = !(l.drop j).all (cellB most)):=by
    intro d
    induction d with
    | zero =>
      intro j n hj hn
      obtain ⟨n,rfl⟩:∃ m,n=m+1:=⟨n - 1,by omega⟩
      rw [Zaw,if_neg (by omega),List.drop_of_length_le (by omega)]
      exact ⟨-1,rfl,rfl⟩
    | succ d ih =>
      intro j n hj hn
      obtain ⟨n,rfl⟩:∃ m,n=m+1:=⟨n - 1,by omega⟩
      have h1:j < l.length:=by omega
      have h2:Z9r 1001 l[j] most=some (!(cellB most) l[j]):=Xt _ _
      rw [Zaw,if_pos (by omega),As rfl h1]
      simp only [Option.bind_some,h2]
      rw [List.drop_eq_getElem_cons h1,List.all_cons]
      cases hk:(cellB most) l[j] with
      | false=>exact ⟨j,by simp,by simp⟩
      | true =>
        obtain ⟨r,h2,h3⟩:=ih (j+1) n (by omega) (by omega)
        rw [Be h1 (by omega)]
        exact ⟨r,by simpa using h2,by simpa using h3⟩
  obtain ⟨r,h1,h2⟩:=key l.length 0 1001 (by omega) (by omega)
  unfold Zaf Zau
  rw [show (0:Int)=((0:Nat):Int) from rfl,h1]
  simpa using h2
theorem Lg {l:List api_Cell} (hl:l.length≤1000) (most:Int):Z9q 1001 l most=some (l.all (cellB most)):=by
  unfold Z9q
  rw [Tr hl (fun _ _=>trivial)]
  simp
def Gk (l:List api_Cell):Bool:=!decide (l.length=0) && l.all (cellB 4294967296)
theorem Xc {l:List api_Cell} (hl:l.length≤1000):Z9l 1001 l=some (!Gk l):=by
  unfold Z9l Gk
  by_cases h:l.length=0
  · rw [if_pos (by omega),decide_eq_true h];rfl
  · rw [if_neg (by omega),decide_eq_false h,Lg hl];simp
theorem Xz (s:Str):Z9u 1001 s=some (!Cj s):=by
  unfold Z9u;rw [Jb];rfl
theorem Vr {l:List (List api_Cell)} (hl:l.length≤1000) (hs:∀ x∈l,x.length≤1000):Zad 1001 l=some (!l.all Gk):=by
  have key:∀ (d j n:Nat),j+d=l.length→d < n→∃ r,Zaq 1001 Zap l n (j:Int)=some r∧(decide (0≤r) = !(l.drop j).all Gk):=by
    intro d
    induction d with
    | zero =>
      intro j n hj hn
      obtain ⟨n,rfl⟩:∃ m,n=m+1:=⟨n - 1,by omega⟩
      rw [Zaq,if_neg (by omega),List.drop_of_length_le (by omega)]
      exact ⟨-1,rfl,rfl⟩
    | succ d ih =>
      intro j n hj hn
      obtain ⟨n,rfl⟩:∃ m,n=m+1:=⟨n - 1,by omega⟩
      have h1:j < l.length:=by omega
      have h2:Z9l 1001 l[j]=some (!Gk l[j]):=Xc (hs _ (List.getElem_mem h1))
      rw [Zaq,if_pos (by omega),As rfl h1]
      simp only [Option.bind_some,h2]
      rw [List.drop_eq_getElem_cons h1,List.all_cons]
      cases hk:Gk l[j] with
      | false=>exact ⟨j,by simp,by simp⟩
      | true =>
        obtain ⟨r,h2,h3⟩:=ih (j+1) n (by omega) (by omega)
        rw [Be h1 (by omega)]
        exact ⟨r,by simpa using h2,by simpa using h3⟩
  obtain ⟨r,h1,h2⟩:=key l.length 0 1001 (by omega) (by omega)
  unfold Zad Zao
  rw [show (0:Int)=((0:Nat):Int) from rfl,h1]
  simpa using h2
theorem Yi {l:List Str} (hl:l.length≤1000) (hs:∀ x∈l,True):Zam 1001 l=some (!l.all Cj):=by
  have key:∀ (d j n:Nat),j+d=l.length→d < n→∃ r,Zbh 1001 Zbg l n (j:Int)=some r∧(decide (0≤r) = !(l.drop j).all Cj):=by
    intro d
    induction d with
    | zero =>
      intro j n hj hn
      obtain ⟨n,rfl⟩:∃ m,n=m+1:=⟨n - 1,by omega⟩
      rw [Zbh,if_neg (by omega),List.drop_of_length_le (by omega)]
      exact ⟨-1,rfl,rfl⟩
    | succ d ih =>
      intro j n hj hn
      obtain ⟨n,rfl⟩:∃ m,n=m+1:=⟨n - 1,by omega⟩
      have h1:j < l.length:=by omega
      have h2:Z9u 1001 l[j]=some (!Cj l[j]):=Xz _
      rw [Zbh,if_pos (by omega),As rfl h1]
      simp only [Option.bind_some,h2]
      rw [List.drop_eq_getElem_cons h1,List.all_cons]
      cases hk:Cj l[j] with
      | false=>exact ⟨j,by simp,by simp⟩
      | true =>
        obtain ⟨r,h2,h3⟩:=ih (j+1) n (by omega) (by omega)
        rw [Be h1 (by omega)]
        exact ⟨r,by simpa using h2,by simpa using h3⟩
  obtain ⟨r,h1,h2⟩:=key l.length 0 1001 (by omega) (by omega)
  unfold Zam Zbf
  rw [show (0:Int)=((0:Nat):Int) from rfl,h1]
  simpa using h2
open Classical in
noncomputable def Iu (l:List api_Stmt):Bool:=decide (∃ t,RB l t)
theorem Nc {l:List api_Stmt} (hl:l.length≤1000) (hs:∀ x∈l,Do x):Zbm 1001 l=some (Iu l)∧Z4f 1001 l=some (Iu l):=by
  obtain ⟨b,h1,h2,h3⟩:=Wz hl hs
  have:b=Iu l:=Ob h3
  rw [h1,h2,this]
  exact ⟨rfl,rfl⟩
theorem Rv {l:List api_Stmt}:Iu l=true↔∃ t,RB l t:=by unfold Iu;simp
noncomputable def Dp (t:api_Thread):Bool:=Ez t.At && (t.Regs.all Cj && Iu t.Body)
theorem Nf {t:api_Thread} (ht:SmallT t):Z9t 1001 t=some (Dp t):=by
  unfold Z9t Dp
  rw [Lh]
  simp only [Option.bind_some]
  cases Ez t.At with
  | false=>rfl
  | true =>
    rw [if_pos rfl,Yi (by have:=ht.regs;omega) (fun _ _=>trivial)]
    simp only [Option.bind_some]
    cases t.Regs.all Cj with
    | false=>rfl
    | true =>
      rw [if_neg (by decide),(Nc (by have:=ht.body;omega) ht.small).1];rfl
noncomputable def Dh (t:api_Thread):Bool:=Cj t.Name && Dp t
noncomputable def Cd (t:api_Thread):Bool:=decide (t.Name=[]) && Dp t
theorem Xi {t:api_Thread} (ht:SmallT t):Z9m 1001 t=some (!Dh t):=by
  unfold Z9m Dh
  rw [Jb]
  simp only [Option.bind_some]
  cases Cj t.Name with
  | false=>rfl
  | true=>rw [if_pos rfl,Nf ht];rfl
theorem Rc {t:api_Thread} (ht:SmallT t):Z9n 1001 t=some (!Cd t):=by
  unfold Z9n Cd
  by_cases h:t.Name=[]
  · rw [if_neg (by simpa using h),decide_eq_true h,Nf ht];rfl
  · rw [if_pos h,decide_eq_false h];rfl
noncomputable def Dw (c:api_Claim):Bool:=Ez c.At && He c.E
theorem Wh {c:api_Claim} (hc:c.E.length≤60):Z9o 1001 c=some (!Dw c):=by
  unfold Z9o Dw
  rw [Lh]
  simp only [Option.bind_some]
  cases Ez c.At with
  | false=>rfl
  | true=>rw [if_pos rfl,Mn hc];rfl
theorem Tf {l:List api_Thread} (hl:l.length≤1000) (hs:∀ x∈l,SmallT x):Zaj 1001 l=some (!l.all Dh):=by
  have key:∀ (d j n:Nat),j+d=l.length→d < n→∃ r,Zb8 1001 Zb7 l n (j:Int)=some r∧(decide (0≤r) = !(l.drop j).all Dh):=by
    intro d
    induction d with
    | zero =>
      intro j n hj hn
      obtain ⟨n,rfl⟩:∃ m,n=m+1:=⟨n - 1,by omega⟩
      rw [Zb8,if_neg (by omega),List.drop_of_length_le (by omega)]
      exact ⟨-1,rfl,rfl⟩
    | succ d ih =>
      intro j n hj hn
      obtain ⟨n,rfl⟩:∃ m,n=m+1:=⟨n - 1,by omega⟩
      have h1:j < l.length:=by omega
      have h2:Z9m 1001 l[j]=some (!Dh l[j]):=Xi (hs _ (List.getElem_mem h1))
      rw [Zb8,if_pos (by omega),As rfl h1]
      simp only [Option.bind_some,h2]
      rw [List.drop_eq_getElem_cons h1,List.all_cons]
      cases hk:Dh l[j] with
      | false=>exact ⟨j,by simp,by simp⟩
      | true =>
        obtain ⟨r,h2,h3⟩:=ih (j+1) n (by omega) (by omega)
        rw [Be h1 (by omega)]
        exact ⟨r,by simpa using h2,by simpa using h3⟩
  obtain ⟨r,h1,h2⟩:=key l.length 0 1001 (by omega) (by omega)
  unfold Zaj Zb6
  rw [show (0:Int)=((0:Nat):Int) from rfl,h1]
  simpa using h2
theorem Ol {l:List api_Thread} (hl:l.length≤1000) (hs:∀ x∈l,SmallT x):Zak 1001 l=some (!l.all Cd):=by
  have key:∀ (d j n:Nat),j+d=l.length→d < n→∃ r,Zbb 1001 Zba l n (j:Int)=some r∧(decide (0≤r) = !(l.drop j).all Cd):=by
    intro d
    induction d with
    | zero =>
      intro j n hj hn
      obtain ⟨n,rfl⟩:∃ m,n=m+1:=⟨n - 1,by omega⟩
      rw [Zbb,if_neg (by omega),List.drop_of_length_le (by omega)]
      exact ⟨-1,rfl,rfl⟩
    | succ d ih =>
      intro j n hj hn
      obtain ⟨n,rfl⟩:∃ m,n=m+1:=⟨n - 1,by omega⟩
      have h1:j < l.length:=by omega
      have h2:Z9n 1001 l[j]=some (!Cd l[j]):=Rc (hs _ (List.getElem_mem h1))
      rw [Zbb,if_pos (by omega),As rfl h1]
      simp only [Option.bind_some,h2]
      rw [List.drop_eq_getElem_cons h1,List.all_cons]
      cases hk:Cd l[j] with
      | false=>exact ⟨j,by simp,by simp⟩
      | true =>
        obtain ⟨r,h2,h3⟩:=ih (j+1) n (by omega) (by omega)
        rw [Be h1 (by omega)]
        exact ⟨r,by simpa using h2,by simpa using h3⟩
  obtain ⟨r,h1,h2⟩:=key l.length 0 1001 (by omega) (by omega)
  unfold Zak Zb9
  rw [show (0:Int)=((0:Nat):Int) from rfl,h1]
  simpa using h2
theorem Uf {l:List api_Claim} (hl:l.length≤1000) (hs:∀ x∈l,x.E.length≤60):Zag 1001 l=some (!l.all Dw):=by
  have key:∀ (d j n:Nat),j+d=l.length→d < n→∃ r,Zaz 1001 Zay l n (j:Int)=some r∧(decide (0≤r) = !(l.drop j).all Dw):=by
    intro d
    induction d with
    | zero =>
      intro j n hj hn
      obtain ⟨n,rfl⟩:∃ m,n=m+1:=⟨n - 1,by omega⟩
      rw [Zaz,if_neg (by omega),List.drop_of_length_le (by omega)]
      exact ⟨-1,rfl,rfl⟩
    | succ d ih =>
      intro j n hj hn
      obtain ⟨n,rfl⟩:∃ m,n=m+1:=⟨n - 1,by omega⟩
      have h1:j < l.length:=by omega
      have h2:Z9o 1001 l[j]=some (!Dw l[j]):=Wh (hs _ (List.getElem_mem h1))
      rw [Zaz,if_pos (by omega),As rfl h1]
      simp only [Option.bind_some,h2]
      rw [List.drop_eq_getElem_cons h1,List.all_cons]
      cases hk:Dw l[j] with
      | false=>exact ⟨j,by simp,by simp⟩
      | true =>
        obtain ⟨r,h2,h3⟩:=ih (j+1) n (by omega) (by omega)
        rw [Be h1 (by omega)]
        exact ⟨r,by simpa using h2,by simpa using h3⟩
  obtain ⟨r,h1,h2⟩:=key l.length 0 1001 (by omega) (by omega)
  unfold Zag Zax
  rw [show (0:Int)=((0:Nat):Int) from rfl,h1]
  simpa using h2
noncomputable def Hl (p:api_Prog):Bool:=p.Lines.all Gk && (p.Vols.all (cellB 4294967296) && (p.Locks.all (cellB 0) && (decide (p.Recover.length≤1) && (p.Threads.all Dh && (p.Recover.all Cd && p.Claims.all Dw)))))
theorem Fy {p:api_Prog} (hp:SmallP p) (b:Bool):Z9p 1001 p b=some (!b && (p.Threads.all Dh && (p.Recover.all Cd && p.Claims.all Dw))):=by
  unfold Z9p
  cases b with
  | true=>rfl
  | false =>
    rw [if_neg (by decide),Tf (by have:=hp.threads;omega) hp.thread]
    simp only [Option.bind_some]
    cases p.Threads.all Dh with
    | false=>rfl
    | true =>
      rw [if_neg (by decide),Ol (by have:=hp.recover;omega) hp.recov]
      simp only [Option.bind_some]
      cases p.Recover.all Cd with
      | false=>rfl
      | true =>
        rw [if_neg (by decide),Uf (by have:=hp.claims;omega) hp.claim]
        simp
theorem Tj {p:api_Prog} (hp:SmallP p):Z9k 1001 p=some (Hl p):=by
  unfold Z9k Hl
  rw [Vr (by have:=hp.lines;omega) (fun x hx=>by have:=hp.line x hx;omega)]
  simp only [Option.bind_some]
  cases p.Lines.all Gk with
  | false=>rw [if_pos (by decide),Fy hp];rfl
  | true =>
    rw [if_neg (by decide),Lg (by have:=hp.vols;omega)]
    simp only [Option.bind_some]
    cases p.Vols.all (cellB 4294967296) with
    | false=>rw [if_neg (by decide),Fy hp];rfl
    | true =>
      rw [if_pos rfl,Lg (by have:=hp.locks;omega)]
      simp only [Option.bind_some]
      cases p.Locks.all (cellB 0) with
      | false=>rw [if_neg (by decide),Fy hp];rfl
      | true =>
        rw [if_pos rfl,Fy hp]
        by_cases h:p.Recover.length≤1
        · rw [decide_eq_true h,decide_eq_false (by omega)];simp
        · rw [decide_eq_false h,decide_eq_true (by omega)];simp
theorem Qb {l:List api_Cell} (hl:l.length≤1000) (most:Int):∀ (d j n:Nat),j+d=l.length→d < n→Z5z 1001 Z5x l most n (j:Int)=some ((l.drop j).all (cellB most)):=by
  intro d
  induction d with
  | zero =>
    intro j n hj hn
    obtain ⟨n,rfl⟩:∃ m,n=m+1:=⟨n - 1,by omega⟩
    rw [Z5z,if_neg (by omega),List.drop_of_length_le (by omega)];rfl
  | succ d ih =>
    intro j n hj hn
    obtain ⟨n,rfl⟩:∃ m,n=m+1:=⟨n - 1,by omega⟩
    have h1:j < l.length:=by omega
    rw [Z5z,if_pos (by omega),As rfl h1]
    simp only [Option.bind_some]
    rw [Gd]
    simp only [Option.bind_some,Jp]
    rw [List.drop_eq_getElem_cons h1,List.all_cons]
    conv=>rhs;rw [cellB]
    cases (((!Cj l[j].Name) || (decide (l[j].N < 0))) || (decide (most < l[j].N))) with
    | true=>rw [if_pos rfl,Z5y,if_pos rfl];rfl
    | false =>
      rw [if_neg (by decide),Z5y]
      cases Ez l[j].At with
      | false=>rfl
      | true =>
        rw [if_neg (by decide),Be h1 (by omega),ih (j+1) n (by omega) (by omega)];simp
theorem Js {l:List api_Cell} (hl:l.length≤1000) (most:Int):Z5w 1001 l most=some (l.all (cellB most)):=by
  have:=Qb hl most l.length 0 1001 (by omega) (by omega)
  rw [List.drop_zero] at this
  exact this
theorem Rq {p:List api_Thread} {i:Nat} (hi:i < p.length) (hr:p[i].Regs.length≤1000) (k:Option Bool):∀ (d j n:Nat),j+d=p[i].Regs.length→d < n→Z66 1001 k p (i:Int) n (j:Int)=if (p[i].Regs.drop j).all Cj=true then k else some false:=by
  intro d
  induction d with
  | zero =>
    intro j n hj hn
    obtain ⟨n,rfl⟩:∃ m,n=m+1:=⟨n - 1,by omega⟩
    rw [Z66,As rfl hi]
    simp only [Option.bind_some]
    rw [if_neg (by omega),List.drop_of_length_le (by omega)];rfl
  | succ d ih =>
    intro j n hj hn
    obtain ⟨n,rfl⟩:∃ m,n=m+1:=⟨n - 1,by omega⟩
    have h1:j < p[i].Regs.length:=by omega
    rw [Z66,As rfl hi]
    simp only [Option.bind_some]
    rw [if_pos (by omega),As rfl h1]
    simp only [Option.bind_some]
    rw [Gd]
    simp only [Option.bind_some]
    rw [List.drop_eq_getElem_cons h1,List.all_cons]
    cases Cj p[i].Regs[j] with
    | false=>rfl
    | true =>
      rw [if_pos rfl,Be h1 (by omega),ih (j+1) n (by omega) (by omega)];simp
noncomputable def Rx (named:Bool) (t:api_Thread):Bool:=if named=true then Dh t else Cd t
theorem Mj {p:List api_Thread} (hl:p.length≤1000) (hs:∀ t∈p,SmallT t) (named:Bool):∀ (d j n:Nat),j+d=p.length→d < n→Z65 1001 Z62 p named n (j:Int)=some ((p.drop j).all (Rx named)):=by
  intro d
  induction d with
  | zero =>
    intro j n hj hn
    obtain ⟨n,rfl⟩:∃ m,n=m+1:=⟨n - 1,by omega⟩
    rw [Z65,if_neg (by omega),List.drop_of_length_le (by omega)];rfl
  | succ d ih =>
    intro j n hj hn
    obtain ⟨n,rfl⟩:∃ m,n=m+1:=⟨n - 1,by omega⟩
    have h1:j < p.length:=by omega
    have ht:=hs _ (List.getElem_mem h1)
    rw [Z65,if_pos (by omega),As rfl h1]
    simp only [Option.bind_some]
    rw [Gd]
    simp only [Option.bind_some,Jp]
    rw [List.drop_eq_getElem_cons h1,List.all_cons]
    have hw:Rx named p[j]=(!((named != Cj p[j].Name) || ((!named) && (decide (p[j].Name≠[])))) && Dp p[j]):=by
      unfold Rx Dh Cd
      cases named with
      | true=>simp
      | false =>
        by_cases e:p[j].Name=[]
        · rw [e];simp [Cj]
        · simp [e]
    rw [hw,Dp]
    have fin:∀ b:Bool,Z64 1001 (Z63 (Z65 1001 Z62 p named n) (j:Int)) p (j:Int) b=some (!b && (p[j].Regs.all Cj && (p.drop (j+1)).all (Rx named))):=by
      intro b
      rw [Z64]
      cases b with
      | true=>rfl
      | false =>
        rw [if_neg (by decide),show (0:Int)=((0:Nat):Int) from rfl,Rq h1 (by have:=ht.regs;omega) _ p[j].Regs.length 0 1001 (by omega) (by have:=ht.regs;omega),List.drop_zero]
        cases p[j].Regs.all Cj with
        | false=>rfl
        | true=>rw [if_pos rfl,Z63,Be h1 (by omega),ih (j+1) n (by omega) (by omega)];rfl
    cases ((named != Cj p[j].Name) || ((!named) && (decide (p[j].Name≠[])))) with
    | true=>rw [if_pos rfl,fin];rfl
    | false =>
      rw [if_neg (by decide)]
      cases Ez p[j].At with
      | false=>rw [if_neg (by decide),fin];rfl
      | true =>
        rw [if_pos rfl,(Nc (by have:=ht.body;omega) ht.small).2]
        simp only [Option.bind_some]
        rw [fin]
        cases Iu p[j].Body <;> cases p[j].Regs.all Cj <;> simp
theorem Kf {p:List api_Thread} (hl:p.length≤1000) (hs:∀ t∈p,SmallT t) (named:Bool):Z61 1001 p named=some (p.all (Rx named)):=by
  have:=Mj hl hs named p.length 0 1001 (by omega) (by omega)
  rw [List.drop_zero] at this
  exact this
theorem N6 {p:api_Prog} (hp:SmallP p) (k:Option Bool):∀ (d j n:Nat),j+d=p.Claims.length→d < n→Z5v 1001 k p n (j:Int)=if (p.Claims.drop j).all Dw=true then k else some false:=by
  intro d
  have hC:=hp.claims
  induction d with
  | zero =>
    intro j n hj hn
    obtain ⟨n,rfl⟩:∃ m,n=m+1:=⟨n - 1,by omega⟩
    rw [Z5v,if_neg (by omega),List.drop_of_length_le (by omega)];rfl
  | succ d ih =>
    intro j n hj hn
    obtain ⟨n,rfl⟩:∃ m,n=m+1:=⟨n - 1,by omega⟩
    have h1:j < p.Claims.length:=by omega
    rw [Z5v,if_pos (by omega),As rfl h1]
    simp only [Option.bind_some,Jp]
    rw [List.drop_eq_getElem_cons h1,List.all_cons]
    conv=>rhs;rw [Dw]
    cases Ez p.Claims[j].At with
    | false=>rw [if_neg (by decide),Z5t];rfl
    | true =>
      rw [if_pos rfl,Ir (hp.claim _ (List.getElem_mem h1))]
      simp only [Option.bind_some]
      rw [Z5t]
      cases He p.Claims[j].E with
      | false=>rfl
      | true=>rw [if_neg (by decide),Be h1 (by omega),ih (j+1) n (by omega) (by omega)];simp
theorem On {p:api_Prog} (hp:SmallP p) (k:Option Bool):∀ (d j n:Nat),j+d=p.Lines.length→d < n→Z5u 1001 k p n (j:Int)=if (p.Lines.drop j).all Gk=true then k else some false:=by
  intro d
  have hC:=hp.lines
  induction d with
  | zero =>
    intro j n hj hn
    obtain ⟨n,rfl⟩:∃ m,n=m+1:=⟨n - 1,by omega⟩
    rw [Z5u,if_neg (by omega),List.drop_of_length_le (by omega)];rfl
  | succ d ih =>
    intro j n hj hn
    obtain ⟨n,rfl⟩:∃ m,n=m+1:=⟨n - 1,by omega⟩
    have h1:j < p.Lines.length:=by omega
    have h2:=hp.line _ (List.getElem_mem h1)
    rw [Z5u,if_pos (by omega),As rfl h1]
    simp only [Option.bind_some]
    rw [List.drop_eq_getElem_cons h1,List.all_cons]
    conv=>rhs;rw [Gk]
    by_cases h:p.Lines[j].length=0
    · rw [if_pos (by omega),decide_eq_true h,Z5r];rfl
    · rw [if_neg (by omega), decide_eq_false h, Js (by omega)]
      simp only [Option.bind_some]
      rw [Z5r]
      cases p.Lines[j].all (cellB 4294967296) with
      | false=>rfl
      | true=>rw [if_neg (by decide),Be h1 (by omega),ih (j+1) n (by omega) (by omega)];simp
theorem Um {p:api_Prog} (hp:SmallP p):Z5p 1001 p=some (Hl p):=by
  have hL:=hp.lines
  have hC:=hp.claims
  unfold Z5p
  rw [show (0:Int)=((0:Nat):Int) from rfl,On hp _ p.Lines.length 0 1001 (by omega) (by omega),List.drop_zero]
  unfold Hl
  cases p.Lines.all Gk with
  | false=>rfl
  | true =>
    rw [if_pos rfl,Z5q,show (0:Int)=((0:Nat):Int) from rfl,N6 hp _ p.Claims.length 0 1001 (by omega) (by omega),List.drop_zero]
    have hj4:Z5s 1001 p=some (p.Vols.all (cellB 4294967296) && (p.Locks.all (cellB 0) && (p.Threads.all Dh && (p.Recover.all Cd && decide (p.Recover.length≤1))))):=by
      rw [Z5s,Js (by have:=hp.vols;omega)]
      simp only [Option.bind_some]
      cases p.Vols.all (cellB 4294967296) with
      | false=>rfl
      | true =>
        rw [if_pos rfl,Js (by have:=hp.locks;omega)]
        simp only [Option.bind_some]
        cases p.Locks.all (cellB 0) with
        | false=>rfl
        | true =>
          rw [if_pos rfl,Kf (by have:=hp.threads;omega) hp.thread]
          simp only [Option.bind_some]
          rw [show p.Threads.all (Rx true)=p.Threads.all Dh from rfl]
          cases p.Threads.all Dh with
          | false=>rfl
          | true =>
            rw [if_pos rfl,Kf (by have:=hp.recover;omega) hp.recov]
            simp only [Option.bind_some]
            rw [show p.Recover.all (Rx false)=p.Recover.all Cd from rfl]
            congr 1
            rw [show decide ((p.Recover.length:Int)≤1)=decide (p.Recover.length≤1) from by congr 1;exact propext (by omega)]
            simp
    rw [hj4]
    cases p.Claims.all Dw <;> cases p.Vols.all (cellB 4294967296) <;> cases p.Locks.all (cellB 0) <;> cases p.Threads.all Dh <;> cases p.Recover.all Cd <;> cases decide (p.Recover.length≤1) <;> rfl
end Go.MD.LB
