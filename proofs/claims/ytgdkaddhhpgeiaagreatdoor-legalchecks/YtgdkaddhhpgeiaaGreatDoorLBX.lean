/- Which programs have the form of one, as the program and the document tell it. No condition: plain lemmas. -/
import Derived.Test.YtgdkaddhhpgeiaaGreatDoorLBV
namespace Go.MD.LB
open Go Go.MD
def Eo (a:Int):Bool:=decide (0≤a) && decide (a≤4000)
theorem Kg (N:Nat) (a:Int):Z95 N a=some (Eo a):=rfl
theorem Jh (N:Nat) (a:Int):Z5d N a=some (Eo a):=rfl
def cellB (most:Int) (c:api_Cell):Bool:=!(((!Ce c.Name) || (decide (c.N < 0))) || (decide (most < c.N))) && Eo c.At
theorem Xf (c:api_Cell) (most:Int):Z94 1001 c most=some (!cellB most c):=by
  unfold Z94 cellB
  rw [Is]
  simp only [Option.bind_some,Kg]
  cases (((!Ce c.Name) || (decide (c.N < 0))) || (decide (most < c.N))) <;> simp
theorem Sf {most:Int} {l:List api_Cell} (hl:l.length≤1000) (hs:∀ x∈l,True):Z9s 1001 l most=some (!l.all (cellB most)):=by
  have key:∀ (d j n:Nat),j+d=l.length→d < n→∃ r,Za9 1001 Za8 l most n (j:Int)=some r∧(decide (0≤r) = !(l.drop j).all (cellB most)):=by
    intro d
    induction d with
    | zero =>
      intro j n hj hn
      obtain ⟨n,rfl⟩:∃ m,n=m+1:=⟨n - 1,by omega⟩
      rw [Za9,if_neg (by omega),List.drop_of_length_le (by omega)]
      exact ⟨-1,rfl,rfl⟩
    | succ d ih =>
      intro j n hj hn
      obtain ⟨n,rfl⟩:∃ m,n=m+1:=⟨n - 1,by omega⟩
      have h1:j < l.length:=by omega
      have h2:Z94 1001 l[j] most=some (!(cellB most) l[j]):=Xf _ _
      rw [Za9,if_pos (by omega),As rfl h1]
      simp only [Option.bind_some,h2]
      rw [List.drop_eq_getElem_cons h1,List.all_cons]
      cases hk:(cellB most) l[j] with
      | false=>exact ⟨j,by simp,by simp⟩
      | true =>
        obtain ⟨r,h2,h3⟩:=ih (j+1) n (by omega) (by omega)
        rw [Bf h1 (by omega)]
        exact ⟨r,by simpa using h2,by simpa using h3⟩
  obtain ⟨r,h1,h2⟩:=key l.length 0 1001 (by omega) (by omega)
  unfold Z9s Za7
  rw [show (0:Int)=((0:Nat):Int) from rfl,h1]
  simpa using h2
theorem Km {l:List api_Cell} (hl:l.length≤1000) (most:Int):Z93 1001 l most=some (l.all (cellB most)):=by
  unfold Z93
  rw [Sf hl (fun _ _=>trivial)]
  simp
def Fw (l:List api_Cell):Bool:=!decide (l.length=0) && l.all (cellB 4294967296)
theorem Vz {l:List api_Cell} (hl:l.length≤1000):Z8y 1001 l=some (!Fw l):=by
  unfold Z8y Fw
  by_cases h:l.length=0
  · rw [if_pos (by omega),decide_eq_true h];rfl
  · rw [if_neg (by omega),decide_eq_false h,Km hl];simp
theorem Wn (s:Str):Z97 1001 s=some (!Ce s):=by
  unfold Z97;rw [Is];rfl
theorem Vq {l:List (List api_Cell)} (hl:l.length≤1000) (hs:∀ x∈l,x.length≤1000):Z9q 1001 l=some (!l.all Fw):=by
  have key:∀ (d j n:Nat),j+d=l.length→d < n→∃ r,Za3 1001 Za2 l n (j:Int)=some r∧(decide (0≤r) = !(l.drop j).all Fw):=by
    intro d
    induction d with
    | zero =>
      intro j n hj hn
      obtain ⟨n,rfl⟩:∃ m,n=m+1:=⟨n - 1,by omega⟩
      rw [Za3,if_neg (by omega),List.drop_of_length_le (by omega)]
      exact ⟨-1,rfl,rfl⟩
    | succ d ih =>
      intro j n hj hn
      obtain ⟨n,rfl⟩:∃ m,n=m+1:=⟨n - 1,by omega⟩
      have h1:j < l.length:=by omega
      have h2:Z8y 1001 l[j]=some (!Fw l[j]):=Vz (hs _ (List.getElem_mem h1))
      rw [Za3,if_pos (by omega),As rfl h1]
      simp only [Option.bind_some,h2]
      rw [List.drop_eq_getElem_cons h1,List.all_cons]
      cases hk:Fw l[j] with
      | false=>exact ⟨j,by simp,by simp⟩
      | true =>
        obtain ⟨r,h2,h3⟩:=ih (j+1) n (by omega) (by omega)
        rw [Bf h1 (by omega)]
        exact ⟨r,by simpa using h2,by simpa using h3⟩
  obtain ⟨r,h1,h2⟩:=key l.length 0 1001 (by omega) (by omega)
  unfold Z9q Za1
  rw [show (0:Int)=((0:Nat):Int) from rfl,h1]
  simpa using h2
theorem Xh {l:List Str} (hl:l.length≤1000) (hs:∀ x∈l,True):Z9z 1001 l=some (!l.all Ce):=by
  have key:∀ (d j n:Nat),j+d=l.length→d < n→∃ r,Zau 1001 Zat l n (j:Int)=some r∧(decide (0≤r) = !(l.drop j).all Ce):=by
    intro d
    induction d with
    | zero =>
      intro j n hj hn
      obtain ⟨n,rfl⟩:∃ m,n=m+1:=⟨n - 1,by omega⟩
      rw [Zau,if_neg (by omega),List.drop_of_length_le (by omega)]
      exact ⟨-1,rfl,rfl⟩
    | succ d ih =>
      intro j n hj hn
      obtain ⟨n,rfl⟩:∃ m,n=m+1:=⟨n - 1,by omega⟩
      have h1:j < l.length:=by omega
      have h2:Z97 1001 l[j]=some (!Ce l[j]):=Wn _
      rw [Zau,if_pos (by omega),As rfl h1]
      simp only [Option.bind_some,h2]
      rw [List.drop_eq_getElem_cons h1,List.all_cons]
      cases hk:Ce l[j] with
      | false=>exact ⟨j,by simp,by simp⟩
      | true =>
        obtain ⟨r,h2,h3⟩:=ih (j+1) n (by omega) (by omega)
        rw [Bf h1 (by omega)]
        exact ⟨r,by simpa using h2,by simpa using h3⟩
  obtain ⟨r,h1,h2⟩:=key l.length 0 1001 (by omega) (by omega)
  unfold Z9z Zas
  rw [show (0:Int)=((0:Nat):Int) from rfl,h1]
  simpa using h2
open Classical in
noncomputable def Ij (l:List api_Stmt):Bool:=decide (∃ t,RB l t)
theorem Mg {l:List api_Stmt} (hl:l.length≤1000) (hs:∀ x∈l,Dn x):Zb2 1001 l=some (Ij l)∧Z3s 1001 l=some (Ij l):=by
  obtain ⟨b,h1,h2,h3⟩:=Jad hl hs
  have:b=Ij l:=Nn h3
  rw [h1,h2,this]
  exact ⟨rfl,rfl⟩
theorem Qn {l:List api_Stmt}:Ij l=true↔∃ t,RB l t:=by unfold Ij;simp
noncomputable def Dm (t:api_Thread):Bool:=Eo t.At && (t.Regs.all Ce && Ij t.Body)
theorem Mx {t:api_Thread} (ht:SmallT t):Z96 1001 t=some (Dm t):=by
  unfold Z96 Dm
  rw [Kg]
  simp only [Option.bind_some]
  cases Eo t.At with
  | false=>rfl
  | true =>
    rw [if_pos rfl,Xh (by have:=ht.regs;omega) (fun _ _=>trivial)]
    simp only [Option.bind_some]
    cases t.Regs.all Ce with
    | false=>rfl
    | true =>
      rw [if_neg (by decide),(Mg (by have:=ht.body;omega) ht.small).1];rfl
noncomputable def De (t:api_Thread):Bool:=Ce t.Name && Dm t
noncomputable def Cb (t:api_Thread):Bool:=decide (t.Name=[]) && Dm t
theorem Ut {t:api_Thread} (ht:SmallT t):Z8z 1001 t=some (!De t):=by
  unfold Z8z De
  rw [Is]
  simp only [Option.bind_some]
  cases Ce t.Name with
  | false=>rfl
  | true=>rw [if_pos rfl,Mx ht];rfl
theorem Qu {t:api_Thread} (ht:SmallT t):Z90 1001 t=some (!Cb t):=by
  unfold Z90 Cb
  by_cases h:t.Name=[]
  · rw [if_neg (by simpa using h),decide_eq_true h,Mx ht];rfl
  · rw [if_pos h,decide_eq_false h];rfl
noncomputable def Dr (c:api_Claim):Bool:=Eo c.At && Gu c.E
theorem Tu {c:api_Claim} (hc:c.E.length≤60):Z91 1001 c=some (!Dr c):=by
  unfold Z91 Dr
  rw [Kg]
  simp only [Option.bind_some]
  cases Eo c.At with
  | false=>rfl
  | true=>rw [if_pos rfl,Mt hc];rfl
theorem Sr {l:List api_Thread} (hl:l.length≤1000) (hs:∀ x∈l,SmallT x):Z9w 1001 l=some (!l.all De):=by
  have key:∀ (d j n:Nat),j+d=l.length→d < n→∃ r,Zal 1001 Zak l n (j:Int)=some r∧(decide (0≤r) = !(l.drop j).all De):=by
    intro d
    induction d with
    | zero =>
      intro j n hj hn
      obtain ⟨n,rfl⟩:∃ m,n=m+1:=⟨n - 1,by omega⟩
      rw [Zal,if_neg (by omega),List.drop_of_length_le (by omega)]
      exact ⟨-1,rfl,rfl⟩
    | succ d ih =>
      intro j n hj hn
      obtain ⟨n,rfl⟩:∃ m,n=m+1:=⟨n - 1,by omega⟩
      have h1:j < l.length:=by omega
      have h2:Z8z 1001 l[j]=some (!De l[j]):=Ut (hs _ (List.getElem_mem h1))
      rw [Zal,if_pos (by omega),As rfl h1]
      simp only [Option.bind_some,h2]
      rw [List.drop_eq_getElem_cons h1,List.all_cons]
      cases hk:De l[j] with
      | false=>exact ⟨j,by simp,by simp⟩
      | true =>
        obtain ⟨r,h2,h3⟩:=ih (j+1) n (by omega) (by omega)
        rw [Bf h1 (by omega)]
        exact ⟨r,by simpa using h2,by simpa using h3⟩
  obtain ⟨r,h1,h2⟩:=key l.length 0 1001 (by omega) (by omega)
  unfold Z9w Zaj
  rw [show (0:Int)=((0:Nat):Int) from rfl,h1]
  simpa using h2
theorem Oj {l:List api_Thread} (hl:l.length≤1000) (hs:∀ x∈l,SmallT x):Z9x 1001 l=some (!l.all Cb):=by
  have key:∀ (d j n:Nat),j+d=l.length→d < n→∃ r,Zao 1001 Zan l n (j:Int)=some r∧(decide (0≤r) = !(l.drop j).all Cb):=by
    intro d
    induction d with
    | zero =>
      intro j n hj hn
      obtain ⟨n,rfl⟩:∃ m,n=m+1:=⟨n - 1,by omega⟩
      rw [Zao,if_neg (by omega),List.drop_of_length_le (by omega)]
      exact ⟨-1,rfl,rfl⟩
    | succ d ih =>
      intro j n hj hn
      obtain ⟨n,rfl⟩:∃ m,n=m+1:=⟨n - 1,by omega⟩
      have h1:j < l.length:=by omega
      have h2:Z90 1001 l[j]=some (!Cb l[j]):=Qu (hs _ (List.getElem_mem h1))
      rw [Zao,if_pos (by omega),As rfl h1]
      simp only [Option.bind_some,h2]
      rw [List.drop_eq_getElem_cons h1,List.all_cons]
      cases hk:Cb l[j] with
      | false=>exact ⟨j,by simp,by simp⟩
      | true =>
        obtain ⟨r,h2,h3⟩:=ih (j+1) n (by omega) (by omega)
        rw [Bf h1 (by omega)]
        exact ⟨r,by simpa using h2,by simpa using h3⟩
  obtain ⟨r,h1,h2⟩:=key l.length 0 1001 (by omega) (by omega)
  unfold Z9x Zam
  rw [show (0:Int)=((0:Nat):Int) from rfl,h1]
  simpa using h2
theorem Tj {l:List api_Claim} (hl:l.length≤1000) (hs:∀ x∈l,x.E.length≤60):Z9t 1001 l=some (!l.all Dr):=by
  have key:∀ (d j n:Nat),j+d=l.length→d < n→∃ r,Zac 1001 Zab l n (j:Int)=some r∧(decide (0≤r) = !(l.drop j).all Dr):=by
    intro d
    induction d with
    | zero =>
      intro j n hj hn
      obtain ⟨n,rfl⟩:∃ m,n=m+1:=⟨n - 1,by omega⟩
      rw [Zac,if_neg (by omega),List.drop_of_length_le (by omega)]
      exact ⟨-1,rfl,rfl⟩
    | succ d ih =>
      intro j n hj hn
      obtain ⟨n,rfl⟩:∃ m,n=m+1:=⟨n - 1,by omega⟩
      have h1:j < l.length:=by omega
      have h2:Z91 1001 l[j]=some (!Dr l[j]):=Tu (hs _ (List.getElem_mem h1))
      rw [Zac,if_pos (by omega),As rfl h1]
      simp only [Option.bind_some,h2]
      rw [List.drop_eq_getElem_cons h1,List.all_cons]
      cases hk:Dr l[j] with
      | false=>exact ⟨j,by simp,by simp⟩
      | true =>
        obtain ⟨r,h2,h3⟩:=ih (j+1) n (by omega) (by omega)
        rw [Bf h1 (by omega)]
        exact ⟨r,by simpa using h2,by simpa using h3⟩
  obtain ⟨r,h1,h2⟩:=key l.length 0 1001 (by omega) (by omega)
  unfold Z9t Zaa
  rw [show (0:Int)=((0:Nat):Int) from rfl,h1]
  simpa using h2
noncomputable def H4 (p:api_Prog):Bool:=p.Lines.all Fw && (p.Vols.all (cellB 4294967296) && (p.Locks.all (cellB 0) && (decide (p.Recover.length≤1) && (p.Threads.all De && (p.Recover.all Cb && p.Claims.all Dr)))))
theorem Fh {p:api_Prog} (hp:SmallP p) (b:Bool):Z92 1001 p b=some (!b && (p.Threads.all De && (p.Recover.all Cb && p.Claims.all Dr))):=by
  unfold Z92
  cases b with
  | true=>rfl
  | false =>
    rw [if_neg (by decide),Sr (by have:=hp.threads;omega) hp.thread]
    simp only [Option.bind_some]
    cases p.Threads.all De with
    | false=>rfl
    | true =>
      rw [if_neg (by decide),Oj (by have:=hp.recover;omega) hp.recov]
      simp only [Option.bind_some]
      cases p.Recover.all Cb with
      | false=>rfl
      | true =>
        rw [if_neg (by decide),Tj (by have:=hp.claims;omega) hp.claim]
        simp
theorem Td {p:api_Prog} (hp:SmallP p):Z8x 1001 p=some (H4 p):=by
  unfold Z8x H4
  rw [Vq (by have:=hp.lines;omega) (fun x hx=>by have:=hp.line x hx;omega)]
  simp only [Option.bind_some]
  cases p.Lines.all Fw with
  | false=>rw [if_pos (by decide),Fh hp];rfl
  | true =>
    rw [if_neg (by decide),Km (by have:=hp.vols;omega)]
    simp only [Option.bind_some]
    cases p.Vols.all (cellB 4294967296) with
    | false=>rw [if_neg (by decide),Fh hp];rfl
    | true =>
      rw [if_pos rfl,Km (by have:=hp.locks;omega)]
      simp only [Option.bind_some]
      cases p.Locks.all (cellB 0) with
      | false=>rw [if_neg (by decide),Fh hp];rfl
      | true =>
        rw [if_pos rfl,Fh hp]
        by_cases h:p.Recover.length≤1
        · rw [decide_eq_true h,decide_eq_false (by omega)];simp
        · rw [decide_eq_false h,decide_eq_true (by omega)];simp
theorem Ob {l:List api_Cell} (hl:l.length≤1000) (most:Int):∀ (d j n:Nat),j+d=l.length→d < n→Z5c 1001 Z5a l most n (j:Int)=some ((l.drop j).all (cellB most)):=by
  intro d
  induction d with
  | zero =>
    intro j n hj hn
    obtain ⟨n,rfl⟩:∃ m,n=m+1:=⟨n - 1,by omega⟩
    rw [Z5c,if_neg (by omega),List.drop_of_length_le (by omega)];rfl
  | succ d ih =>
    intro j n hj hn
    obtain ⟨n,rfl⟩:∃ m,n=m+1:=⟨n - 1,by omega⟩
    have h1:j < l.length:=by omega
    rw [Z5c,if_pos (by omega),As rfl h1]
    simp only [Option.bind_some]
    rw [Fx]
    simp only [Option.bind_some,Jh]
    rw [List.drop_eq_getElem_cons h1,List.all_cons]
    conv=>rhs;rw [cellB]
    cases (((!Ce l[j].Name) || (decide (l[j].N < 0))) || (decide (most < l[j].N))) with
    | true=>rw [if_pos rfl,Z5b,if_pos rfl];rfl
    | false =>
      rw [if_neg (by decide),Z5b]
      cases Eo l[j].At with
      | false=>rfl
      | true =>
        rw [if_neg (by decide),Bf h1 (by omega),ih (j+1) n (by omega) (by omega)];simp
theorem Ji {l:List api_Cell} (hl:l.length≤1000) (most:Int):Z59 1001 l most=some (l.all (cellB most)):=by
  have:=Ob hl most l.length 0 1001 (by omega) (by omega)
  rw [List.drop_zero] at this
  exact this
theorem Qm {p:List api_Thread} {i:Nat} (hi:i < p.length) (hr:p[i].Regs.length≤1000) (k:Option Bool):∀ (d j n:Nat),j+d=p[i].Regs.length→d < n→Z5j 1001 k p (i:Int) n (j:Int)=if (p[i].Regs.drop j).all Ce=true then k else some false:=by
  intro d
  induction d with
  | zero =>
    intro j n hj hn
    obtain ⟨n,rfl⟩:∃ m,n=m+1:=⟨n - 1,by omega⟩
    rw [Z5j,As rfl hi]
    simp only [Option.bind_some]
    rw [if_neg (by omega),List.drop_of_length_le (by omega)];rfl
  | succ d ih =>
    intro j n hj hn
    obtain ⟨n,rfl⟩:∃ m,n=m+1:=⟨n - 1,by omega⟩
    have h1:j < p[i].Regs.length:=by omega
    rw [Z5j,As rfl hi]
    simp only [Option.bind_some]
    rw [if_pos (by omega),As rfl h1]
    simp only [Option.bind_some]
    rw [Fx]
    simp only [Option.bind_some]
    rw [List.drop_eq_getElem_cons h1,List.all_cons]
    cases Ce p[i].Regs[j] with
    | false=>rfl
    | true =>
      rw [if_pos rfl,Bf h1 (by omega),ih (j+1) n (by omega) (by omega)];simp
noncomputable def Pu (named:Bool) (t:api_Thread):Bool:=if named=true then De t else Cb t
theorem Lv {p:List api_Thread} (hl:p.length≤1000) (hs:∀ t∈p,SmallT t) (named:Bool):∀ (d j n:Nat),j+d=p.length→d < n→Z5i 1001 Z5f p named n (j:Int)=some ((p.drop j).all (Pu named)):=by
  intro d
  induction d with
  | zero =>
    intro j n hj hn
    obtain ⟨n,rfl⟩:∃ m,n=m+1:=⟨n - 1,by omega⟩
    rw [Z5i,if_neg (by omega),List.drop_of_length_le (by omega)];rfl
  | succ d ih =>
    intro j n hj hn
    obtain ⟨n,rfl⟩:∃ m,n=m+1:=⟨n - 1,by omega⟩
    have h1:j < p.length:=by omega
    have ht:=hs _ (List.getElem_mem h1)
    rw [Z5i,if_pos (by omega),As rfl h1]
    simp only [Option.bind_some]
    rw [Fx]
    simp only [Option.bind_some,Jh]
    rw [List.drop_eq_getElem_cons h1,List.all_cons]
    have hw:Pu named p[j]=(!((named != Ce p[j].Name) || ((!named) && (decide (p[j].Name≠[])))) && Dm p[j]):=by
      unfold Pu De Cb
      cases named with
      | true=>simp
      | false =>
        by_cases e:p[j].Name=[]
        · rw [e];simp [Ce]
        · simp [e]
    rw [hw,Dm]
    have fin:∀ b:Bool,Z5h 1001 (Z5g (Z5i 1001 Z5f p named n) (j:Int)) p (j:Int) b=some (!b && (p[j].Regs.all Ce && (p.drop (j+1)).all (Pu named))):=by
      intro b
      rw [Z5h]
      cases b with
      | true=>rfl
      | false =>
        rw [if_neg (by decide),show (0:Int)=((0:Nat):Int) from rfl,Qm h1 (by have:=ht.regs;omega) _ p[j].Regs.length 0 1001 (by omega) (by have:=ht.regs;omega),List.drop_zero]
        cases p[j].Regs.all Ce with
        | false=>rfl
        | true=>rw [if_pos rfl,Z5g,Bf h1 (by omega),ih (j+1) n (by omega) (by omega)];rfl
    cases ((named != Ce p[j].Name) || ((!named) && (decide (p[j].Name≠[])))) with
    | true=>rw [if_pos rfl,fin];rfl
    | false =>
      rw [if_neg (by decide)]
      cases Eo p[j].At with
      | false=>rw [if_neg (by decide),fin];rfl
      | true =>
        rw [if_pos rfl,(Mg (by have:=ht.body;omega) ht.small).2]
        simp only [Option.bind_some]
        rw [fin]
        cases Ij p[j].Body <;> cases p[j].Regs.all Ce <;> simp
theorem Jt {p:List api_Thread} (hl:p.length≤1000) (hs:∀ t∈p,SmallT t) (named:Bool):Z5e 1001 p named=some (p.all (Pu named)):=by
  have:=Lv hl hs named p.length 0 1001 (by omega) (by omega)
  rw [List.drop_zero] at this
  exact this
theorem Nm {p:api_Prog} (hp:SmallP p) (k:Option Bool):∀ (d j n:Nat),j+d=p.Claims.length→d < n→Z58 1001 k p n (j:Int)=if (p.Claims.drop j).all Dr=true then k else some false:=by
  intro d
  have hC:=hp.claims
  induction d with
  | zero =>
    intro j n hj hn
    obtain ⟨n,rfl⟩:∃ m,n=m+1:=⟨n - 1,by omega⟩
    rw [Z58,if_neg (by omega),List.drop_of_length_le (by omega)];rfl
  | succ d ih =>
    intro j n hj hn
    obtain ⟨n,rfl⟩:∃ m,n=m+1:=⟨n - 1,by omega⟩
    have h1:j < p.Claims.length:=by omega
    rw [Z58,if_pos (by omega),As rfl h1]
    simp only [Option.bind_some,Jh]
    rw [List.drop_eq_getElem_cons h1,List.all_cons]
    conv=>rhs;rw [Dr]
    cases Eo p.Claims[j].At with
    | false=>rw [if_neg (by decide),Z56];rfl
    | true =>
      rw [if_pos rfl,Im (hp.claim _ (List.getElem_mem h1))]
      simp only [Option.bind_some]
      rw [Z56]
      cases Gu p.Claims[j].E with
      | false=>rfl
      | true=>rw [if_neg (by decide),Bf h1 (by omega),ih (j+1) n (by omega) (by omega)];simp
theorem Ow {p:api_Prog} (hp:SmallP p) (k:Option Bool):∀ (d j n:Nat),j+d=p.Lines.length→d < n→Z57 1001 k p n (j:Int)=if (p.Lines.drop j).all Fw=true then k else some false:=by
  intro d
  have hC:=hp.lines
  induction d with
  | zero =>
    intro j n hj hn
    obtain ⟨n,rfl⟩:∃ m,n=m+1:=⟨n - 1,by omega⟩
    rw [Z57,if_neg (by omega),List.drop_of_length_le (by omega)];rfl
  | succ d ih =>
    intro j n hj hn
    obtain ⟨n,rfl⟩:∃ m,n=m+1:=⟨n - 1,by omega⟩
    have h1:j < p.Lines.length:=by omega
    have h2:=hp.line _ (List.getElem_mem h1)
    rw [Z57,if_pos (by omega),As rfl h1]
    simp only [Option.bind_some]
    rw [List.drop_eq_getElem_cons h1,List.all_cons]
    conv=>rhs;rw [Fw]
    by_cases h:p.Lines[j].length=0
    · rw [if_pos (by omega),decide_eq_true h,Z54];rfl
    · rw [if_neg (by omega), decide_eq_false h, Ji (by omega)]
      simp only [Option.bind_some]
      rw [Z54]
      cases p.Lines[j].all (cellB 4294967296) with
      | false=>rfl
      | true=>rw [if_neg (by decide),Bf h1 (by omega),ih (j+1) n (by omega) (by omega)];simp
theorem Sy {p:api_Prog} (hp:SmallP p):Z52 1001 p=some (H4 p):=by
  have hL:=hp.lines
  have hC:=hp.claims
  unfold Z52
  rw [show (0:Int)=((0:Nat):Int) from rfl,Ow hp _ p.Lines.length 0 1001 (by omega) (by omega),List.drop_zero]
  unfold H4
  cases p.Lines.all Fw with
  | false=>rfl
  | true =>
    rw [if_pos rfl,Z53,show (0:Int)=((0:Nat):Int) from rfl,Nm hp _ p.Claims.length 0 1001 (by omega) (by omega),List.drop_zero]
    have hj4:Z55 1001 p=some (p.Vols.all (cellB 4294967296) && (p.Locks.all (cellB 0) && (p.Threads.all De && (p.Recover.all Cb && decide (p.Recover.length≤1))))):=by
      rw [Z55,Ji (by have:=hp.vols;omega)]
      simp only [Option.bind_some]
      cases p.Vols.all (cellB 4294967296) with
      | false=>rfl
      | true =>
        rw [if_pos rfl,Ji (by have:=hp.locks;omega)]
        simp only [Option.bind_some]
        cases p.Locks.all (cellB 0) with
        | false=>rfl
        | true =>
          rw [if_pos rfl,Jt (by have:=hp.threads;omega) hp.thread]
          simp only [Option.bind_some]
          rw [show p.Threads.all (Pu true)=p.Threads.all De from rfl]
          cases p.Threads.all De with
          | false=>rfl
          | true =>
            rw [if_pos rfl,Jt (by have:=hp.recover;omega) hp.recov]
            simp only [Option.bind_some]
            rw [show p.Recover.all (Pu false)=p.Recover.all Cb from rfl]
            congr 1
            rw [show decide ((p.Recover.length:Int)≤1)=decide (p.Recover.length≤1) from by congr 1;exact propext (by omega)]
            simp
    rw [hj4]
    cases p.Claims.all Dr <;> cases p.Vols.all (cellB 4294967296) <;> cases p.Locks.all (cellB 0) <;> cases p.Threads.all De <;> cases p.Recover.all Cb <;> cases decide (p.Recover.length≤1) <;> rfl
end Go.MD.LB
