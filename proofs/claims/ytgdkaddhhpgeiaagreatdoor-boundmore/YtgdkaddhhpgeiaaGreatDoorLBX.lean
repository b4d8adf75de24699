/- Which programs have the form of one, as the program and the document tell it. No condition: plain lemmas. -/
import Derived.Test.YtgdkaddhhpgeiaaGreatDoorLBV
namespace Go.MD.LB
open Go Go.MD
def placeB (a:Int):Bool:=decide (0≤a) && decide (a≤4000)
theorem place_eq (N:Nat) (a:Int):Z9m N a=some (placeB a):=rfl
theorem rplace_eq (N:Nat) (a:Int):Z60 N a=some (placeB a):=rfl
def cellB (most:Int) (c:api_Cell):Bool:=!(((!nameS c.Name) || (decide (c.N < 0))) || (decide (most < c.N))) && placeB c.At
theorem cell_eq (c:api_Cell) (most:Int):Z9l 1001 c most=some (!cellB most c):=by
  unfold Z9l cellB
  rw [Name_eq]
  simp only [Option.bind_some,place_eq]
  cases (((!nameS c.Name) || (decide (c.N < 0))) || (decide (most < c.N))) <;> simp
theorem cells_all {most:Int} {l:List api_Cell} (hl:l.length≤1000) (hs:∀ x∈l,True):Za9 1001 l most=some (!l.all (cellB most)):=by
  have key:∀ (d j n:Nat),j+d=l.length→d < n→∃ r,Zaq 1001 Zap l most n (j:Int)=some r∧(decide (0≤r) = !(l.drop j).all (cellB most)):=by
    intro d
    induction d with
    | zero =>
      intro j n hj hn
      obtain ⟨n,rfl⟩:∃ m,n=m+1:=⟨n - 1,by omega⟩
      rw [Zaq,if_neg (by omega),List.drop_of_length_le (by omega)]
      exact ⟨-1,rfl,rfl⟩
    | succ d ih =>
      intro j n hj hn
      obtain ⟨n,rfl⟩:∃ m,n=m+1:=⟨n - 1,by omega⟩
      have h1:j < l.length:=by omega
      have h2:Z9l 1001 l[j] most=some (!(cellB most) l[j]):=cell_eq _ _
      rw [Zaq,if_pos (by omega),getI_at rfl h1]
      simp only [Option.bind_some,h2]
      rw [List.drop_eq_getElem_cons h1,List.all_cons]
      cases hk:(cellB most) l[j] with
      | false=>exact ⟨j,by simp,by simp⟩
      | true =>
        obtain ⟨r,h2,h3⟩:=ih (j+1) n (by omega) (by omega)
        rw [wsucc h1 (by omega)]
        exact ⟨r,by simpa using h2,by simpa using h3⟩
  obtain ⟨r,h1,h2⟩:=key l.length 0 1001 (by omega) (by omega)
  unfold Za9 Zao
  rw [show (0:Int)=((0:Nat):Int) from rfl,h1]
  simpa using h2
theorem cells_eq {l:List api_Cell} (hl:l.length≤1000) (most:Int):Z9k 1001 l most=some (l.all (cellB most)):=by
  unfold Z9k
  rw [cells_all hl (fun _ _=>trivial)]
  simp
def lineB (l:List api_Cell):Bool:=!decide (l.length=0) && l.all (cellB 4294967296)
theorem lineb_eq {l:List api_Cell} (hl:l.length≤1000):Z9f 1001 l=some (!lineB l):=by
  unfold Z9f lineB
  by_cases h:l.length=0
  · rw [if_pos (by omega),decide_eq_true h];rfl
  · rw [if_neg (by omega),decide_eq_false h,cells_eq hl];simp
theorem regn_eq (s:Str):Z9o 1001 s=some (!nameS s):=by
  unfold Z9o;rw [Name_eq];rfl
theorem lines_eq {l:List (List api_Cell)} (hl:l.length≤1000) (hs:∀ x∈l,x.length≤1000):Za7 1001 l=some (!l.all lineB):=by
  have key:∀ (d j n:Nat),j+d=l.length→d < n→∃ r,Zak 1001 Zaj l n (j:Int)=some r∧(decide (0≤r) = !(l.drop j).all lineB):=by
    intro d
    induction d with
    | zero =>
      intro j n hj hn
      obtain ⟨n,rfl⟩:∃ m,n=m+1:=⟨n - 1,by omega⟩
      rw [Zak,if_neg (by omega),List.drop_of_length_le (by omega)]
      exact ⟨-1,rfl,rfl⟩
    | succ d ih =>
      intro j n hj hn
      obtain ⟨n,rfl⟩:∃ m,n=m+1:=⟨n - 1,by omega⟩
      have h1:j < l.length:=by omega
      have h2:Z9f 1001 l[j]=some (!lineB l[j]):=lineb_eq (hs _ (List.getElem_mem h1))
      rw [Zak,if_pos (by omega),getI_at rfl h1]
      simp only [Option.bind_some,h2]
      rw [List.drop_eq_getElem_cons h1,List.all_cons]
      cases hk:lineB l[j] with
      | false=>exact ⟨j,by simp,by simp⟩
      | true =>
        obtain ⟨r,h2,h3⟩:=ih (j+1) n (by omega) (by omega)
        rw [wsucc h1 (by omega)]
        exact ⟨r,by simpa using h2,by simpa using h3⟩
  obtain ⟨r,h1,h2⟩:=key l.length 0 1001 (by omega) (by omega)
  unfold Za7 Zai
  rw [show (0:Int)=((0:Nat):Int) from rfl,h1]
  simpa using h2
theorem regs_eq {l:List Str} (hl:l.length≤1000) (hs:∀ x∈l,True):Zag 1001 l=some (!l.all nameS):=by
  have key:∀ (d j n:Nat),j+d=l.length→d < n→∃ r,Zbb 1001 Zba l n (j:Int)=some r∧(decide (0≤r) = !(l.drop j).all nameS):=by
    intro d
    induction d with
    | zero =>
      intro j n hj hn
      obtain ⟨n,rfl⟩:∃ m,n=m+1:=⟨n - 1,by omega⟩
      rw [Zbb,if_neg (by omega),List.drop_of_length_le (by omega)]
      exact ⟨-1,rfl,rfl⟩
    | succ d ih =>
      intro j n hj hn
      obtain ⟨n,rfl⟩:∃ m,n=m+1:=⟨n - 1,by omega⟩
      have h1:j < l.length:=by omega
      have h2:Z9o 1001 l[j]=some (!nameS l[j]):=regn_eq _
      rw [Zbb,if_pos (by omega),getI_at rfl h1]
      simp only [Option.bind_some,h2]
      rw [List.drop_eq_getElem_cons h1,List.all_cons]
      cases hk:nameS l[j] with
      | false=>exact ⟨j,by simp,by simp⟩
      | true =>
        obtain ⟨r,h2,h3⟩:=ih (j+1) n (by omega) (by omega)
        rw [wsucc h1 (by omega)]
        exact ⟨r,by simpa using h2,by simpa using h3⟩
  obtain ⟨r,h1,h2⟩:=key l.length 0 1001 (by omega) (by omega)
  unfold Zag Zb9
  rw [show (0:Int)=((0:Nat):Int) from rfl,h1]
  simpa using h2
open Classical in
noncomputable def rightB (l:List api_Stmt):Bool:=decide (∃ t,RB l t)
theorem rightB_eq {l:List api_Stmt} (hl:l.length≤1000) (hs:∀ x∈l,smallS x):Zbg 1001 l=some (rightB l)∧Z4f 1001 l=some (rightB l):=by
  obtain ⟨b,h1,h2,h3⟩:=SRight hl hs
  have:b=rightB l:=dec_ex h3
  rw [h1,h2,this]
  exact ⟨rfl,rfl⟩
theorem rightB_iff {l:List api_Stmt}:rightB l=true↔∃ t,RB l t:=by unfold rightB;simp
noncomputable def threadB (t:api_Thread):Bool:=placeB t.At && (t.Regs.all nameS && rightB t.Body)
theorem thread_eq {t:api_Thread} (ht:SmallT t):Z9n 1001 t=some (threadB t):=by
  unfold Z9n threadB
  rw [place_eq]
  simp only [Option.bind_some]
  cases placeB t.At with
  | false=>rfl
  | true =>
    rw [if_pos rfl,regs_eq (by have:=ht.regs;omega) (fun _ _=>trivial)]
    simp only [Option.bind_some]
    cases t.Regs.all nameS with
    | false=>rfl
    | true =>
      rw [if_neg (by decide),(rightB_eq (by have:=ht.body;omega) ht.small).1];rfl
noncomputable def namedB (t:api_Thread):Bool:=nameS t.Name && threadB t
noncomputable def unnamedB (t:api_Thread):Bool:=decide (t.Name=[]) && threadB t
theorem named_eq {t:api_Thread} (ht:SmallT t):Z9g 1001 t=some (!namedB t):=by
  unfold Z9g namedB
  rw [Name_eq]
  simp only [Option.bind_some]
  cases nameS t.Name with
  | false=>rfl
  | true=>rw [if_pos rfl,thread_eq ht];rfl
theorem unnamed_eq {t:api_Thread} (ht:SmallT t):Z9h 1001 t=some (!unnamedB t):=by
  unfold Z9h unnamedB
  by_cases h:t.Name=[]
  · rw [if_neg (by simpa using h),decide_eq_true h,thread_eq ht];rfl
  · rw [if_pos h,decide_eq_false h];rfl
noncomputable def claimB (c:api_Claim):Bool:=placeB c.At && rightE c.E
theorem claim_eq {c:api_Claim} (hc:c.E.length≤60):Z9i 1001 c=some (!claimB c):=by
  unfold Z9i claimB
  rw [place_eq]
  simp only [Option.bind_some]
  cases placeB c.At with
  | false=>rfl
  | true=>rw [if_pos rfl,rightE_eq hc];rfl
theorem nameds_eq {l:List api_Thread} (hl:l.length≤1000) (hs:∀ x∈l,SmallT x):Zad 1001 l=some (!l.all namedB):=by
  have key:∀ (d j n:Nat),j+d=l.length→d < n→∃ r,Zb2 1001 Zb1 l n (j:Int)=some r∧(decide (0≤r) = !(l.drop j).all namedB):=by
    intro d
    induction d with
    | zero =>
      intro j n hj hn
      obtain ⟨n,rfl⟩:∃ m,n=m+1:=⟨n - 1,by omega⟩
      rw [Zb2,if_neg (by omega),List.drop_of_length_le (by omega)]
      exact ⟨-1,rfl,rfl⟩
    | succ d ih =>
      intro j n hj hn
      obtain ⟨n,rfl⟩:∃ m,n=m+1:=⟨n - 1,by omega⟩
      have h1:j < l.length:=by omega
      have h2:Z9g 1001 l[j]=some (!namedB l[j]):=named_eq (hs _ (List.getElem_mem h1))
      rw [Zb2,if_pos (by omega),getI_at rfl h1]
      simp only [Option.bind_some,h2]
      rw [List.drop_eq_getElem_cons h1,List.all_cons]
      cases hk:namedB l[j] with
      | false=>exact ⟨j,by simp,by simp⟩
      | true =>
        obtain ⟨r,h2,h3⟩:=ih (j+1) n (by omega) (by omega)
        rw [wsucc h1 (by omega)]
        exact ⟨r,by simpa using h2,by simpa using h3⟩
  obtain ⟨r,h1,h2⟩:=key l.length 0 1001 (by omega) (by omega)
  unfold Zad Zb0
  rw [show (0:Int)=((0:Nat):Int) from rfl,h1]
  simpa using h2
theorem unnameds_eq {l:List api_Thread} (hl:l.length≤1000) (hs:∀ x∈l,SmallT x):Zae 1001 l=some (!l.all unnamedB):=by
  have key:∀ (d j n:Nat),j+d=l.length→d < n→∃ r,Zb5 1001 Zb4 l n (j:Int)=some r∧(decide (0≤r) = !(l.drop j).all unnamedB):=by
    intro d
    induction d with
    | zero =>
      intro j n hj hn
      obtain ⟨n,rfl⟩:∃ m,n=m+1:=⟨n - 1,by omega⟩
      rw [Zb5,if_neg (by omega),List.drop_of_length_le (by omega)]
      exact ⟨-1,rfl,rfl⟩
    | succ d ih =>
      intro j n hj hn
      obtain ⟨n,rfl⟩:∃ m,n=m+1:=⟨n - 1,by omega⟩
      have h1:j < l.length:=by omega
      have h2:Z9h 1001 l[j]=some (!unnamedB l[j]):=unnamed_eq (hs _ (List.getElem_mem h1))
      rw [Zb5,if_pos (by omega),getI_at rfl h1]
      simp only [Option.bind_some,h2]
      rw [List.drop_eq_getElem_cons h1,List.all_cons]
      cases hk:unnamedB l[j] with
      | false=>exact ⟨j,by simp,by simp⟩
      | true =>
        obtain ⟨r,h2,h3⟩:=ih (j+1) n (by omega) (by omega)
        rw [wsucc h1 (by omega)]
        exact ⟨r,by simpa using h2,by simpa using h3⟩
  obtain ⟨r,h1,h2⟩:=key l.length 0 1001 (by omega) (by omega)
  unfold Zae Zb3
  rw [show (0:Int)=((0:Nat):Int) from rfl,h1]
  simpa using h2
theorem claims_eq {l:List api_Claim} (hl:l.length≤1000) (hs:∀ x∈l,x.E.length≤60):Zaa 1001 l=some (!l.all claimB):=by
  have key:∀ (d j n:Nat),j+d=l.length→d < n→∃ r,Zat 1001 Zas l n (j:Int)=some r∧(decide (0≤r) = !(l.drop j).all claimB):=by
    intro d
    induction d with
    | zero =>
      intro j n hj hn
      obtain ⟨n,rfl⟩:∃ m,n=m+1:=⟨n - 1,by omega⟩
      rw [Zat,if_neg (by omega),List.drop_of_length_le (by omega)]
      exact ⟨-1,rfl,rfl⟩
    | succ d ih =>
      intro j n hj hn
      obtain ⟨n,rfl⟩:∃ m,n=m+1:=⟨n - 1,by omega⟩
      have h1:j < l.length:=by omega
      have h2:Z9i 1001 l[j]=some (!claimB l[j]):=claim_eq (hs _ (List.getElem_mem h1))
      rw [Zat,if_pos (by omega),getI_at rfl h1]
      simp only [Option.bind_some,h2]
      rw [List.drop_eq_getElem_cons h1,List.all_cons]
      cases hk:claimB l[j] with
      | false=>exact ⟨j,by simp,by simp⟩
      | true =>
        obtain ⟨r,h2,h3⟩:=ih (j+1) n (by omega) (by omega)
        rw [wsucc h1 (by omega)]
        exact ⟨r,by simpa using h2,by simpa using h3⟩
  obtain ⟨r,h1,h2⟩:=key l.length 0 1001 (by omega) (by omega)
  unfold Zaa Zar
  rw [show (0:Int)=((0:Nat):Int) from rfl,h1]
  simpa using h2
noncomputable def progB (p:api_Prog):Bool:=p.Lines.all lineB && (p.Vols.all (cellB 4294967296) && (p.Locks.all (cellB 0) && (decide (p.Recover.length≤1) && (p.Threads.all namedB && (p.Recover.all unnamedB && p.Claims.all claimB)))))
theorem Right_j1_eq {p:api_Prog} (hp:SmallP p) (b:Bool):Z9j 1001 p b=some (!b && (p.Threads.all namedB && (p.Recover.all unnamedB && p.Claims.all claimB))):=by
  unfold Z9j
  cases b with
  | true=>rfl
  | false =>
    rw [if_neg (by decide),nameds_eq (by have:=hp.threads;omega) hp.thread]
    simp only [Option.bind_some]
    cases p.Threads.all namedB with
    | false=>rfl
    | true =>
      rw [if_neg (by decide),unnameds_eq (by have:=hp.recover;omega) hp.recov]
      simp only [Option.bind_some]
      cases p.Recover.all unnamedB with
      | false=>rfl
      | true =>
        rw [if_neg (by decide),claims_eq (by have:=hp.claims;omega) hp.claim]
        simp
theorem PRight_eq {p:api_Prog} (hp:SmallP p):Z9e 1001 p=some (progB p):=by
  unfold Z9e progB
  rw [lines_eq (by have:=hp.lines;omega) (fun x hx=>by have:=hp.line x hx;omega)]
  simp only [Option.bind_some]
  cases p.Lines.all lineB with
  | false=>rw [if_pos (by decide),Right_j1_eq hp];rfl
  | true =>
    rw [if_neg (by decide),cells_eq (by have:=hp.vols;omega)]
    simp only [Option.bind_some]
    cases p.Vols.all (cellB 4294967296) with
    | false=>rw [if_neg (by decide),Right_j1_eq hp];rfl
    | true =>
      rw [if_pos rfl,cells_eq (by have:=hp.locks;omega)]
      simp only [Option.bind_some]
      cases p.Locks.all (cellB 0) with
      | false=>rw [if_neg (by decide),Right_j1_eq hp];rfl
      | true =>
        rw [if_pos rfl,Right_j1_eq hp]
        by_cases h:p.Recover.length≤1
        · rw [decide_eq_true h,decide_eq_false (by omega)];simp
        · rw [decide_eq_false h,decide_eq_true (by omega)];simp
theorem rcells_loop {l:List api_Cell} (hl:l.length≤1000) (most:Int):∀ (d j n:Nat),j+d=l.length→d < n→Z5z 1001 Z5x l most n (j:Int)=some ((l.drop j).all (cellB most)):=by
  intro d
  induction d with
  | zero =>
    intro j n hj hn
    obtain ⟨n,rfl⟩:∃ m,n=m+1:=⟨n - 1,by omega⟩
    rw [Z5z,if_neg (by omega),List.drop_of_length_le (by omega)];rfl
  | succ d ih =>
    intro j n hj hn
    obtain ⟨n,rfl⟩:∃ m,n=m+1:=⟨n - 1,by omega⟩
    have h1:j < l.length:=by omega
    rw [Z5z,if_pos (by omega),getI_at rfl h1]
    simp only [Option.bind_some]
    rw [rName_eq]
    simp only [Option.bind_some,rplace_eq]
    rw [List.drop_eq_getElem_cons h1,List.all_cons]
    conv=>rhs;rw [cellB]
    cases (((!nameS l[j].Name) || (decide (l[j].N < 0))) || (decide (most < l[j].N))) with
    | true=>rw [if_pos rfl,Z5y,if_pos rfl];rfl
    | false =>
      rw [if_neg (by decide),Z5y]
      cases placeB l[j].At with
      | false=>rfl
      | true =>
        rw [if_neg (by decide),wsucc h1 (by omega),ih (j+1) n (by omega) (by omega)];simp
theorem rcells_eq {l:List api_Cell} (hl:l.length≤1000) (most:Int):Z5w 1001 l most=some (l.all (cellB most)):=by
  have:=rcells_loop hl most l.length 0 1001 (by omega) (by omega)
  rw [List.drop_zero] at this
  exact this
theorem rregs_loop {p:List api_Thread} {i:Nat} (hi:i < p.length) (hr:p[i].Regs.length≤1000) (k:Option Bool):∀ (d j n:Nat),j+d=p[i].Regs.length→d < n→Z66 1001 k p (i:Int) n (j:Int)=if (p[i].Regs.drop j).all nameS=true then k else some false:=by
  intro d
  induction d with
  | zero =>
    intro j n hj hn
    obtain ⟨n,rfl⟩:∃ m,n=m+1:=⟨n - 1,by omega⟩
    rw [Z66,getI_at rfl hi]
    simp only [Option.bind_some]
    rw [if_neg (by omega),List.drop_of_length_le (by omega)];rfl
  | succ d ih =>
    intro j n hj hn
    obtain ⟨n,rfl⟩:∃ m,n=m+1:=⟨n - 1,by omega⟩
    have h1:j < p[i].Regs.length:=by omega
    rw [Z66,getI_at rfl hi]
    simp only [Option.bind_some]
    rw [if_pos (by omega),getI_at rfl h1]
    simp only [Option.bind_some]
    rw [rName_eq]
    simp only [Option.bind_some]
    rw [List.drop_eq_getElem_cons h1,List.all_cons]
    cases nameS p[i].Regs[j] with
    | false=>rfl
    | true =>
      rw [if_pos rfl,wsucc h1 (by omega),ih (j+1) n (by omega) (by omega)];simp
noncomputable def whoB (named:Bool) (t:api_Thread):Bool:=if named=true then namedB t else unnamedB t
theorem rthreads_loop {p:List api_Thread} (hl:p.length≤1000) (hs:∀ t∈p,SmallT t) (named:Bool):∀ (d j n:Nat),j+d=p.length→d < n→Z65 1001 Z62 p named n (j:Int)=some ((p.drop j).all (whoB named)):=by
  intro d
  induction d with
  | zero =>
    intro j n hj hn
    obtain ⟨n,rfl⟩:∃ m,n=m+1:=⟨n - 1,by omega⟩
    rw [Z65,if_neg (by omega),List.drop_of_length_le (by omega)];rfl
  | succ d ih =>
    intro j n hj hn
    obtain ⟨n,rfl⟩:∃ m,n=m+1:=⟨n - 1,by omega⟩
    have h1:j < p.length:=by omega
    have ht:=hs _ (List.getElem_mem h1)
    rw [Z65,if_pos (by omega),getI_at rfl h1]
    simp only [Option.bind_some]
    rw [rName_eq]
    simp only [Option.bind_some,rplace_eq]
    rw [List.drop_eq_getElem_cons h1,List.all_cons]
    have hw:whoB named p[j]=(!((named != nameS p[j].Name) || ((!named) && (decide (p[j].Name≠[])))) && threadB p[j]):=by
      unfold whoB namedB unnamedB
      cases named with
      | true=>simp
      | false =>
        by_cases e:p[j].Name=[]
        · rw [e];simp [nameS]
        · simp [e]
    rw [hw,threadB]
    have fin:∀ b:Bool,Z64 1001 (Z63 (Z65 1001 Z62 p named n) (j:Int)) p (j:Int) b=some (!b && (p[j].Regs.all nameS && (p.drop (j+1)).all (whoB named))):=by
      intro b
      rw [Z64]
      cases b with
      | true=>rfl
      | false =>
        rw [if_neg (by decide),show (0:Int)=((0:Nat):Int) from rfl,rregs_loop h1 (by have:=ht.regs;omega) _ p[j].Regs.length 0 1001 (by omega) (by have:=ht.regs;omega),List.drop_zero]
        cases p[j].Regs.all nameS with
        | false=>rfl
        | true=>rw [if_pos rfl,Z63,wsucc h1 (by omega),ih (j+1) n (by omega) (by omega)];rfl
    cases ((named != nameS p[j].Name) || ((!named) && (decide (p[j].Name≠[])))) with
    | true=>rw [if_pos rfl,fin];rfl
    | false =>
      rw [if_neg (by decide)]
      cases placeB p[j].At with
      | false=>rw [if_neg (by decide),fin];rfl
      | true =>
        rw [if_pos rfl,(rightB_eq (by have:=ht.body;omega) ht.small).2]
        simp only [Option.bind_some]
        rw [fin]
        cases rightB p[j].Body <;> cases p[j].Regs.all nameS <;> simp
theorem rthreads_eq {p:List api_Thread} (hl:p.length≤1000) (hs:∀ t∈p,SmallT t) (named:Bool):Z61 1001 p named=some (p.all (whoB named)):=by
  have:=rthreads_loop hl hs named p.length 0 1001 (by omega) (by omega)
  rw [List.drop_zero] at this
  exact this
theorem rclaims_loop {p:api_Prog} (hp:SmallP p) (k:Option Bool):∀ (d j n:Nat),j+d=p.Claims.length→d < n→Z5v 1001 k p n (j:Int)=if (p.Claims.drop j).all claimB=true then k else some false:=by
  intro d
  have hC:=hp.claims
  induction d with
  | zero =>
    intro j n hj hn
    obtain ⟨n,rfl⟩:∃ m,n=m+1:=⟨n - 1,by omega⟩
    rw [Z5v,if_neg (by omega),List.drop_of_length_le (by omega)];rfl
  | succ d ih =>
    intro j n hj hn
    obtain ⟨n,rfl⟩:∃ m,n=m+1:=⟨n - 1,by omega⟩
    have h1:j < p.Claims.length:=by omega
    rw [Z5v,if_pos (by omega),getI_at rfl h1]
    simp only [Option.bind_some,rplace_eq]
    rw [List.drop_eq_getElem_cons h1,List.all_cons]
    conv=>rhs;rw [claimB]
    cases placeB p.Claims[j].At with
    | false=>rw [if_neg (by decide),Z5t];rfl
    | true =>
      rw [if_pos rfl,rrightE_eq (hp.claim _ (List.getElem_mem h1))]
      simp only [Option.bind_some]
      rw [Z5t]
      cases rightE p.Claims[j].E with
      | false=>rfl
      | true=>rw [if_neg (by decide),wsucc h1 (by omega),ih (j+1) n (by omega) (by omega)];simp
theorem rlines_loop {p:api_Prog} (hp:SmallP p) (k:Option Bool):∀ (d j n:Nat),j+d=p.Lines.length→d < n→Z5u 1001 k p n (j:Int)=if (p.Lines.drop j).all lineB=true then k else some false:=by
  intro d
  have hC:=hp.lines
  induction d with
  | zero =>
    intro j n hj hn
    obtain ⟨n,rfl⟩:∃ m,n=m+1:=⟨n - 1,by omega⟩
    rw [Z5u,if_neg (by omega),List.drop_of_length_le (by omega)];rfl
  | succ d ih =>
    intro j n hj hn
    obtain ⟨n,rfl⟩:∃ m,n=m+1:=⟨n - 1,by omega⟩
    have h1:j < p.Lines.length:=by omega
    have h2:=hp.line _ (List.getElem_mem h1)
    rw [Z5u,if_pos (by omega),getI_at rfl h1]
    simp only [Option.bind_some]
    rw [List.drop_eq_getElem_cons h1,List.all_cons]
    conv=>rhs;rw [lineB]
    by_cases h:p.Lines[j].length=0
    · rw [if_pos (by omega),decide_eq_true h,Z5r];rfl
    · rw [if_neg (by omega), decide_eq_false h, rcells_eq (by omega)]
      simp only [Option.bind_some]
      rw [Z5r]
      cases p.Lines[j].all (cellB 4294967296) with
      | false=>rfl
      | true=>rw [if_neg (by decide),wsucc h1 (by omega),ih (j+1) n (by omega) (by omega)];simp
theorem RRight_eq {p:api_Prog} (hp:SmallP p):Z5p 1001 p=some (progB p):=by
  have hL:=hp.lines
  have hC:=hp.claims
  unfold Z5p
  rw [show (0:Int)=((0:Nat):Int) from rfl,rlines_loop hp _ p.Lines.length 0 1001 (by omega) (by omega),List.drop_zero]
  unfold progB
  cases p.Lines.all lineB with
  | false=>rfl
  | true =>
    rw [if_pos rfl,Z5q,show (0:Int)=((0:Nat):Int) from rfl,rclaims_loop hp _ p.Claims.length 0 1001 (by omega) (by omega),List.drop_zero]
    have hj4:Z5s 1001 p=some (p.Vols.all (cellB 4294967296) && (p.Locks.all (cellB 0) && (p.Threads.all namedB && (p.Recover.all unnamedB && decide (p.Recover.length≤1))))):=by
      rw [Z5s,rcells_eq (by have:=hp.vols;omega)]
      simp only [Option.bind_some]
      cases p.Vols.all (cellB 4294967296) with
      | false=>rfl
      | true =>
        rw [if_pos rfl,rcells_eq (by have:=hp.locks;omega)]
        simp only [Option.bind_some]
        cases p.Locks.all (cellB 0) with
        | false=>rfl
        | true =>
          rw [if_pos rfl,rthreads_eq (by have:=hp.threads;omega) hp.thread]
          simp only [Option.bind_some]
          rw [show p.Threads.all (whoB true)=p.Threads.all namedB from rfl]
          cases p.Threads.all namedB with
          | false=>rfl
          | true =>
            rw [if_pos rfl,rthreads_eq (by have:=hp.recover;omega) hp.recov]
            simp only [Option.bind_some]
            rw [show p.Recover.all (whoB false)=p.Recover.all unnamedB from rfl]
            congr 1
            rw [show decide ((p.Recover.length:Int)≤1)=decide (p.Recover.length≤1) from by congr 1;exact propext (by omega)]
            simp
    rw [hj4]
    cases p.Claims.all claimB <;> cases p.Vols.all (cellB 4294967296) <;> cases p.Locks.all (cellB 0) <;> cases p.Threads.all namedB <;> cases p.Recover.all unnamedB <;> cases decide (p.Recover.length≤1) <;> rfl
end Go.MD.LB
