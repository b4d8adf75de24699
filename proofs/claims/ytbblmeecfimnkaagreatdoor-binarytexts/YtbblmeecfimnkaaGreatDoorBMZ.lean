/- Encode, both ways. No condition: plain lemmas. -/
import Derived.Test.YtbblmeecfimnkaaGreatDoorBMY
namespace Go.MD.BINZ
open Go Go.MD
theorem putS_len (n:Int):(putS n).length≤6:=by
  unfold putS;split
  · exact putL_len _ _
  · simp
def numsS (xs:List Int):Str:=putS (xs.length:Int) ++ xs.flatMap putS
def opS (o:api_Op):Str:=putS o.Kind ++ putS o.N
def stepsS (l:List api_Op):Str:=putS (l.length:Int) ++ l.flatMap opS
def insS (x:api_Instr):Str:=putS x.Kind ++ (putS x.A ++ (putS x.B ++ (putS x.To ++ (stepsS x.E ++ stepsS x.F))))
def codeS (p:api_Code):Str:=putS p.Regs ++ (putS p.Counts ++ (putS (p.L.length:Int) ++ p.L.flatMap insS))
def encS (u:api_Unit):Str:=numsS u.Lines ++ (putS u.Stays ++ (numsS u.Firsts ++ (putS u.Locks ++ (putS (u.Threads.length:Int) ++ (u.Threads.flatMap codeS ++ (codeS u.Recover ++ (putS (u.Claims.length:Int) ++ u.Claims.flatMap stepsS)))))))
theorem flat_len {α:Type} {f:α→Str} {m:Nat}:∀ {l:List α},(∀ x∈l,(f x).length≤m)→(l.flatMap f).length≤m * l.length
  | [],_=>by simp
  | x :: r, h => by
    have h1:=h x (by simp)
    have h2:=flat_len (l:=r) (fun y hy=>h y (List.mem_cons_of_mem _ hy))
    rw [List.flatMap_cons,List.length_append,List.length_cons,Nat.mul_succ];omega
theorem opS_len (o:api_Op):(opS o).length≤12:=by
  have h1:=putS_len o.Kind
  have h2:=putS_len o.N
  unfold opS;rw [List.length_append];omega
theorem stepsS_len {l:List api_Op} (hl:l.length≤3000):(stepsS l).length≤36006:=by
  have h1:=putS_len (l.length:Int)
  have h2:=flat_len (f:=opS) (l:=l) (m:=12) (fun o _=>opS_len o)
  unfold stepsS;rw [List.length_append];omega
theorem insS_len {x:api_Instr} (hE:x.E.length≤3000) (hF:x.F.length≤3000):(insS x).length≤72036:=by
  have h1:=putS_len x.Kind
  have h2:=putS_len x.A
  have h3:=putS_len x.B
  have h4:=putS_len x.To
  have h5:=stepsS_len hE
  have h6:=stepsS_len hF
  unfold insS;simp only [List.length_append];omega
theorem codeS_len {p:api_Code} (h:small p):(codeS p).length≤216108018:=by
  have h1:=putS_len p.Regs
  have h2:=putS_len p.Counts
  have h3:=putS_len (p.L.length:Int)
  have h4:=flat_len (f:=insS) (l:=p.L) (m:=72036) (fun x hx=>insS_len (h.2 x hx).1 (h.2 x hx).2)
  have h5:=h.1
  unfold codeS;simp only [List.length_append];omega
section
variable {N:Nat} (hN:3001 < N)
include hN
theorem wnum_eq {s:Str} (n:Int) (hs:s.length≤100000000000000):Z15 N s n=some (s ++ putS n):=by
  have:=putS_len n
  unfold Z15
  rw [Put_eq (by omega)]
  simp only [Option.bind_some]
  unfold catB
  rw [if_pos (by omega)];rfl
theorem wnums_l1 {l:List Int} (hl:l.length≤3000):∀ (b a:List Int) (k:Nat) (s:Str),a ++ b=l→b.length < k→s.length+6 * b.length≤100000000000000→Z17 N l k s ((a.length:Nat):Int)=some (s ++ b.flatMap putS):=by
  intro b
  induction b with
  | nil =>
    intro a k s ha hk _
    obtain ⟨k,rfl⟩:∃ q,k=q+1:=⟨k - 1,by omega⟩
    rw [List.append_nil] at ha
    rw [Z17,if_neg (by rw [← ha];omega)];simp
  | cons x b ih =>
    intro a k s ha hk hs
    obtain ⟨k,rfl⟩:∃ q,k=q+1:=⟨k - 1,by omega⟩
    have hla:a.length < l.length:=by rw [← ha];simp
    have hge:getI l ((a.length:Nat):Int)=some x:=by rw [getI_nat,← ha];simp
    have hp:=putS_len x
    have rc:=ih (a ++ [x]) k (s ++ putS x) (by rw [← ha];simp) (by simpa using hk) (by simp only [List.length_append,List.length_cons] at hs ⊢;omega)
    simp only [List.length_append,List.length_cons,List.length_nil,Nat.zero_add] at rc
    rw [Z17,if_pos (by omega),hge]
    simp only [Option.bind_some]
    rw [wnum_eq hN x (by omega)]
    simp only [Option.bind_some]
    rw [wsucc hla (by omega),rc,List.flatMap_cons,List.append_assoc]
theorem wnums_eq {l:List Int} (hl:l.length≤3000) {s:Str} (hs:s.length≤90000000000000):Z16 N s l=some (s ++ numsS l):=by
  have hp:=putS_len (l.length:Int)
  unfold Z16 numsS
  rw [wnum_eq hN _ (by omega)]
  simp only [Option.bind_some]
  have:=wnums_l1 hN hl l [] N (s ++ putS (l.length:Int)) rfl (by omega) (by rw [List.length_append];omega)
  refine Eq.trans this ?_
  rw [List.append_assoc]
theorem wsteps_l1 {l:List api_Op} (hl:l.length≤3000):∀ (b a:List api_Op) (k:Nat) (s:Str),a ++ b=l→b.length < k→s.length+12 * b.length≤100000000000000→Z19 N l k s ((a.length:Nat):Int)=some (s ++ b.flatMap opS):=by
  intro b
  induction b with
  | nil =>
    intro a k s ha hk _
    obtain ⟨k,rfl⟩:∃ q,k=q+1:=⟨k - 1,by omega⟩
    rw [List.append_nil] at ha
    rw [Z19,if_neg (by rw [← ha];omega)];simp
  | cons x b ih =>
    intro a k s ha hk hs
    obtain ⟨k,rfl⟩:∃ q,k=q+1:=⟨k - 1,by omega⟩
    have hla:a.length < l.length:=by rw [← ha];simp
    have hge:getI l ((a.length:Nat):Int)=some x:=by rw [getI_nat,← ha];simp
    have hp:=putS_len x.Kind
    have hp2:=putS_len x.N
    have rc:=ih (a ++ [x]) k (s ++ putS x.Kind ++ putS x.N) (by rw [← ha];simp) (by simpa using hk) (by simp only [List.length_append,List.length_cons] at hs ⊢;omega)
    simp only [List.length_append,List.length_cons,List.length_nil,Nat.zero_add] at rc hs
    rw [Z19,if_pos (by omega),hge]
    simp only [Option.bind_some]
    rw [wnum_eq hN x.Kind (by omega)]
    simp only [Option.bind_some]
    rw [wnum_eq hN x.N (by rw [List.length_append];omega)]
    simp only [Option.bind_some]
    rw [wsucc hla (by omega),rc,List.flatMap_cons]
    unfold opS
    simp only [List.append_assoc]
theorem wsteps_eq {l:List api_Op} (hl:l.length≤3000) {s:Str} (hs:s.length≤90000000000000):Z18 N s l=some (s ++ stepsS l):=by
  have hp:=putS_len (l.length:Int)
  unfold Z18 stepsS
  rw [wnum_eq hN _ (by omega)]
  simp only [Option.bind_some]
  have:=wsteps_l1 hN hl l [] N (s ++ putS (l.length:Int)) rfl (by omega) (by rw [List.length_append];omega)
  refine Eq.trans this ?_
  rw [List.append_assoc]
theorem wcode_l1 {p:api_Code} (hp:small p):∀ (b a:List api_Instr) (k:Nat) (s:Str),a ++ b=p.L→b.length < k→s.length+72036 * b.length≤80000000000000→Z14 N p k s ((a.length:Nat):Int)=some (s ++ b.flatMap insS):=by
  intro b
  induction b with
  | nil =>
    intro a k s ha hk _
    obtain ⟨k,rfl⟩:∃ q,k=q+1:=⟨k - 1,by omega⟩
    rw [List.append_nil] at ha
    rw [Z14,if_neg (by rw [← ha];omega)];simp
  | cons x b ih =>
    intro a k s ha hk hs
    obtain ⟨k,rfl⟩:∃ q,k=q+1:=⟨k - 1,by omega⟩
    have hla:a.length < p.L.length:=by rw [← ha];simp
    have hge:getI p.L ((a.length:Nat):Int)=some x:=by rw [getI_nat,← ha];simp
    have hm:=hp.2 x (by rw [← ha];simp)
    have h1:=putS_len x.Kind
    have h2:=putS_len x.A
    have h3:=putS_len x.B
    have h4:=putS_len x.To
    have h5:=stepsS_len hm.1
    have h6:=insS_len hm.1 hm.2
    have hll:=hp.1
    have rc:=ih (a ++ [x]) k (s ++ insS x) (by rw [← ha];simp) (by simpa using hk) (by simp only [List.length_append,List.length_cons] at hs ⊢;omega)
    simp only [List.length_append,List.length_cons,List.length_nil,Nat.zero_add] at rc hs
    rw [Z14,if_pos (by omega),hge]
    simp only [Option.bind_some]
    rw [wnum_eq hN x.Kind (by omega)]
    simp only [Option.bind_some]
    rw [wnum_eq hN x.A (by simp only [List.length_append];omega)]
    simp only [Option.bind_some]
    rw [wnum_eq hN x.B (by simp only [List.length_append];omega)]
    simp only [Option.bind_some]
    rw [wnum_eq hN x.To (by simp only [List.length_append];omega)]
    simp only [Option.bind_some]
    rw [wsteps_eq hN hm.1 (by simp only [List.length_append];omega)]
    simp only [Option.bind_some]
    rw [wsteps_eq hN hm.2 (by simp only [List.length_append];omega)]
    simp only [Option.bind_some]
    rw [wsucc hla (by omega)]
    have e:s ++ putS x.Kind ++ putS x.A ++ putS x.B ++ putS x.To ++ stepsS x.E ++ stepsS x.F=s ++ insS x:=by unfold insS;simp only [List.append_assoc]
    rw [e,rc,List.flatMap_cons,List.append_assoc]
theorem wcode_eq {p:api_Code} (hp:small p) {s:Str} (hs:s.length≤70000000000000):Z13 N s p=some (s ++ codeS p):=by
  have h1:=putS_len p.Regs
  have h2:=putS_len p.Counts
  have h3:=putS_len (p.L.length:Int)
  have h4:=hp.1
  unfold Z13 codeS
  rw [wnum_eq hN _ (by omega)]
  simp only [Option.bind_some]
  rw [wnum_eq hN _ (by simp only [List.length_append];omega)]
  simp only [Option.bind_some]
  rw [wnum_eq hN _ (by simp only [List.length_append];omega)]
  simp only [Option.bind_some]
  have:=wcode_l1 hN hp p.L [] N (s ++ putS p.Regs ++ putS p.Counts ++ putS (p.L.length:Int)) rfl (by omega) (by simp only [List.length_append];omega)
  refine Eq.trans this ?_
  simp only [List.append_assoc]
end
section
variable {N:Nat} (hN:3001 < N)
include hN
theorem wthreads {u:api_Unit} {q:Str→Option (Str×Int)} (hu:smallU u):∀ (b a:List api_Code) (k:Nat) (s:Str),a ++ b=u.Threads→b.length < k→s.length+216108018 * b.length≤60000000000000→Z5 N q u k s ((a.length:Nat):Int)=q (s ++ b.flatMap codeS):=by
  intro b
  induction b with
  | nil =>
    intro a k s ha hk _
    obtain ⟨k,rfl⟩:∃ q,k=q+1:=⟨k - 1,by omega⟩
    rw [List.append_nil] at ha
    rw [Z5,if_neg (by rw [← ha];omega)];simp
  | cons x b ih =>
    intro a k s ha hk hs
    obtain ⟨k,rfl⟩:∃ q,k=q+1:=⟨k - 1,by omega⟩
    have hla:a.length < u.Threads.length:=by rw [← ha];simp
    have hge:getI u.Threads ((a.length:Nat):Int)=some x:=by rw [getI_nat,← ha];simp
    have hm:=hu.2.2.2.2.1 x (by rw [← ha];simp)
    have hc:=codeS_len hm
    have hll:=hu.2.2.1
    have rc:=ih (a ++ [x]) k (s ++ codeS x) (by rw [← ha];simp) (by simpa using hk) (by simp only [List.length_append,List.length_cons] at hs ⊢;omega)
    simp only [List.length_append,List.length_cons,List.length_nil,Nat.zero_add] at rc hs
    rw [Z5,if_pos (by omega),hge]
    simp only [Option.bind_some]
    rw [wcode_eq hN hm (by omega)]
    simp only [Option.bind_some]
    rw [wsucc hla (by omega),rc,List.flatMap_cons,List.append_assoc]
theorem wclaims {u:api_Unit} {q:Str→Option (Str×Int)} (hu:smallU u):∀ (b a:List (List api_Op)) (k:Nat) (s:Str),a ++ b=u.Claims→b.length < k→s.length+36006 * b.length≤60000000000000→Z6 N q u k s ((a.length:Nat):Int)=q (s ++ b.flatMap stepsS):=by
  intro b
  induction b with
  | nil =>
    intro a k s ha hk _
    obtain ⟨k,rfl⟩:∃ q,k=q+1:=⟨k - 1,by omega⟩
    rw [List.append_nil] at ha
    rw [Z6,if_neg (by rw [← ha];omega)];simp
  | cons x b ih =>
    intro a k s ha hk hs
    obtain ⟨k,rfl⟩:∃ q,k=q+1:=⟨k - 1,by omega⟩
    have hla:a.length < u.Claims.length:=by rw [← ha];simp
    have hge:getI u.Claims ((a.length:Nat):Int)=some x:=by rw [getI_nat,← ha];simp
    have hm:=hu.2.2.2.2.2.2 x (by rw [← ha];simp)
    have hc:=stepsS_len hm
    have hll:=hu.2.2.2.1
    have rc:=ih (a ++ [x]) k (s ++ stepsS x) (by rw [← ha];simp) (by simpa using hk) (by simp only [List.length_append,List.length_cons] at hs ⊢;omega)
    simp only [List.length_append,List.length_cons,List.length_nil,Nat.zero_add] at rc hs
    rw [Z6,if_pos (by omega),hge]
    simp only [Option.bind_some]
    rw [wsteps_eq hN hm (by omega)]
    simp only [Option.bind_some]
    rw [wsucc hla (by omega),rc,List.flatMap_cons,List.append_assoc]
omit hN in
theorem numsS_len {l:List Int} (hl:l.length≤3000):(numsS l).length≤18006:=by
  have h1:=putS_len (l.length:Int)
  have h2:=flat_len (f:=putS) (l:=l) (m:=6) (fun x _=>putS_len x)
  unfold numsS;rw [List.length_append];omega
omit hN in
theorem encS_pos (u:api_Unit) (h:u.Lines.length≤3000):encS u≠[]:=by
  intro e
  have h1:1≤(putS (u.Lines.length:Int)).length:=by
    unfold putS
    rw [if_pos (by omega)]
    obtain ⟨m,hm⟩:∃ m,putL 6 (u.Lines.length:Int).toNat=m:=⟨_,rfl⟩
    rw [putL];split <;> simp
  have h2:(encS u).length=0:=by rw [e];rfl
  unfold encS numsS at h2
  simp only [List.length_append] at h2
  omega
theorem Encode_eq {u:api_Unit} (hu:smallU u):Z2 N u=some (if unitB u=true then (encS u,0) else ([],8)):=by
  unfold Z2
  rw [lRight_eq (by omega) hu]
  simp only [Option.bind_some]
  cases unitB u with
  | false=>rfl
  | true =>
    obtain ⟨s1,s2,s3,s4,s5,s6,s7⟩:=id hu
    have n1:=numsS_len s1
    have n2:=numsS_len s2
    have p1:=putS_len u.Stays
    have p2:=putS_len u.Locks
    have p3:=putS_len (u.Threads.length:Int)
    have p4:=putS_len (u.Claims.length:Int)
    have c1:=flat_len (f:=codeS) (l:=u.Threads) (m:=216108018) (fun x hx=>codeS_len (s5 x hx))
    have c2:=codeS_len s6
    have c3:=flat_len (f:=stepsS) (l:=u.Claims) (m:=36006) (fun x hx=>stepsS_len (s7 x hx))
    rw [if_pos rfl,if_pos rfl,wnums_eq hN s1 (by simp)]
    simp only [Option.bind_some,List.nil_append]
    rw [wnum_eq hN _ (by omega)]
    simp only [Option.bind_some]
    rw [wnums_eq hN s2 (by simp only [List.length_append];omega)]
    simp only [Option.bind_some]
    rw [wnum_eq hN _ (by simp only [List.length_append];omega)]
    simp only [Option.bind_some]
    rw [wnum_eq hN _ (by simp only [List.length_append];omega)]
    simp only [Option.bind_some]
    have h2:=wthreads hN (q:=Z3 N u) hu u.Threads [] N (numsS u.Lines ++ putS u.Stays ++ numsS u.Firsts ++ putS u.Locks ++ putS (u.Threads.length:Int)) rfl (by omega) (by simp only [List.length_append];omega)
    refine Eq.trans h2 ?_
    unfold Z3
    rw [wcode_eq hN s6 (by simp only [List.length_append];omega)]
    simp only [Option.bind_some]
    rw [wnum_eq hN _ (by simp only [List.length_append];omega)]
    simp only [Option.bind_some]
    have h4:=wclaims hN (q:=Z4) hu u.Claims [] N (numsS u.Lines ++ putS u.Stays ++ numsS u.Firsts ++ putS u.Locks ++ putS (u.Threads.length:Int) ++ u.Threads.flatMap codeS ++ codeS u.Recover ++ putS (u.Claims.length:Int)) rfl (by omega) (by simp only [List.length_append];omega)
    refine Eq.trans h4 ?_
    have e:numsS u.Lines ++ putS u.Stays ++ numsS u.Firsts ++ putS u.Locks ++ putS (u.Threads.length:Int) ++ u.Threads.flatMap codeS ++ codeS u.Recover ++ putS (u.Claims.length:Int) ++ u.Claims.flatMap stepsS=encS u:=by
      unfold encS;simp only [List.append_assoc]
    rw [e]
    unfold Z4 neG
    rw [if_neg (encS_pos u s1)]
    rfl
theorem rnums_l2 {l:List Int} (hl:l.length≤3000):∀ (b a:List Int) (k:Nat) (s:Str),a ++ b=l→b.length < k→s.length+6 * b.length≤100000000000000→Z48 N Z47 l k s ((a.length:Nat):Int)=some (s ++ b.flatMap putS):=by
  intro b
  induction b with
  | nil =>
    intro a k s ha hk _
    obtain ⟨k,rfl⟩:∃ q,k=q+1:=⟨k - 1,by omega⟩
    rw [List.append_nil] at ha
    rw [Z48,if_neg (by rw [← ha];omega),Z47];simp
  | cons x b ih =>
    intro a k s ha hk hs
    obtain ⟨k,rfl⟩:∃ q,k=q+1:=⟨k - 1,by omega⟩
    have hla:a.length < l.length:=by rw [← ha];simp
    have hge:getI l ((a.length:Nat):Int)=some x:=by rw [getI_nat,← ha];simp
    have hp:=putS_len x
    have rc:=ih (a ++ [x]) k (s ++ putS x) (by rw [← ha];simp) (by simpa using hk) (by simp only [List.length_append,List.length_cons] at hs ⊢;omega)
    simp only [List.length_append,List.length_cons,List.length_nil,Nat.zero_add] at rc
    rw [Z48,if_pos (by omega),hge]
    simp only [Option.bind_some]
    rw [RPut_eq (by omega)]
    simp only [Option.bind_some]
    rw [catG_ok (by omega)]
    simp only [Option.bind_some]
    rw [wsucc hla (by omega),rc,List.flatMap_cons,List.append_assoc]
theorem rnums_eq {l:List Int} (hl:l.length≤3000):Z46 N l=some (numsS l):=by
  have hp:=putS_len (l.length:Int)
  unfold Z46 numsS
  rw [RPut_eq (by omega)]
  simp only [Option.bind_some]
  exact rnums_l2 hN hl l [] N _ rfl (by omega) (by omega)
theorem rstp_l2 {l:List api_Op} (hl:l.length≤3000):∀ (b a:List api_Op) (k:Nat) (s:Str),a ++ b=l→b.length < k→s.length+12 * b.length≤100000000000000→Z4b N Z4a l k s ((a.length:Nat):Int)=some (s ++ b.flatMap opS):=by
  intro b
  induction b with
  | nil =>
    intro a k s ha hk _
    obtain ⟨k,rfl⟩:∃ q,k=q+1:=⟨k - 1,by omega⟩
    rw [List.append_nil] at ha
    rw [Z4b,if_neg (by rw [← ha];omega),Z4a];simp
  | cons x b ih =>
    intro a k s ha hk hs
    obtain ⟨k,rfl⟩:∃ q,k=q+1:=⟨k - 1,by omega⟩
    have hla:a.length < l.length:=by rw [← ha];simp
    have hge:getI l ((a.length:Nat):Int)=some x:=by rw [getI_nat,← ha];simp
    have hp:=opS_len x
    have h1:=putS_len x.Kind
    have h2:=putS_len x.N
    have rc:=ih (a ++ [x]) k (s ++ opS x) (by rw [← ha];simp) (by simpa using hk) (by simp only [List.length_append,List.length_cons] at hs ⊢;omega)
    simp only [List.length_append,List.length_cons,List.length_nil,Nat.zero_add] at rc hs
    rw [Z4b,if_pos (by omega),hge]
    simp only [Option.bind_some]
    rw [RPut_eq (by omega)]
    simp only [Option.bind_some]
    rw [RPut_eq (by omega)]
    simp only [Option.bind_some]
    rw [catG_ok (by omega)]
    simp only [Option.bind_some]
    rw [show putS x.Kind ++ putS x.N=opS x from rfl,catG_ok (by omega)]
    simp only [Option.bind_some]
    rw [wsucc hla (by omega),rc,List.flatMap_cons,List.append_assoc]
theorem rstepsS_eq {l:List api_Op} (hl:l.length≤3000):Z49 N l=some (stepsS l):=by
  have hp:=putS_len (l.length:Int)
  unfold Z49 stepsS
  rw [RPut_eq (by omega)]
  simp only [Option.bind_some]
  exact rstp_l2 hN hl l [] N _ rfl (by omega) (by omega)
theorem rcode_l2' {p:api_Code} (hp:small p):∀ (b a:List api_Instr) (k:Nat) (s:Str),a ++ b=p.L→b.length < k→s.length+72036 * b.length≤80000000000000→Z45 N Z44 p k s ((a.length:Nat):Int)=some (s ++ b.flatMap insS):=by
  intro b
  induction b with
  | nil =>
    intro a k s ha hk _
    obtain ⟨k,rfl⟩:∃ q,k=q+1:=⟨k - 1,by omega⟩
    rw [List.append_nil] at ha
    rw [Z45,if_neg (by rw [← ha];omega),Z44];simp
  | cons x b ih =>
    intro a k s ha hk hs
    obtain ⟨k,rfl⟩:∃ q,k=q+1:=⟨k - 1,by omega⟩
    have hla:a.length < p.L.length:=by rw [← ha];simp
    have hge:getI p.L ((a.length:Nat):Int)=some x:=by rw [getI_nat,← ha];simp
    have hm:=hp.2 x (by rw [← ha];simp)
    have h1:=putS_len x.Kind
    have h2:=putS_len x.A
    have h3:=putS_len x.B
    have h4:=putS_len x.To
    have h5:=stepsS_len hm.1
    have h5':=stepsS_len hm.2
    have h6:=insS_len hm.1 hm.2
    have hll:=hp.1
    have rc:=ih (a ++ [x]) k (s ++ insS x) (by rw [← ha];simp) (by simpa using hk) (by simp only [List.length_append,List.length_cons] at hs ⊢;omega)
    simp only [List.length_append,List.length_cons,List.length_nil,Nat.zero_add] at rc hs
    rw [Z45,if_pos (by omega),hge]
    simp only [Option.bind_some]
    rw [RPut_eq (by omega)]
    simp only [Option.bind_some]
    rw [RPut_eq (by omega)]
    simp only [Option.bind_some]
    rw [catG_ok (by (try simp only [List.length_append]);omega)]
    simp only [Option.bind_some]
    rw [RPut_eq (by omega)]
    simp only [Option.bind_some]
    rw [catG_ok (by (try simp only [List.length_append]);omega)]
    simp only [Option.bind_some]
    rw [RPut_eq (by omega)]
    simp only [Option.bind_some]
    rw [catG_ok (by (try simp only [List.length_append]);omega)]
    simp only [Option.bind_some]
    rw [rstepsS_eq hN hm.1]
    simp only [Option.bind_some]
    rw [catG_ok (by (try simp only [List.length_append]);omega)]
    simp only [Option.bind_some]
    rw [rstepsS_eq hN hm.2]
    simp only [Option.bind_some]
    rw [catG_ok (by (try simp only [List.length_append]);omega)]
    simp only [Option.bind_some]
    have e:putS x.Kind ++ putS x.A ++ putS x.B ++ putS x.To ++ stepsS x.E ++ stepsS x.F=insS x:=by unfold insS;simp only [List.append_assoc]
    rw [e,catG_ok (by omega)]
    simp only [Option.bind_some]
    rw [wsucc hla (by omega),rc,List.flatMap_cons,List.append_assoc]
theorem rcodeS_eq {p:api_Code} (hp:small p):Z43 N p=some (codeS p):=by
  have h1:=putS_len p.Regs
  have h2:=putS_len p.Counts
  have h3:=putS_len (p.L.length:Int)
  have h4:=hp.1
  unfold Z43 codeS
  rw [RPut_eq (by omega)]
  simp only [Option.bind_some]
  rw [RPut_eq (by omega)]
  simp only [Option.bind_some]
  rw [catG_ok (by omega)]
  simp only [Option.bind_some]
  rw [RPut_eq (by omega)]
  simp only [Option.bind_some]
  rw [catG_ok (by (try simp only [List.length_append]);omega)]
  simp only [Option.bind_some]
  have:=rcode_l2' hN hp p.L [] N (putS p.Regs ++ putS p.Counts ++ putS (p.L.length:Int)) rfl (by omega) (by simp only [List.length_append];omega)
  refine Eq.trans this ?_
  simp only [List.append_assoc]
theorem rthreads {u:api_Unit} {q:Str→Option (Str×Int)} (hu:smallU u):∀ (b a:List api_Code) (k:Nat) (s:Str),a ++ b=u.Threads→b.length < k→s.length+216108018 * b.length≤60000000000000→Z3m N q u k s ((a.length:Nat):Int)=q (s ++ b.flatMap codeS):=by
  intro b
  induction b with
  | nil =>
    intro a k s ha hk _
    obtain ⟨k,rfl⟩:∃ q,k=q+1:=⟨k - 1,by omega⟩
    rw [List.append_nil] at ha
    rw [Z3m,if_neg (by rw [← ha];omega)];simp
  | cons x b ih =>
    intro a k s ha hk hs
    obtain ⟨k,rfl⟩:∃ q,k=q+1:=⟨k - 1,by omega⟩
    have hla:a.length < u.Threads.length:=by rw [← ha];simp
    have hge:getI u.Threads ((a.length:Nat):Int)=some x:=by rw [getI_nat,← ha];simp
    have hm:=hu.2.2.2.2.1 x (by rw [← ha];simp)
    have hc:=codeS_len hm
    have hll:=hu.2.2.1
    have rc:=ih (a ++ [x]) k (s ++ codeS x) (by rw [← ha];simp) (by simpa using hk) (by simp only [List.length_append,List.length_cons] at hs ⊢;omega)
    simp only [List.length_append,List.length_cons,List.length_nil,Nat.zero_add] at rc hs
    rw [Z3m,if_pos (by omega),hge]
    simp only [Option.bind_some]
    rw [rcodeS_eq hN hm]
    simp only [Option.bind_some]
    rw [catG_ok (by omega)]
    simp only [Option.bind_some]
    rw [wsucc hla (by omega),rc,List.flatMap_cons,List.append_assoc]
theorem rclaims {u:api_Unit} {q:Str→Option (Str×Int)} (hu:smallU u):∀ (b a:List (List api_Op)) (k:Nat) (s:Str),a ++ b=u.Claims→b.length < k→s.length+36006 * b.length≤60000000000000→Z3n N q u k s ((a.length:Nat):Int)=q (s ++ b.flatMap stepsS):=by
  intro b
  induction b with
  | nil =>
    intro a k s ha hk _
    obtain ⟨k,rfl⟩:∃ q,k=q+1:=⟨k - 1,by omega⟩
    rw [List.append_nil] at ha
    rw [Z3n,if_neg (by rw [← ha];omega)];simp
  | cons x b ih =>
    intro a k s ha hk hs
    obtain ⟨k,rfl⟩:∃ q,k=q+1:=⟨k - 1,by omega⟩
    have hla:a.length < u.Claims.length:=by rw [← ha];simp
    have hge:getI u.Claims ((a.length:Nat):Int)=some x:=by rw [getI_nat,← ha];simp
    have hm:=hu.2.2.2.2.2.2 x (by rw [← ha];simp)
    have hc:=stepsS_len hm
    have hll:=hu.2.2.2.1
    have rc:=ih (a ++ [x]) k (s ++ stepsS x) (by rw [← ha];simp) (by simpa using hk) (by simp only [List.length_append,List.length_cons] at hs ⊢;omega)
    simp only [List.length_append,List.length_cons,List.length_nil,Nat.zero_add] at rc hs
    rw [Z3n,if_pos (by omega),hge]
    simp only [Option.bind_some]
    rw [rstepsS_eq hN hm]
    simp only [Option.bind_some]
    rw [catG_ok (by omega)]
    simp only [Option.bind_some]
    rw [wsucc hla (by omega),rc,List.flatMap_cons,List.append_assoc]
theorem REncode_eq {u:api_Unit} (hu:smallU u):Z3j N u=some (if unitB u=true then (encS u,0) else ([],8)):=by
  unfold Z3j
  rw [rRight_eq (by omega) hu]
  simp only [Option.bind_some]
  cases unitB u with
  | false=>rfl
  | true =>
    obtain ⟨s1,s2,s3,s4,s5,s6,s7⟩:=id hu
    have n1:=numsS_len s1
    have n2:=numsS_len s2
    have p1:=putS_len u.Stays
    have p2:=putS_len u.Locks
    have p3:=putS_len (u.Threads.length:Int)
    have p4:=putS_len (u.Claims.length:Int)
    have c1:=flat_len (f:=codeS) (l:=u.Threads) (m:=216108018) (fun x hx=>codeS_len (s5 x hx))
    have c2:=codeS_len s6
    have c3:=flat_len (f:=stepsS) (l:=u.Claims) (m:=36006) (fun x hx=>stepsS_len (s7 x hx))
    rw [if_pos rfl,if_pos rfl,rnums_eq hN s1]
    simp only [Option.bind_some]
    rw [RPut_eq (by omega)]
    simp only [Option.bind_some]
    rw [catG_ok (by omega)]
    simp only [Option.bind_some]
    rw [rnums_eq hN s2]
    simp only [Option.bind_some]
    rw [catG_ok (by (try simp only [List.length_append]);omega)]
    simp only [Option.bind_some]
    rw [RPut_eq (by omega)]
    simp only [Option.bind_some]
    rw [catG_ok (by (try simp only [List.length_append]);omega)]
    simp only [Option.bind_some]
    rw [RPut_eq (by omega)]
    simp only [Option.bind_some]
    rw [catG_ok (by (try simp only [List.length_append]);omega)]
    simp only [Option.bind_some]
    have h2:=rthreads hN (q:=Z3k N u) hu u.Threads [] N (numsS u.Lines ++ putS u.Stays ++ numsS u.Firsts ++ putS u.Locks ++ putS (u.Threads.length:Int)) rfl (by omega) (by simp only [List.length_append];omega)
    refine Eq.trans h2 ?_
    unfold Z3k
    rw [rcodeS_eq hN s6]
    simp only [Option.bind_some]
    rw [RPut_eq (by omega)]
    simp only [Option.bind_some]
    rw [catG_ok (by (try simp only [List.length_append]);omega)]
    simp only [Option.bind_some]
    rw [catG_ok (by (try simp only [List.length_append]);omega)]
    simp only [Option.bind_some]
    have h4:=rclaims hN (q:=Z3l) hu u.Claims [] N (numsS u.Lines ++ putS u.Stays ++ numsS u.Firsts ++ putS u.Locks ++ putS (u.Threads.length:Int) ++ u.Threads.flatMap codeS ++ (codeS u.Recover ++ putS (u.Claims.length:Int))) rfl (by omega) (by simp only [List.length_append];omega)
    refine Eq.trans h4 ?_
    have e:numsS u.Lines ++ putS u.Stays ++ numsS u.Firsts ++ putS u.Locks ++ putS (u.Threads.length:Int) ++ u.Threads.flatMap codeS ++ (codeS u.Recover ++ putS (u.Claims.length:Int)) ++ u.Claims.flatMap stepsS=encS u:=by
      unfold encS;simp only [List.append_assoc]
    rw [e]
    rfl
end
def Two {α:Type} (s:Str) (Q:α→Prop) (r:Option (α×leadlineref10_In)) (b:Option (Option (α×binary_reader))):Prop:=
  ∃ (x:α) (i:leadlineref10_In),r=some (x,i)∧i.S=s∧Q x∧b=some (if i.Bad=true then none else some (x,⟨s,i.At⟩))
theorem in_bad {i:leadlineref10_In} {s:Str} (h:i.S=s) (hb:i.Bad=true):i=⟨s,i.At,true⟩:=by
  obtain ⟨a,b,c⟩:=i;simp only at h hb;subst h;subst hb;rfl
theorem in_ok {i:leadlineref10_In} {s:Str} (h:i.S=s) (hb:i.Bad=false):i=⟨s,i.At,false⟩:=by
  obtain ⟨a,b,c⟩:=i;simp only at h hb;subst h;subst hb;rfl
theorem Two.bind {α β:Type} {s:Str} {Q:α→Prop} {R:β→Prop} {r:Option (α×leadlineref10_In)} {b:Option (Option (α×binary_reader))} {kr:α×leadlineref10_In→Option (β×leadlineref10_In)} {kb:α×binary_reader→Option (Option (β×binary_reader))}
    (h:Two s Q r b) (ok:∀ x a,Q x→Two s R (kr (x,⟨s,a,false⟩)) (kb (x,⟨s,a⟩))) (bad:∀ x a,Q x→∃ y c,R y∧kr (x,⟨s,a,true⟩)=some (y,⟨s,c,true⟩)):Two s R (r.bind kr) (b.bindP kb):=by
  obtain ⟨x,i,rfl,hs,hq,rfl⟩:=h
  cases hb:i.Bad with
  | true =>
    obtain ⟨y,c,hy,e⟩:=bad x i.At hq
    rw [in_bad hs hb] at *
    exact ⟨y,⟨s,c,true⟩,e,rfl,hy,rfl⟩
  | false =>
    have:=ok x i.At hq
    rw [in_ok hs hb]
    exact this
section
variable {N:Nat} (hN:10000 < N) {s:Str} (hs:s.length≤2000)
include hN hs
theorem num_two (a:Int):Two s (fun _=>True) (Z3v N ⟨s,a,false⟩) (Zn N ⟨s,a⟩):=by
  unfold Z3v Zn
  rw [RGet_eq (by omega) (by show s.length≤1000000;omega),Get_eq (by omega) (by show s.length≤1000000;omega)]
  simp only [Option.bind_some,Bool.false_or]
  by_cases h:(getS s a).2.2≠0
  · rw [if_pos (decide_eq_true h), if_pos h]
    exact ⟨0,⟨s,a,true⟩,rfl,rfl,trivial,rfl⟩
  · rw [if_neg (by simpa using h), if_neg h]
    exact ⟨_,⟨s,_,false⟩,rfl,rfl,trivial,rfl⟩
theorem num_bad (a:Int):Z3v N ⟨s,a,true⟩=some (0,⟨s,a,true⟩):=by
  unfold Z3v
  rw [RGet_eq (by omega) (by show s.length≤1000000;omega)]
  rfl
theorem many_two (a:Int):Two s (fun n=>n≤(s.length:Int)) (Z3u N ⟨s,a,false⟩) (Zm N ⟨s,a⟩):=by
  unfold Z3u Zm
  refine (num_two hN hs a).bind (fun x a _=>?_) (fun x a _=>?_)
  · by_cases h : (s.length : Int) < x
    · simp only [if_pos h]
      exact ⟨0,⟨s,a,true⟩,rfl,rfl,by omega,rfl⟩
    · simp only [if_neg h]
      exact ⟨x,⟨s,a,false⟩,rfl,rfl,by omega,rfl⟩
  · by_cases h : (s.length : Int) < x
    · exact ⟨0,a,by omega,by simp only [if_pos h]⟩
    · exact ⟨x,a,by omega,by simp only [if_neg h]⟩
theorem many_bad (a:Int):Z3u N ⟨s,a,true⟩=some (0,⟨s,a,true⟩):=by
  unfold Z3u
  rw [num_bad hN hs]
  simp only [Option.bind_some]
  rw [if_neg (by show ¬ (s.length:Int) < 0;omega)]
theorem nums_loop {c:Int} {i0:leadlineref10_In} {r0:binary_reader} (hc:c≤(s.length:Int)):∀ (d:Nat) (j k:Nat) (a:Int) (acc:List Int),acc.length=j→(j:Int)+d≥c→(j:Int)≤max c 0→d < k→
    Two s (fun l:List Int=>l.length≤2000) (Z3y N Z3x (c,i0) k ⟨s,a,false⟩ acc (j:Int)) (Zq N Zp (c,r0) k ⟨s,a⟩ acc (j:Int)):=by
  intro d
  induction d with
  | zero =>
    intro j k a acc hj hd hm hk
    obtain ⟨k,rfl⟩:∃ q,k=q+1:=⟨k - 1,by omega⟩
    rw [Z3y,Zq,if_neg (by simp;omega),if_neg (by show ¬ (j:Int) < c;omega)]
    exact ⟨acc,⟨s,a,false⟩,rfl,rfl,by omega,rfl⟩
  | succ d ih =>
    intro j k a acc hj hd hm hk
    obtain ⟨k,rfl⟩:∃ q,k=q+1:=⟨k - 1,by omega⟩
    rw [Z3y,Zq]
    by_cases h:(j:Int) < c
    · rw [if_pos (by simp; exact h), if_pos h]
      refine (num_two hN hs a).bind (fun x a _=>?_) (fun x a _=>?_)
      · simp only
        rw [appG_ok (by simp;omega) (by decide)]
        simp only [Option.bind_some]
        rw [w64 (by omega) (by omega),show (j:Int)+1=((j+1:Nat):Int) from by omega]
        exact ih (j+1) k a (acc ++ [x]) (by simp;omega) (by omega) (by omega) (by omega)
      · obtain ⟨k, rfl⟩ : ∃ q, k = q + 1 := ⟨k - 1, by omega⟩
        simp only
        rw [appG_ok (by simp;omega) (by decide)]
        simp only [Option.bind_some]
        rw [Z3y,if_neg (by simp)]
        exact ⟨acc ++ [x],a,by simp;omega,rfl⟩
    · rw [if_neg (by simp; omega), if_neg h]
      exact ⟨acc,⟨s,a,false⟩,rfl,rfl,by omega,rfl⟩
theorem nums_two (a:Int):Two s (fun l:List Int=>l.length≤2000) (Z3w N ⟨s,a,false⟩) (Zo N ⟨s,a⟩):=by
  unfold Z3w Zo
  refine (many_two hN hs a).bind (fun c a hc=>?_) (fun c a hc=>?_)
  · exact nums_loop hN hs hc s.length 0 N a [] rfl (by omega) (by omega) (by omega)
  · obtain ⟨N, rfl⟩ : ∃ q, N = q + 1 := ⟨N - 1, by omega⟩
    rw [Z3y,if_neg (by simp)]
    exact ⟨[],a,by simp,rfl⟩
theorem nums_bad (a:Int):Z3w N ⟨s,a,true⟩=some ([],⟨s,a,true⟩):=by
  unfold Z3w
  rw [many_bad hN hs]
  simp only [Option.bind_some]
  obtain ⟨N,rfl⟩:∃ q,N=q+1:=⟨N - 1,by omega⟩
  rw [Z3y,if_neg (by simp)];rfl
theorem steps_loop {c:Int} {i0:leadlineref10_In} {r0:binary_reader} (hc:c≤(s.length:Int)):∀ (d:Nat) (j k:Nat) (a:Int) (acc:List api_Op),acc.length=j→(j:Int)+d≥c→(j:Int)≤max c 0→d < k→
    Two s (fun l:List api_Op=>l.length≤2000) (Z41 N Z40 (c,i0) k ⟨s,a,false⟩ acc (j:Int)) (Zt N Zs (c,r0) k ⟨s,a⟩ acc (j:Int)):=by
  intro d
  induction d with
  | zero =>
    intro j k a acc hj hd hm hk
    obtain ⟨k,rfl⟩:∃ q,k=q+1:=⟨k - 1,by omega⟩
    rw [Z41,Zt,if_neg (by simp;omega),if_neg (by show ¬ (j:Int) < c;omega)]
    exact ⟨acc,⟨s,a,false⟩,rfl,rfl,by omega,rfl⟩
  | succ d ih =>
    intro j k a acc hj hd hm hk
    obtain ⟨k,rfl⟩:∃ q,k=q+1:=⟨k - 1,by omega⟩
    rw [Z41,Zt]
    by_cases h:(j:Int) < c
    · rw [if_pos (by simp; exact h), if_pos h]
      have stop:∀ (x y:Int) (a:Int),∃ l b,l.length≤2000∧((appG 16 acc ([(api_Op.mk x y)]:List api_Op)).bind fun l17=>(Z41 N Z40 (c,i0) k) ⟨s,a,true⟩ l17 (IntKind.i64.wrap ((j:Int)+1)))=some (l,⟨s,b,true⟩):=by
        intro x y a
        obtain ⟨k,rfl⟩:∃ q,k=q+1:=⟨k - 1,by omega⟩
        rw [appG_ok (by simp;omega) (by decide)]
        simp only [Option.bind_some]
        rw [Z41,if_neg (by simp)]
        exact ⟨acc ++ [⟨x,y⟩],a,by simp;omega,rfl⟩
      refine (num_two hN hs a).bind (fun x a _=>?_) (fun x a _=>?_)
      · refine (num_two hN hs a).bind (fun y a _ => ?_) (fun y a _ => ?_)
        · simp only
          rw [appG_ok (by simp;omega) (by decide)]
          simp only [Option.bind_some]
          rw [w64 (by omega) (by omega),show (j:Int)+1=((j+1:Nat):Int) from by omega]
          exact ih (j+1) k a (acc ++ [⟨x,y⟩]) (by simp;omega) (by omega) (by omega) (by omega)
        · exact stop x y a
      · simp only
        rw [num_bad hN hs]
        exact stop x 0 a
    · rw [if_neg (by simp; omega), if_neg h]
      exact ⟨acc,⟨s,a,false⟩,rfl,rfl,by omega,rfl⟩
theorem steps_two (a:Int):Two s (fun l:List api_Op=>l.length≤2000) (Z3z N ⟨s,a,false⟩) (Zr N ⟨s,a⟩):=by
  unfold Z3z Zr
  refine (many_two hN hs a).bind (fun c a hc=>?_) (fun c a hc=>?_)
  · exact steps_loop hN hs hc s.length 0 N a [] rfl (by omega) (by omega) (by omega)
  · obtain ⟨N, rfl⟩ : ∃ q, N = q + 1 := ⟨N - 1, by omega⟩
    rw [Z41,if_neg (by simp)]
    exact ⟨[],a,by simp,rfl⟩
theorem steps_bad (a:Int):Z3z N ⟨s,a,true⟩=some ([],⟨s,a,true⟩):=by
  unfold Z3z
  rw [many_bad hN hs]
  simp only [Option.bind_some]
  obtain ⟨N,rfl⟩:∃ q,N=q+1:=⟨N - 1,by omega⟩
  rw [Z41,if_neg (by simp)];rfl
def rdL (l:List api_Instr):Prop:=l.length≤2000∧∀ x∈l,x.E.length≤2000∧x.F.length≤2000
omit hN hs in
theorem rdL.snoc {l:List api_Instr} (h:∀ x∈l,x.E.length≤2000∧x.F.length≤2000) (hl:l.length < 2000) {x:api_Instr} (h1:x.E.length≤2000) (h2:x.F.length≤2000):rdL (l ++ [x]):=by
  refine ⟨by simp;omega,fun y hy=>?_⟩
  rcases List.mem_append.1 hy with hy | hy
  · exact h y hy
  · simp at hy;subst hy;exact ⟨h1,h2⟩
theorem code_loop {R C:Int×leadlineref10_In} {Rb Cb:Int×binary_reader} (eR:Rb.1=R.1) (eC:Cb.1=C.1) {c:Int} {i0:leadlineref10_In} {r0:binary_reader} (hc:c≤(s.length:Int)):∀ (d:Nat) (j k:Nat) (a:Int) (acc:List api_Instr),acc.length=j→(∀ x∈acc,x.E.length≤2000∧x.F.length≤2000)→(j:Int)+d≥c→(j:Int)≤max c 0→d < k→
    Two s (fun p:api_Code=>rdL p.L) (Z3t N (Z3s R C) (c,i0) k ⟨s,a,false⟩ acc (j:Int)) (Zl N (Zi Rb Cb) (c,r0) k ⟨s,a⟩ acc (j:Int)):=by
  intro d
  induction d with
  | zero =>
    intro j k a acc hj hx hd hm hk
    obtain ⟨k,rfl⟩:∃ q,k=q+1:=⟨k - 1,by omega⟩
    rw [Z3t,Zl,if_neg (by simp;omega),if_neg (by show ¬ (j:Int) < c;omega)]
    exact ⟨⟨R.1,C.1,acc⟩,⟨s,a,false⟩,rfl,rfl,⟨by show acc.length≤2000;omega,hx⟩,by rw [Zi,eR,eC];rfl⟩
  | succ d ih =>
    intro j k a acc hj hx hd hm hk
    obtain ⟨k,rfl⟩:∃ q,k=q+1:=⟨k - 1,by omega⟩
    rw [Z3t,Zl]
    by_cases h:(j:Int) < c
    · rw [if_pos (by simp; exact h), if_pos h]
      have stop:∀ (x:api_Instr) (a:Int),x.E.length≤2000→x.F.length≤2000→∃ (p:api_Code) (b:Int),rdL p.L∧((appG 80 acc ([x]:List api_Instr)).bind fun l46=>(Z3t N (Z3s R C) (c,i0) k) ⟨s,a,true⟩ l46 (IntKind.i64.wrap ((j:Int)+1)))=some (p,⟨s,b,true⟩):=by
        intro x a h1 h2
        obtain ⟨k,rfl⟩:∃ q,k=q+1:=⟨k - 1,by omega⟩
        rw [appG_ok (by simp;omega) (by decide)]
        simp only [Option.bind_some]
        rw [Z3t,if_neg (by simp)]
        exact ⟨⟨R.1,C.1,acc ++ [x]⟩,a,rdL.snoc hx (by omega) h1 h2,rfl⟩
      have l0:([]:List api_Op).length≤2000:=by simp
      refine (num_two hN hs a).bind (fun x1 a _=>?_) (fun x1 a _=>?_)
      · refine (num_two hN hs a).bind (fun x2 a _ => ?_) (fun x2 a _ => ?_)
        · refine (num_two hN hs a).bind (fun x3 a _ => ?_) (fun x3 a _ => ?_)
          · refine (num_two hN hs a).bind (fun x4 a _ => ?_) (fun x4 a _ => ?_)
            · rw [Zk]
              refine (steps_two hN hs a).bind (fun x5 a h5=>?_) (fun x5 a h5=>?_)
              · refine (steps_two hN hs a).bind (fun x6 a h6 => ?_) (fun x6 a h6 => ?_)
                · simp only
                  rw [appG_ok (by simp;omega) (by decide)]
                  simp only [Option.bind_some]
                  rw [Zj,w64 (by omega) (by omega),show (j:Int)+1=((j+1:Nat):Int) from by omega]
                  exact ih (j+1) k a (acc ++ [⟨x1,x2,x3,x5,x6,x4⟩]) (by simp;omega) (rdL.snoc hx (by omega) h5 h6).2 (by omega) (by omega) (by omega)
                · exact stop ⟨x1,x2,x3,x5,x6,x4⟩ a h5 h6
              · simp only [steps_bad hN hs, Option.bind_some]
                exact stop ⟨x1,x2,x3,x5,[],x4⟩ a h5 l0
            · simp only [steps_bad hN hs, Option.bind_some]
              exact stop ⟨x1,x2,x3,[],[],x4⟩ a l0 l0
          · simp only [num_bad hN hs, steps_bad hN hs, Option.bind_some]
            exact stop ⟨x1,x2,x3,[],[],0⟩ a l0 l0
        · simp only [num_bad hN hs, steps_bad hN hs, Option.bind_some]
          exact stop ⟨x1,x2,0,[],[],0⟩ a l0 l0
      · simp only [num_bad hN hs, steps_bad hN hs, Option.bind_some]
        exact stop ⟨x1,0,0,[],[],0⟩ a l0 l0
    · rw [if_neg (by simp; omega), if_neg h]
      exact ⟨⟨R.1,C.1,acc⟩,⟨s,a,false⟩,rfl,rfl,⟨by show acc.length≤2000;omega,hx⟩,by rw [Zi,eR,eC];rfl⟩
theorem code_two (a:Int):Two s (fun p:api_Code=>rdL p.L) (Z3r N ⟨s,a,false⟩) (Zh N ⟨s,a⟩):=by
  have stop:∀ (R C:Int×leadlineref10_In) (q:Int×leadlineref10_In) (a:Int),Z3t N (Z3s R C) q N ⟨s,a,true⟩ [] 0=some (⟨R.1,C.1,[]⟩,⟨s,a,true⟩):=by
    intro R C q a
    obtain ⟨M,hM⟩:∃ q,N=q+1:=⟨N - 1,by omega⟩
    have e:Z3t N (Z3s R C) q N ⟨s,a,true⟩ [] 0=Z3t N (Z3s R C) q (M+1) ⟨s,a,true⟩ [] 0:=by congr 1
    rw [e,Z3t,if_neg (by simp)];rfl
  have e0:rdL ([]:List api_Instr):=⟨by simp,fun _ h=>nomatch h⟩
  unfold Z3r Zh
  refine (num_two hN hs a).bind (fun x1 a _=>?_) (fun x1 a _=>?_)
  · refine (num_two hN hs a).bind (fun x2 a _ => ?_) (fun x2 a _ => ?_)
    · refine (many_two hN hs a).bind (fun c a hc => ?_) (fun c a hc => ?_)
      · exact code_loop hN hs rfl rfl hc s.length 0 N a [] rfl (fun _ h=>nomatch h) (by omega) (by omega) (by omega)
      · exact ⟨_,a,e0,stop _ _ _ a⟩
    · simp only [many_bad hN hs, Option.bind_some]
      exact ⟨_,a,e0,stop _ _ _ a⟩
  · simp only [num_bad hN hs, many_bad hN hs, Option.bind_some]
    exact ⟨_,a,e0,stop _ _ _ a⟩
theorem code_bad (a:Int):Z3r N ⟨s,a,true⟩=some (⟨0,0,[]⟩,⟨s,a,true⟩):=by
  unfold Z3r
  simp only [num_bad hN hs,many_bad hN hs,Option.bind_some]
  obtain ⟨M,hM⟩:∃ q,N=q+1:=⟨N - 1,by omega⟩
  subst hM
  rw [Z3t,if_neg (by simp)];rfl
end
set_option linter.unusedSectionVars false
def zeroU:api_Unit:=(api_Unit.mk [] 0 [] 0 [] (api_Code.mk 0 0 []) [])
def fin (N:Nat) (s:Str) (u:api_Unit) (bad:Bool):Option (api_Unit×Int):=
  (Z3j N u).bind fun r98=>if ((bad || (decide (r98.2≠0))) || (decide (r98.1≠s)))=true then some (zeroU,8) else some (u,0)
def TwoK (N:Nat) (s:Str) (r:Option (api_Unit×Int)) (b:Option (Option (api_Unit×binary_reader))):Prop:=
  ∃ (u:api_Unit) (i:leadlineref10_In),i.S=s∧smallU u∧r=fin N s u i.Bad∧b=some (if i.Bad=true then none else some (u,⟨s,i.At⟩))
theorem Two.bindK {α:Type} {N:Nat} {s:Str} {Q:α→Prop} {r:Option (α×leadlineref10_In)} {b:Option (Option (α×binary_reader))} {kr:α×leadlineref10_In→Option (api_Unit×Int)} {kb:α×binary_reader→Option (Option (api_Unit×binary_reader))}
    (h:Two s Q r b) (ok:∀ x a,Q x→TwoK N s (kr (x,⟨s,a,false⟩)) (kb (x,⟨s,a⟩))) (bad:∀ x a,Q x→∃ u,smallU u∧kr (x,⟨s,a,true⟩)=fin N s u true):TwoK N s (r.bind kr) (b.bindP kb):=by
  obtain ⟨x,i,rfl,hs,hq,rfl⟩:=h
  cases hb:i.Bad with
  | true =>
    obtain ⟨u,hu,e⟩:=bad x i.At hq
    rw [in_bad hs hb] at *
    exact ⟨u,⟨s,i.At,true⟩,rfl,hu,e,rfl⟩
  | false =>
    have:=ok x i.At hq
    rw [in_ok hs hb]
    exact this
theorem rdL.small {p:api_Code} (h:rdL p.L):small p:=⟨by have:=h.1;omega,fun x hx=>by have:=h.2 x hx;omega⟩
section
variable {N:Nat} (hN:10000 < N) {s:Str} (hs:s.length≤2000)
structure Pre (A C:List Int) (T:List api_Code):Prop where
  a:A.length≤2000
  c:C.length≤2000
  t:T.length≤2000
  tt:∀ p∈T,rdL p.L
theorem Pre.unit {A C:List Int} {T:List api_Code} (h:Pre A C T) {B D:Int} {R:api_Code} (hR:rdL R.L) {K:List (List api_Op)} (hK:K.length≤2000) (hKK:∀ c∈K,c.length≤2000):smallU ⟨A,B,C,D,T,R,K⟩:=
  ⟨by show A.length≤3000;have:=h.a;omega,by show C.length≤3000;have:=h.c;omega,by show T.length≤3000;have:=h.t;omega,by show K.length≤3000;omega,fun c hc=>(h.tt c hc).small,hR.small,fun c hc=>by have:=hKK c hc;omega⟩
include hN hs
theorem claims_loop {A C:List Int×leadlineref10_In} {A' C':List Int×binary_reader} {B D:Int×leadlineref10_In} {B' D':Int×binary_reader} {T:List api_Code} {R:api_Code×leadlineref10_In} {R':api_Code×binary_reader} (eA:A'.1=A.1) (eB:B'.1=B.1) (eC:C'.1=C.1) (eD:D'.1=D.1) (eR:R'.1=R.1) (hp:Pre A.1 C.1 T) (hR:rdL R.1.L)
    {c:Int} {i0:leadlineref10_In} {r0:binary_reader} (hc:c≤(s.length:Int)):∀ (d:Nat) (j k:Nat) (a:Int) (acc:List (List api_Op)),acc.length=j→(∀ x∈acc,x.length≤2000)→(j:Int)+d≥c→(j:Int)≤max c 0→d < k→
    TwoK N s (Z3i N (Z3g N s A B C D T R) (c,i0) k ⟨s,a,false⟩ acc (j:Int)) (Zy N (Zw A' B' C' D' T R') (c,r0) k ⟨s,a⟩ acc (j:Int)):=by
  intro d
  induction d with
  | zero =>
    intro j k a acc hj hx hd hm hk
    obtain ⟨k,rfl⟩:∃ q,k=q+1:=⟨k - 1,by omega⟩
    rw [Z3i,Zy,if_neg (by simp;omega),if_neg (by show ¬ (j:Int) < c;omega)]
    exact ⟨⟨A.1,B.1,C.1,D.1,T,R.1,acc⟩,⟨s,a,false⟩,rfl,hp.unit hR (by omega) hx,rfl,by rw [Zw,eA,eB,eC,eD,eR];rfl⟩
  | succ d ih =>
    intro j k a acc hj hx hd hm hk
    obtain ⟨k,rfl⟩:∃ q,k=q+1:=⟨k - 1,by omega⟩
    rw [Z3i,Zy]
    by_cases h:(j:Int) < c
    · rw [if_pos (by simp; exact h), if_pos h]
      have hsn:∀ x:List api_Op,x.length≤2000→∀ y∈acc ++ [x],y.length≤2000:=by
        intro x hx' y hy
        rcases List.mem_append.1 hy with hy | hy
        · exact hx y hy
        · simp at hy;subst hy;exact hx'
      refine (steps_two hN hs a).bindK (fun x a h5=>?_) (fun x a h5=>?_)
      · simp only
        rw [appG_ok (by simp;omega) (by decide)]
        simp only [Option.bind_some]
        rw [w64 (by omega) (by omega),show (j:Int)+1=((j+1:Nat):Int) from by omega]
        exact ih (j+1) k a (acc ++ [x]) (by simp;omega) (hsn x h5) (by omega) (by omega) (by omega)
      · obtain ⟨k, rfl⟩ : ∃ q, k = q + 1 := ⟨k - 1, by omega⟩
        simp only
        rw [appG_ok (by simp;omega) (by decide)]
        simp only [Option.bind_some]
        rw [Z3i,if_neg (by simp)]
        exact ⟨⟨A.1,B.1,C.1,D.1,T,R.1,acc ++ [x]⟩,hp.unit hR (by simp;omega) (hsn x h5),rfl⟩
    · rw [if_neg (by simp; omega), if_neg h]
      exact ⟨⟨A.1,B.1,C.1,D.1,T,R.1,acc⟩,⟨s,a,false⟩,rfl,hp.unit hR (by omega) hx,rfl,by rw [Zw,eA,eB,eC,eD,eR];rfl⟩
theorem claims_bad {A C:List Int×leadlineref10_In} {B D:Int×leadlineref10_In} {T:List api_Code} {R:api_Code×leadlineref10_In} (hp:Pre A.1 C.1 T) (hR:rdL R.1.L) (q:Int×leadlineref10_In) (a:Int) :
    ∃ u,smallU u∧Z3i N (Z3g N s A B C D T R) q N ⟨s,a,true⟩ [] 0=fin N s u true:=by
  obtain ⟨M,hM⟩:∃ q,N=q+1:=⟨N - 1,by omega⟩
  have e:Z3i N (Z3g N s A B C D T R) q N ⟨s,a,true⟩ [] 0=Z3i N (Z3g N s A B C D T R) q (M+1) ⟨s,a,true⟩ [] 0:=by congr 1
  rw [e,Z3i,if_neg (by simp)]
  exact ⟨⟨A.1,B.1,C.1,D.1,T,R.1,[]⟩,hp.unit hR (by simp) (fun _ h=>nomatch h),rfl⟩
theorem j1_two {A C:List Int×leadlineref10_In} {A' C':List Int×binary_reader} {B D:Int×leadlineref10_In} {B' D':Int×binary_reader} {T:List api_Code} (eA:A'.1=A.1) (eB:B'.1=B.1) (eC:C'.1=C.1) (eD:D'.1=D.1) (hp:Pre A.1 C.1 T) (a:Int) :
    TwoK N s (Z3f N s A B C D ⟨s,a,false⟩ T) (Zv N A' B' C' D' ⟨s,a⟩ T):=by
  unfold Z3f Zv
  refine (code_two hN hs a).bindK (fun R a hR=>?_) (fun R a hR=>?_)
  · refine (many_two hN hs a).bindK (fun c a hc => ?_) (fun c a hc => ?_)
    · exact claims_loop hN hs eA eB eC eD rfl hp hR hc s.length 0 N a [] rfl (fun _ h=>nomatch h) (by omega) (by omega) (by omega)
    · exact claims_bad hN hs hp hR _ a
  · simp only [many_bad hN hs, Option.bind_some]
    exact claims_bad hN hs hp hR _ a
theorem j1_bad {A C:List Int×leadlineref10_In} {B D:Int×leadlineref10_In} {T:List api_Code} (hp:Pre A.1 C.1 T) (a:Int) :
    ∃ u,smallU u∧Z3f N s A B C D ⟨s,a,true⟩ T=fin N s u true:=by
  unfold Z3f
  simp only [code_bad hN hs,many_bad hN hs,Option.bind_some]
  exact claims_bad hN hs (R:=(⟨0,0,[]⟩,⟨s,a,true⟩)) hp ⟨by simp,fun _ h=>nomatch h⟩ _ a
theorem threads_loop {A C:List Int×leadlineref10_In} {A' C':List Int×binary_reader} {B D:Int×leadlineref10_In} {B' D':Int×binary_reader} (eA:A'.1=A.1) (eB:B'.1=B.1) (eC:C'.1=C.1) (eD:D'.1=D.1) (hA:A.1.length≤2000) (hC:C.1.length≤2000)
    {c:Int} {i0:leadlineref10_In} {r0:binary_reader} (hc:c≤(s.length:Int)):∀ (d:Nat) (j k:Nat) (a:Int) (acc:List api_Code),acc.length=j→(∀ x∈acc,rdL x.L)→(j:Int)+d≥c→(j:Int)≤max c 0→d < k→
    TwoK N s (Z3h N (Z3f N s A B C D) (c,i0) k ⟨s,a,false⟩ acc (j:Int)) (Zx N (Zv N A' B' C' D') (c,r0) k ⟨s,a⟩ acc (j:Int)):=by
  intro d
  induction d with
  | zero =>
    intro j k a acc hj hx hd hm hk
    obtain ⟨k,rfl⟩:∃ q,k=q+1:=⟨k - 1,by omega⟩
    rw [Z3h,Zx,if_neg (by simp;omega),if_neg (by show ¬ (j:Int) < c;omega)]
    exact j1_two hN hs eA eB eC eD ⟨hA,hC,by omega,hx⟩ a
  | succ d ih =>
    intro j k a acc hj hx hd hm hk
    obtain ⟨k,rfl⟩:∃ q,k=q+1:=⟨k - 1,by omega⟩
    rw [Z3h,Zx]
    by_cases h:(j:Int) < c
    · rw [if_pos (by simp; exact h), if_pos h]
      have hsn:∀ x:api_Code,rdL x.L→∀ y∈acc ++ [x],rdL y.L:=by
        intro x hx' y hy
        rcases List.mem_append.1 hy with hy | hy
        · exact hx y hy
        · simp at hy;subst hy;exact hx'
      refine (code_two hN hs a).bindK (fun x a h5=>?_) (fun x a h5=>?_)
      · simp only
        rw [appG_ok (by simp;omega) (by decide)]
        simp only [Option.bind_some]
        rw [w64 (by omega) (by omega),show (j:Int)+1=((j+1:Nat):Int) from by omega]
        exact ih (j+1) k a (acc ++ [x]) (by simp;omega) (hsn x h5) (by omega) (by omega) (by omega)
      · obtain ⟨k, rfl⟩ : ∃ q, k = q + 1 := ⟨k - 1, by omega⟩
        simp only
        rw [appG_ok (by simp;omega) (by decide)]
        simp only [Option.bind_some]
        rw [Z3h,if_neg (by simp)]
        exact j1_bad hN hs ⟨hA,hC,by simp;omega,hsn x h5⟩ a
    · rw [if_neg (by simp; omega), if_neg h]
      exact j1_two hN hs eA eB eC eD ⟨hA,hC,by omega,hx⟩ a
theorem threads_bad {A C:List Int×leadlineref10_In} {B D:Int×leadlineref10_In} (hA:A.1.length≤2000) (hC:C.1.length≤2000) (q:Int×leadlineref10_In) (a:Int) :
    ∃ u,smallU u∧Z3h N (Z3f N s A B C D) q N ⟨s,a,true⟩ [] 0=fin N s u true:=by
  obtain ⟨M,hM⟩:∃ q,N=q+1:=⟨N - 1,by omega⟩
  have e:Z3h N (Z3f N s A B C D) q N ⟨s,a,true⟩ [] 0=Z3h N (Z3f N s A B C D) q (M+1) ⟨s,a,true⟩ [] 0:=by congr 1
  rw [e,Z3h,if_neg (by simp)]
  exact j1_bad hN hs (T:=[]) ⟨hA,hC,by simp,fun _ h=>nomatch h⟩ a
theorem unit_two:TwoK N s (Z3e N s) (Zu N ⟨s,0⟩):=by
  have l0:([]:List Int).length≤2000:=by simp
  unfold Z3e Zu
  refine (nums_two hN hs 0).bindK (fun A a hA=>?_) (fun A a hA=>?_)
  · refine (num_two hN hs a).bindK (fun B a _ => ?_) (fun B a _ => ?_)
    · refine (nums_two hN hs a).bindK (fun C a hC => ?_) (fun C a hC => ?_)
      · refine (num_two hN hs a).bindK (fun D a _ => ?_) (fun D a _ => ?_)
        · refine (many_two hN hs a).bindK (fun c a hc => ?_) (fun c a hc => ?_)
          · exact threads_loop hN hs rfl rfl rfl rfl hA hC hc s.length 0 N a [] rfl (fun _ h=>nomatch h) (by omega) (by omega) (by omega)
          · exact threads_bad hN hs hA hC _ a
        · simp only [many_bad hN hs, Option.bind_some]
          exact threads_bad hN hs hA hC _ a
      · simp only [num_bad hN hs, many_bad hN hs, Option.bind_some]
        exact threads_bad hN hs hA hC _ a
    · simp only [nums_bad hN hs, num_bad hN hs, many_bad hN hs, Option.bind_some]
      exact threads_bad hN hs (C:=([],_)) hA l0 _ a
  · simp only [nums_bad hN hs, num_bad hN hs, many_bad hN hs, Option.bind_some]
    exact threads_bad hN hs (C:=([],_)) hA l0 _ a
theorem Decode_two:∃ (u:api_Unit) (e:Int),Z0 N s=some (u,e)∧Z3e N s=some (u,e)∧smallU u:=by
  have z:smallU zeroU:=⟨by decide,by decide,by decide,by decide,(fun _ h=>nomatch h),⟨by decide,(fun _ h=>nomatch h)⟩,(fun _ h=>nomatch h)⟩
  obtain ⟨u,i,hi,hu,hr,hb⟩:=unit_two hN hs
  unfold Z0
  rw [hb,hr]
  unfold fin
  rw [REncode_eq (by omega) hu]
  cases hbad:i.Bad with
  | true=>exact ⟨zeroU,8,rfl,by simp,z⟩
  | false =>
    show ∃ (u':api_Unit) (e:Int),((Z2 N u).bind fun r59=>if ((decide (r59.2≠0)) || (decide (r59.1≠s)))=true then Z1 else some (u,0))=some (u',e)∧_∧_
    rw [Encode_eq (by omega) hu]
    simp only [Option.bind_some,Bool.false_or]
    by_cases h:((decide ((if unitB u=true then (encS u,(0:Int)) else ([],8)).2≠0)) || (decide ((if unitB u=true then (encS u,(0:Int)) else ([],8)).1≠s)))=true
    · rw [if_pos h,if_pos h];exact ⟨zeroU,8,rfl,rfl,z⟩
    · rw [if_neg h,if_neg h];exact ⟨u,0,rfl,rfl,hu⟩
end
def cutC (p:api_Code):api_Code:=⟨p.Regs,p.Counts,(p.L.take 60).map cutI⟩
theorem cutC_small (p:api_Code):small (cutC p):=by
  refine ⟨?_,fun x hx=>?_⟩
  · show ((p.L.take 60).map cutI).length ≤ 3000
    rw [List.length_map,List.length_take];omega
  · obtain ⟨y, _, rfl⟩ := List.mem_map.1 hx
    constructor
    · show (y.E.take 50).length≤3000;rw [List.length_take];omega
    · show (y.F.take 50).length≤3000;rw [List.length_take];omega
theorem cut_l3 {N:Nat} (hN:1000 < N) {u:api_Unit} {q:List api_Code→Option api_Unit}:∀ (d j k:Nat),j+d=min u.Threads.length 4→d < k→Z1o N q u k ((u.Threads.take j).map cutC) (j:Int)=q ((u.Threads.take 4).map cutC):=by
  intro d
  induction d with
  | zero =>
    intro j k hd hk
    obtain ⟨k,rfl⟩:∃ q,k=q+1:=⟨k - 1,by omega⟩
    rw [Z1o,if_neg (by simp;omega)]
    have:u.Threads.take j=u.Threads.take 4:=by
      rcases Nat.le_total 4 u.Threads.length with h | h
      · rw [show j=4 from by omega]
      · rw [List.take_of_length_le (by omega),List.take_of_length_le h]
    rw [this]
  | succ d ih =>
    intro j k hd hk
    obtain ⟨k,rfl⟩:∃ q,k=q+1:=⟨k - 1,by omega⟩
    have hj:j < u.Threads.length:=by omega
    rw [Z1o,if_pos (by simp;omega),getI_at rfl hj]
    simp only [Option.bind_some]
    rw [CutCode_eq (by omega)]
    simp only [Option.bind_some]
    rw [appG_ok (by simp;omega) (by decide)]
    simp only [Option.bind_some]
    rw [wsucc (n:=60) (by omega) (by decide)]
    have rc:=ih (j+1) k (by omega) (by omega)
    rw [List.take_succ_eq_append_getElem hj,List.map_append] at rc
    exact rc
theorem cut_l5 {N:Nat} {u:api_Unit} {q:List (List api_Op)→Option api_Unit}:∀ (d j k:Nat),j+d=min u.Claims.length 5→d < k→Z1p N q u k ((u.Claims.take j).map (List.take 50)) (j:Int)=q ((u.Claims.take 5).map (List.take 50)):=by
  intro d
  induction d with
  | zero =>
    intro j k hd hk
    obtain ⟨k,rfl⟩:∃ q,k=q+1:=⟨k - 1,by omega⟩
    rw [Z1p,if_neg (by simp;omega)]
    have:u.Claims.take j=u.Claims.take 5:=by
      rcases Nat.le_total 5 u.Claims.length with h | h
      · rw [show j=5 from by omega]
      · rw [List.take_of_length_le (by omega),List.take_of_length_le h]
    rw [this]
  | succ d ih =>
    intro j k hd hk
    obtain ⟨k,rfl⟩:∃ q,k=q+1:=⟨k - 1,by omega⟩
    have hj:j < u.Claims.length:=by omega
    rw [Z1p,if_pos (by simp;omega),getI_at rfl hj]
    simp only [Option.bind_some]
    rw [show (50:Int)=((50:Nat):Int) from rfl,sub50]
    simp only [Option.bind_some]
    rw [appG_ok (by simp;omega) (by decide)]
    simp only [Option.bind_some]
    rw [wsucc (n:=60) (by omega) (by decide)]
    have rc:=ih (j+1) k (by omega) (by omega)
    rw [List.take_succ_eq_append_getElem hj,List.map_append] at rc
    exact rc
def cutU (u:api_Unit):api_Unit:=⟨u.Lines.take 10,u.Stays,u.Firsts.take 10,u.Locks,(u.Threads.take 4).map cutC,cutC u.Recover,(u.Claims.take 5).map (List.take 50)⟩
theorem Cut_eq {N:Nat} (hN:1000 < N) (u:api_Unit):Z1h N u=some (cutU u):=by
  unfold Z1h
  rw [show (10:Int)=((10:Nat):Int) from rfl,sub50]
  simp only [Option.bind_some]
  rw [sub50]
  simp only [Option.bind_some]
  rw [CutCode_eq (by omega)]
  simp only [Option.bind_some]
  unfold Z1l
  have h3:=cut_l3 hN (u:=u) (q:=Z1m N u (u.Lines.take 10) (u.Firsts.take 10) u.Recover.Regs u.Recover.Counts ((u.Recover.L.take 60).map cutI)) (min u.Threads.length 4) 0 N (by omega) (by omega)
  refine Eq.trans h3 ?_
  unfold Z1m
  have h5:=cut_l5 (N:=N) (u:=u) (q:=Z1n u (u.Lines.take 10) (u.Firsts.take 10) u.Recover.Regs u.Recover.Counts ((u.Recover.L.take 60).map cutI) ((u.Threads.take 4).map cutC)) (min u.Claims.length 5) 0 N (by omega) (by omega)
  exact h5
theorem cutU_small (u:api_Unit):smallU (cutU u):=by
  refine ⟨?_,?_,?_,?_,fun c hc=>?_,cutC_small _,fun c hc=>?_⟩
  · show (u.Lines.take 10).length≤3000;rw [List.length_take];omega
  · show (u.Firsts.take 10).length≤3000;rw [List.length_take];omega
  · show ((u.Threads.take 4).map cutC).length≤3000;rw [List.length_map,List.length_take];omega
  · show ((u.Claims.take 5).map (List.take 50)).length≤3000;rw [List.length_map,List.length_take];omega
  · obtain ⟨y,_,rfl⟩:=List.mem_map.1 hc;exact cutC_small y
  · obtain ⟨y,_,rfl⟩:=List.mem_map.1 hc;rw [List.length_take];omega
theorem ints_self {N:Nat} {l:List Int} (hl:l.length≤3000) (hN:3000 < N):Z1s N l l=some true:=by
  unfold Z1s
  rw [if_neg (by simp)]
  have:∀ (d j n:Nat),j+d=l.length→d < n→Z1u N Z1t l l n (j:Int)=some true:=by
    intro d
    induction d with
    | zero =>
      intro j n hj hn
      obtain ⟨n,rfl⟩:∃ m,n=m+1:=⟨n - 1,by omega⟩
      rw [Z1u,if_neg (by omega)];rfl
    | succ d ih =>
      intro j n hj hn
      obtain ⟨n,rfl⟩:∃ m,n=m+1:=⟨n - 1,by omega⟩
      have h1:j < l.length:=by omega
      rw [Z1u,if_pos (by omega),getI_at rfl h1]
      simp only [Option.bind_some]
      rw [if_neg (by simp),wsucc h1 (by omega)]
      exact ih (j+1) n (by omega) (by omega)
  exact this l.length 0 N (by omega) (by omega)
theorem ops_self {N:Nat} {l:List api_Op} (hl:l.length≤3000) (hN:3000 < N):Z1y N l l=some true:=by
  unfold Z1y
  rw [if_neg (by simp)]
  have:∀ (d j n:Nat),j+d=l.length→d < n→Z20 N Z1z l l n (j:Int)=some true:=by
    intro d
    induction d with
    | zero =>
      intro j n hj hn
      obtain ⟨n,rfl⟩:∃ m,n=m+1:=⟨n - 1,by omega⟩
      rw [Z20,if_neg (by omega)];rfl
    | succ d ih =>
      intro j n hj hn
      obtain ⟨n,rfl⟩:∃ m,n=m+1:=⟨n - 1,by omega⟩
      have h1:j < l.length:=by omega
      rw [Z20,if_pos (by omega),getI_at rfl h1]
      simp only [Option.bind_some]
      rw [if_neg (by simp),wsucc h1 (by omega)]
      exact ih (j+1) n (by omega) (by omega)
  exact this l.length 0 N (by omega) (by omega)
theorem code_self {N:Nat} {p:api_Code} (hp:small p) (hN:3000 < N):Z35 N p p=some true:=by
  unfold Z35
  rw [if_neg (by simp)]
  have hl:=hp.1
  have:∀ (d j n:Nat),j+d=p.L.length→d < n→Z39 N Z36 p p n (j:Int)=some true:=by
    intro d
    induction d with
    | zero =>
      intro j n hj hn
      obtain ⟨n,rfl⟩:∃ m,n=m+1:=⟨n - 1,by omega⟩
      rw [Z39,if_neg (by omega)];rfl
    | succ d ih =>
      intro j n hj hn
      obtain ⟨n,rfl⟩:∃ m,n=m+1:=⟨n - 1,by omega⟩
      have h1:j < p.L.length:=by omega
      have hm:=hp.2 _ (List.getElem_mem h1)
      rw [Z39,if_pos (by omega),getI_at rfl h1]
      simp only [Option.bind_some]
      rw [Z37,if_neg (by simp),ops_self hm.1 hN]
      simp only [Option.bind_some]
      rw [if_pos trivial,ops_self hm.2 hN]
      simp only [Option.bind_some]
      rw [Z38,if_neg (by simp),wsucc h1 (by omega)]
      exact ih (j+1) n (by omega) (by omega)
  exact this p.L.length 0 N (by omega) (by omega)
theorem unit_self {N:Nat} {u:api_Unit} (hu:smallU u) (hN:3000 < N):Z2p N u u=some true:=by
  obtain ⟨s1,s2,s3,s4,s5,s6,s7⟩:=hu
  unfold Z2p
  rw [ints_self s1 hN]
  simp only [Option.bind_some]
  rw [if_neg (by simp),ints_self s2 hN]
  simp only [Option.bind_some]
  rw [Z2q,if_neg (by simp)]
  have c5:∀ (d j n:Nat),j+d=u.Claims.length→d < n→Z2u N (Z2s N u u) u u n (j:Int)=some true:=by
    intro d
    induction d with
    | zero =>
      intro j n hj hn
      obtain ⟨n,rfl⟩:∃ m,n=m+1:=⟨n - 1,by omega⟩
      rw [Z2u,if_neg (by omega),Z2s,code_self s6 hN];rfl
    | succ d ih =>
      intro j n hj hn
      obtain ⟨n,rfl⟩:∃ m,n=m+1:=⟨n - 1,by omega⟩
      have h1:j < u.Claims.length:=by omega
      rw [Z2u,if_pos (by omega),getI_at rfl h1]
      simp only [Option.bind_some]
      rw [ops_self (s7 _ (List.getElem_mem h1)) hN]
      simp only [Option.bind_some]
      rw [if_pos trivial,wsucc h1 (by omega)]
      exact ih (j+1) n (by omega) (by omega)
  have c3:∀ (d j n:Nat),j+d=u.Threads.length→d < n→Z2t N (Z2r N u u) u u n (j:Int)=some true:=by
    intro d
    induction d with
    | zero =>
      intro j n hj hn
      obtain ⟨n,rfl⟩:∃ m,n=m+1:=⟨n - 1,by omega⟩
      rw [Z2t,if_neg (by omega),Z2r]
      exact c5 u.Claims.length 0 N (by omega) (by omega)
    | succ d ih =>
      intro j n hj hn
      obtain ⟨n,rfl⟩:∃ m,n=m+1:=⟨n - 1,by omega⟩
      have h1:j < u.Threads.length:=by omega
      rw [Z2t,if_pos (by omega),getI_at rfl h1]
      simp only [Option.bind_some]
      rw [code_self (s5 _ (List.getElem_mem h1)) hN]
      simp only [Option.bind_some]
      rw [if_pos trivial,wsucc h1 (by omega)]
      exact ih (j+1) n (by omega) (by omega)
  exact c3 u.Threads.length 0 N (by omega) (by omega)
theorem BinaryTexts_eq (u:api_Unit) (s:Str):Z1q 200001 u s=some true:=by
  unfold Z1q
  rw [Cut_eq (by decide)]
  simp only [Option.bind_some]
  rw [show (2000:Int)=((2000:Nat):Int) from rfl,sub50]
  simp only [Option.bind_some]
  have hl:(s.take 2000).length≤2000:=by rw [List.length_take];omega
  obtain ⟨v,e,h1,h2,hv⟩:=Decode_two (N:=200001) (by decide) hl
  rw [Encode_eq (by decide) (cutU_small u),REncode_eq (by decide) (cutU_small u),h1,h2]
  simp only [Option.bind_some,decide_true,Bool.and_self]
  rw [if_pos trivial,unit_self hv (by decide)]
  simp only [Option.bind_some,Bool.and_self]
  rw [if_pos trivial,fixedB]
  rfl
end Go.MD.BINZ
