/- Encode, both ways. No condition: plain lemmas. -/
import Derived.Test.YtbblmeecfimnkaaGreatDoorBPV
namespace Go.MD.BINZ
open Go Go.MD
theorem Ay (n:Int):(Ap n).length≤6:=by
  unfold Ap;split
  · exact Ra _ _
  · simp
def Bm (xs:List Int):Str:=Ap (xs.length:Int) ++ xs.flatMap Ap
def opS (o:api_Op):Str:=Ap o.Kind ++ Ap o.N
def Bf (l:List api_Op):Str:=Ap (l.length:Int) ++ l.flatMap opS
def Dh (x:api_Instr):Str:=Ap x.Kind ++ (Ap x.A ++ (Ap x.B ++ (Ap x.To ++ (Bf x.E ++ Bf x.F))))
def Bn (p:api_Code):Str:=Ap p.Regs ++ (Ap p.Counts ++ (Ap (p.L.length:Int) ++ p.L.flatMap Dh))
def Dw (u:api_Unit):Str:=Bm u.Lines ++ (Ap u.Stays ++ (Bm u.Firsts ++ (Ap u.Locks ++ (Ap (u.Threads.length:Int) ++ (u.Threads.flatMap Bn ++ (Bn u.Recover ++ (Ap (u.Claims.length:Int) ++ u.Claims.flatMap Bf)))))))
theorem flat_len {α:Type} {f:α→Str} {m:Nat}:∀ {l:List α},(∀ x∈l,(f x).length≤m)→(l.flatMap f).length≤m * l.length
  | [],_=>by simp
  | x :: r, h => by
    have h1:=h x (by simp)
    have h2:=flat_len (l:=r) (fun y hy=>h y (List.mem_cons_of_mem _ hy))
    rw [List.flatMap_cons,List.length_append,List.length_cons,Nat.mul_succ];omega
theorem JaG (o:api_Op):(opS o).length≤12:=by
  have h1:=Ay o.Kind
  have h2:=Ay o.N
  unfold opS;rw [List.length_append];omega
theorem Er {l:List api_Op} (hl:l.length≤40):(Bf l).length≤486:=by
  have h1:=Ay (l.length:Int)
  have h2:=flat_len (f:=opS) (l:=l) (m:=12) (fun o _=>JaG o)
  unfold Bf;rw [List.length_append];omega
theorem Mh {x:api_Instr} (hE:x.E.length≤40) (hF:x.F.length≤40):(Dh x).length≤996:=by
  have h1:=Ay x.Kind
  have h2:=Ay x.A
  have h3:=Ay x.B
  have h4:=Ay x.To
  have h5:=Er hE
  have h6:=Er hF
  unfold Dh;simp only [List.length_append];omega
def N7 (p:api_Code):Prop:=p.L.length≤300000∧∀ x∈p.L,x.E.length≤40∧x.F.length≤40
theorem Kl {p:api_Code} (h:N7 p):(Bn p).length≤298800018:=by
  have h1:=Ay p.Regs
  have h2:=Ay p.Counts
  have h3:=Ay (p.L.length:Int)
  have h4:=flat_len (f:=Dh) (l:=p.L) (m:=996) (fun x hx=>Mh (h.2 x hx).1 (h.2 x hx).2)
  have h5:=h.1
  unfold Bn;simp only [List.length_append];omega
section
variable {N:Nat} (hN:300001 < N)
include hN
theorem Cx {s:Str} (n:Int) (hs:s.length≤100000000000000):Z15 N s n=some (s ++ Ap n):=by
  have:=Ay n
  unfold Z15
  rw [JbH (by omega)]
  simp only [Option.bind_some]
  unfold Px
  rw [if_pos (by omega)];rfl
theorem Wk {l:List Int} (hl:l.length≤300000):∀ (b a:List Int) (k:Nat) (s:Str),a ++ b=l→b.length < k→s.length+6 * b.length≤100000000000000→Z17 N l k s ((a.length:Nat):Int)=some (s ++ b.flatMap Ap):=by
  intro b
  induction b with
  | nil =>
    intro a k s ha hk _
    obtain ⟨k,rfl⟩:∃ q,k=q+1:=⟨k - 1,by omega⟩
    rw [List.append_nil] at ha
    rw [Z17,if_neg (by rw [← ha];omega)];simp
  | cons x b ih =>
    intro a k s ha hk hs
    obtain ⟨k,rfl⟩:∃ q,k=q+1:=⟨k - 1,by omega⟩
    have hla:a.length < l.length:=by rw [← ha];simp
    have hge:getI l ((a.length:Nat):Int)=some x:=by rw [Cl,← ha];simp
    have hp:=Ay x
    have rc:=ih (a ++ [x]) k (s ++ Ap x) (by rw [← ha];simp) (by simpa using hk) (by simp only [List.length_append,List.length_cons] at hs ⊢;omega)
    simp only [List.length_append,List.length_cons,List.length_nil,Nat.zero_add] at rc
    rw [Z17,if_pos (by omega),hge]
    simp only [Option.bind_some]
    rw [Cx hN x (by omega)]
    simp only [Option.bind_some]
    rw [Bd hla (by omega),rc,List.flatMap_cons,List.append_assoc]
theorem Qo {l:List Int} (hl:l.length≤300000) {s:Str} (hs:s.length≤90000000000000):Z16 N s l=some (s ++ Bm l):=by
  have hp:=Ay (l.length:Int)
  unfold Z16 Bm
  rw [Cx hN _ (by omega)]
  simp only [Option.bind_some]
  have:=Wk hN hl l [] N (s ++ Ap (l.length:Int)) rfl (by omega) (by rw [List.length_append];omega)
  refine Eq.trans this ?_
  rw [List.append_assoc]
theorem Wa {l:List api_Op} (hl:l.length≤300000):∀ (b a:List api_Op) (k:Nat) (s:Str),a ++ b=l→b.length < k→s.length+12 * b.length≤100000000000000→Z19 N l k s ((a.length:Nat):Int)=some (s ++ b.flatMap opS):=by
  intro b
  induction b with
  | nil =>
    intro a k s ha hk _
    obtain ⟨k,rfl⟩:∃ q,k=q+1:=⟨k - 1,by omega⟩
    rw [List.append_nil] at ha
    rw [Z19,if_neg (by rw [← ha];omega)];simp
  | cons x b ih =>
    intro a k s ha hk hs
    obtain ⟨k,rfl⟩:∃ q,k=q+1:=⟨k - 1,by omega⟩
    have hla:a.length < l.length:=by rw [← ha];simp
    have hge:getI l ((a.length:Nat):Int)=some x:=by rw [Cl,← ha];simp
    have hp:=Ay x.Kind
    have hp2:=Ay x.N
    have rc:=ih (a ++ [x]) k (s ++ Ap x.Kind ++ Ap x.N) (by rw [← ha];simp) (by simpa using hk) (by simp only [List.length_append,List.length_cons] at hs ⊢;omega)
    simp only [List.length_append,List.length_cons,List.length_nil,Nat.zero_add] at rc hs
    rw [Z19,if_pos (by omega),hge]
    simp only [Option.bind_some]
    rw [Cx hN x.Kind (by omega)]
    simp only [Option.bind_some]
    rw [Cx hN x.N (by rw [List.length_append];omega)]
    simp only [Option.bind_some]
    rw [Bd hla (by omega),rc,List.flatMap_cons]
    unfold opS
    simp only [List.append_assoc]
theorem Ko {l:List api_Op} (hl:l.length≤300000) {s:Str} (hs:s.length≤90000000000000):Z18 N s l=some (s ++ Bf l):=by
  have hp:=Ay (l.length:Int)
  unfold Z18 Bf
  rw [Cx hN _ (by omega)]
  simp only [Option.bind_some]
  have:=Wa hN hl l [] N (s ++ Ap (l.length:Int)) rfl (by omega) (by rw [List.length_append];omega)
  refine Eq.trans this ?_
  rw [List.append_assoc]
theorem Xx {p:api_Code} (hp:N7 p):∀ (b a:List api_Instr) (k:Nat) (s:Str),a ++ b=p.L→b.length < k→s.length+996 * b.length≤80000000000000→Z14 N p k s ((a.length:Nat):Int)=some (s ++ b.flatMap Dh):=by
  intro b
  induction b with
  | nil =>
    intro a k s ha hk _
    obtain ⟨k,rfl⟩:∃ q,k=q+1:=⟨k - 1,by omega⟩
    rw [List.append_nil] at ha
    rw [Z14,if_neg (by rw [← ha];omega)];simp
  | cons x b ih =>
    intro a k s ha hk hs
    obtain ⟨k,rfl⟩:∃ q,k=q+1:=⟨k - 1,by omega⟩
    have hla:a.length < p.L.length:=by rw [← ha];simp
    have hge:getI p.L ((a.length:Nat):Int)=some x:=by rw [Cl,← ha];simp
    have hm:=hp.2 x (by rw [← ha];simp)
    have hm1:=hm.1
    have hm2:=hm.2
    have h1:=Ay x.Kind
    have h2:=Ay x.A
    have h3:=Ay x.B
    have h4:=Ay x.To
    have h5:=Er hm.1
    have h6:=Mh hm.1 hm.2
    have hll:=hp.1
    have rc:=ih (a ++ [x]) k (s ++ Dh x) (by rw [← ha];simp) (by simpa using hk) (by simp only [List.length_append,List.length_cons] at hs ⊢;omega)
    simp only [List.length_append,List.length_cons,List.length_nil,Nat.zero_add] at rc hs
    rw [Z14,if_pos (by omega),hge]
    simp only [Option.bind_some]
    rw [Cx hN x.Kind (by omega)]
    simp only [Option.bind_some]
    rw [Cx hN x.A (by simp only [List.length_append];omega)]
    simp only [Option.bind_some]
    rw [Cx hN x.B (by simp only [List.length_append];omega)]
    simp only [Option.bind_some]
    rw [Cx hN x.To (by simp only [List.length_append];omega)]
    simp only [Option.bind_some]
    rw [Ko hN (by omega) (by simp only [List.length_append];omega)]
    simp only [Option.bind_some]
    rw [Ko hN (by omega) (by simp only [List.length_append];omega)]
    simp only [Option.bind_some]
    rw [Bd hla (by omega)]
    have e:s ++ Ap x.Kind ++ Ap x.A ++ Ap x.B ++ Ap x.To ++ Bf x.E ++ Bf x.F=s ++ Dh x:=by unfold Dh;simp only [List.append_assoc]
    rw [e,rc,List.flatMap_cons,List.append_assoc]
theorem Rv {p:api_Code} (hp:N7 p) {s:Str} (hs:s.length≤70000000000000):Z13 N s p=some (s ++ Bn p):=by
  have h1:=Ay p.Regs
  have h2:=Ay p.Counts
  have h3:=Ay (p.L.length:Int)
  have h4:=hp.1
  unfold Z13 Bn
  rw [Cx hN _ (by omega)]
  simp only [Option.bind_some]
  rw [Cx hN _ (by simp only [List.length_append];omega)]
  simp only [Option.bind_some]
  rw [Cx hN _ (by simp only [List.length_append];omega)]
  simp only [Option.bind_some]
  have:=Xx hN hp p.L [] N (s ++ Ap p.Regs ++ Ap p.Counts ++ Ap (p.L.length:Int)) rfl (by omega) (by simp only [List.length_append];omega)
  refine Eq.trans this ?_
  simp only [List.append_assoc]
end
end Go.MD.BINZ
namespace Go.MD.BINZ
open Go Go.MD
def Si (u:api_Unit):Prop:=u.Lines.length≤300000∧u.Firsts.length≤300000∧u.Threads.length≤3∧u.Claims.length≤300000∧(∀ c∈u.Threads,N7 c)∧N7 u.Recover∧∀ c∈u.Claims,c.length≤40
theorem Jo {l:List api_Op} {m:Int} (h:De l m=true):l.length≤40:=by
  unfold De at h
  simp only [Bool.and_eq_true,decide_eq_true_eq] at h
  exact h.1.1
theorem Ms {p:api_Code} {p4 p5 p6:Int} (h:Gy p p4 p5 p6=true) (hs:small p):N7 p:=by
  unfold Gy at h
  simp only [Bool.and_eq_true] at h
  obtain ⟨_,hi,_⟩:=h
  refine ⟨hs.1,fun x hx=>?_⟩
  obtain ⟨i,hi',rfl⟩:=List.mem_iff_getElem.1 hx
  have hb:=List.all_eq_true.1 hi i (by rw [← List.range_eq_range'];exact List.mem_range.2 hi')
  unfold Nc at hb
  rw [List.getElem?_eq_getElem hi'] at hb
  simp only [Bool.and_eq_true] at hb
  have h1:=hb.1
  unfold Cn at h1
  simp only [Bool.and_eq_true] at h1
  obtain ⟨_,_,_,he,hf⟩:=h1
  constructor
  · unfold fE at he
    split at he
    · exact Jo he
    · have:=of_decide_eq_true he;omega
  · unfold fF at hf
    split at hf
    · exact Jo hf
    · have:=of_decide_eq_true hf;omega
theorem Sc {u:api_Unit} (h:Em u=true) (hs:Cy u):Si u:=by
  unfold Em Vp at h
  simp only [Bool.and_eq_true,Bool.not_eq_true',Bool.or_eq_false_iff,decide_eq_false_iff_not] at h
  obtain ⟨⟨⟨⟨⟨⟨⟨⟨o1,o2⟩,o3⟩,o4⟩,o5⟩,o6⟩,o7⟩,o8⟩,hl,hf,ht,hr,hc⟩:=h
  obtain ⟨s1,s2,s3,s4,s5,s6,s7⟩:=hs
  exact ⟨s1,s2,by omega,s4,fun p hp=>Ms (List.all_eq_true.1 ht p hp) (s5 p hp),Ms hr s6,fun l hl'=>Jo (List.all_eq_true.1 hc l hl')⟩
section
variable {N:Nat} (hN:300001 < N)
include hN
theorem Yn {u:api_Unit} {q:Str→Option (Str×Int)} (hu:Si u):∀ (b a:List api_Code) (k:Nat) (s:Str),a ++ b=u.Threads→b.length < k→s.length+298800018 * b.length≤60000000000000→Z5 N q u k s ((a.length:Nat):Int)=q (s ++ b.flatMap Bn):=by
  intro b
  induction b with
  | nil =>
    intro a k s ha hk _
    obtain ⟨k,rfl⟩:∃ q,k=q+1:=⟨k - 1,by omega⟩
    rw [List.append_nil] at ha
    rw [Z5,if_neg (by rw [← ha];omega)];simp
  | cons x b ih =>
    intro a k s ha hk hs
    obtain ⟨k,rfl⟩:∃ q,k=q+1:=⟨k - 1,by omega⟩
    have hla:a.length < u.Threads.length:=by rw [← ha];simp
    have hge:getI u.Threads ((a.length:Nat):Int)=some x:=by rw [Cl,← ha];simp
    have hm:=hu.2.2.2.2.1 x (by rw [← ha];simp)
    have hc:=Kl hm
    have hll:=hu.2.2.1
    have rc:=ih (a ++ [x]) k (s ++ Bn x) (by rw [← ha];simp) (by simpa using hk) (by simp only [List.length_append,List.length_cons] at hs ⊢;omega)
    simp only [List.length_append,List.length_cons,List.length_nil,Nat.zero_add] at rc hs
    rw [Z5,if_pos (by omega),hge]
    simp only [Option.bind_some]
    rw [Rv hN hm (by omega)]
    simp only [Option.bind_some]
    rw [Bd hla (by omega),rc,List.flatMap_cons,List.append_assoc]
theorem JaR {u:api_Unit} {q:Str→Option (Str×Int)} (hu:Si u):∀ (b a:List (List api_Op)) (k:Nat) (s:Str),a ++ b=u.Claims→b.length < k→s.length+486 * b.length≤60000000000000→Z6 N q u k s ((a.length:Nat):Int)=q (s ++ b.flatMap Bf):=by
  intro b
  induction b with
  | nil =>
    intro a k s ha hk _
    obtain ⟨k,rfl⟩:∃ q,k=q+1:=⟨k - 1,by omega⟩
    rw [List.append_nil] at ha
    rw [Z6,if_neg (by rw [← ha];omega)];simp
  | cons x b ih =>
    intro a k s ha hk hs
    obtain ⟨k,rfl⟩:∃ q,k=q+1:=⟨k - 1,by omega⟩
    have hla:a.length < u.Claims.length:=by rw [← ha];simp
    have hge:getI u.Claims ((a.length:Nat):Int)=some x:=by rw [Cl,← ha];simp
    have hm:=hu.2.2.2.2.2.2 x (by rw [← ha];simp)
    have hc:=Er hm
    have hll:=hu.2.2.2.1
    have rc:=ih (a ++ [x]) k (s ++ Bf x) (by rw [← ha];simp) (by simpa using hk) (by simp only [List.length_append,List.length_cons] at hs ⊢;omega)
    simp only [List.length_append,List.length_cons,List.length_nil,Nat.zero_add] at rc hs
    rw [Z6,if_pos (by omega),hge]
    simp only [Option.bind_some]
    rw [Ko hN (by omega) (by omega)]
    simp only [Option.bind_some]
    rw [Bd hla (by omega),rc,List.flatMap_cons,List.append_assoc]
omit hN in
theorem Ob {l:List Int} (hl:l.length≤300000):(Bm l).length≤1800006:=by
  have h1:=Ay (l.length:Int)
  have h2:=flat_len (f:=Ap) (l:=l) (m:=6) (fun x _=>Ay x)
  unfold Bm;rw [List.length_append];omega
omit hN in
theorem Mz (u:api_Unit) (h:u.Lines.length≤300000):Dw u≠[]:=by
  intro e
  have h1:1≤(Ap (u.Lines.length:Int)).length:=by
    unfold Ap
    rw [if_pos (by omega)]
    obtain ⟨m,hm⟩:∃ m,Iw 6 (u.Lines.length:Int).toNat=m:=⟨_,rfl⟩
    rw [Iw];split <;> simp
  have h2:(Dw u).length=0:=by rw [e];rfl
  unfold Dw Bm at h2
  simp only [List.length_append] at h2
  omega
theorem N2 {u:api_Unit} (hu:Cy u):Z2 N u=some (if Em u=true then (Dw u,0) else ([],8)):=by
  unfold Z2
  rw [Ut (by omega) hu]
  simp only [Option.bind_some]
  cases hb:Em u with
  | false=>rfl
  | true =>
    have hu:=Sc hb hu
    obtain ⟨s1,s2,s3,s4,s5,s6,s7⟩:=id hu
    have n1:=Ob s1
    have n2:=Ob s2
    have p1:=Ay u.Stays
    have p2:=Ay u.Locks
    have p3:=Ay (u.Threads.length:Int)
    have p4:=Ay (u.Claims.length:Int)
    have c1:=flat_len (f:=Bn) (l:=u.Threads) (m:=298800018) (fun x hx=>Kl (s5 x hx))
    have c2:=Kl s6
    have c3:=flat_len (f:=Bf) (l:=u.Claims) (m:=486) (fun x hx=>Er (s7 x hx))
    rw [if_pos rfl,if_pos rfl,Qo hN s1 (by simp)]
    simp only [Option.bind_some,List.nil_append]
    rw [Cx hN _ (by omega)]
    simp only [Option.bind_some]
    rw [Qo hN s2 (by simp only [List.length_append];omega)]
    simp only [Option.bind_some]
    rw [Cx hN _ (by simp only [List.length_append];omega)]
    simp only [Option.bind_some]
    rw [Cx hN _ (by simp only [List.length_append];omega)]
    simp only [Option.bind_some]
    have h2:=Yn hN (q:=Z3 N u) hu u.Threads [] N (Bm u.Lines ++ Ap u.Stays ++ Bm u.Firsts ++ Ap u.Locks ++ Ap (u.Threads.length:Int)) rfl (by omega) (by simp only [List.length_append];omega)
    refine Eq.trans h2 ?_
    unfold Z3
    rw [Rv hN s6 (by simp only [List.length_append];omega)]
    simp only [Option.bind_some]
    rw [Cx hN _ (by simp only [List.length_append];omega)]
    simp only [Option.bind_some]
    have h4:=JaR hN (q:=Z4) hu u.Claims [] N (Bm u.Lines ++ Ap u.Stays ++ Bm u.Firsts ++ Ap u.Locks ++ Ap (u.Threads.length:Int) ++ u.Threads.flatMap Bn ++ Bn u.Recover ++ Ap (u.Claims.length:Int)) rfl (by omega) (by simp only [List.length_append];omega)
    refine Eq.trans h4 ?_
    have e:Bm u.Lines ++ Ap u.Stays ++ Bm u.Firsts ++ Ap u.Locks ++ Ap (u.Threads.length:Int) ++ u.Threads.flatMap Bn ++ Bn u.Recover ++ Ap (u.Claims.length:Int) ++ u.Claims.flatMap Bf=Dw u:=by
      unfold Dw;simp only [List.append_assoc]
    rw [e]
    unfold Z4 neG
    rw [if_neg (Mz u s1)]
    rfl
end
end Go.MD.BINZ
namespace Go.MD.BINZ
open Go Go.MD
def Two {α:Type} (s:Str) (Q:α→Prop) (r:Option (α×leadlineref10_In)) (b:Option (Option (α×binary_reader))):Prop:=
  ∃ (x:α) (i:leadlineref10_In),r=some (x,i)∧i.S=s∧Q x∧b=some (if i.Bad=true then none else some (x,⟨s,i.At⟩))
theorem Xi {i:leadlineref10_In} {s:Str} (h:i.S=s) (hb:i.Bad=true):i=⟨s,i.At,true⟩:=by
  obtain ⟨a,b,c⟩:=i;simp only at h hb;subst h;subst hb;rfl
theorem Jbd {i:leadlineref10_In} {s:Str} (h:i.S=s) (hb:i.Bad=false):i=⟨s,i.At,false⟩:=by
  obtain ⟨a,b,c⟩:=i;simp only at h hb;subst h;subst hb;rfl
theorem Two.bind {α β:Type} {s:Str} {Q:α→Prop} {R:β→Prop} {r:Option (α×leadlineref10_In)} {b:Option (Option (α×binary_reader))} {kr:α×leadlineref10_In→Option (β×leadlineref10_In)} {kb:α×binary_reader→Option (Option (β×binary_reader))}
    (h:Two s Q r b) (ok:∀ x a,Q x→Two s R (kr (x,⟨s,a,false⟩)) (kb (x,⟨s,a⟩))) (bad:∀ x a,Q x→∃ y c,R y∧kr (x,⟨s,a,true⟩)=some (y,⟨s,c,true⟩)):Two s R (r.bind kr) (b.bindP kb):=by
  obtain ⟨x,i,rfl,hs,hq,rfl⟩:=h
  cases hb:i.Bad with
  | true =>
    obtain ⟨y,c,hy,e⟩:=bad x i.At hq
    rw [Xi hs hb] at *
    exact ⟨y,⟨s,c,true⟩,e,rfl,hy,rfl⟩
  | false =>
    have:=ok x i.At hq
    rw [Jbd hs hb]
    exact this
section
variable {N:Nat} (hN:300001 < N) {s:Str} (hs:s.length≤250000)
include hN hs
theorem Dz (a:Int):Two s (fun _=>True) (Z89 N ⟨s,a,false⟩) (Zn N ⟨s,a⟩):=by
  unfold Z89 Zn
  rw [Uq (by omega) (by show s.length≤1000000;omega),Xk (by omega) (by show s.length≤1000000;omega)]
  simp only [Option.bind_some,Bool.false_or]
  by_cases h:(Rf s a).2.2≠0
  · rw [if_pos (decide_eq_true h), if_pos h]
    exact ⟨0,⟨s,a,true⟩,rfl,rfl,trivial,rfl⟩
  · rw [if_neg (by simpa using h), if_neg h]
    exact ⟨_,⟨s,_,false⟩,rfl,rfl,trivial,rfl⟩
theorem Es (a:Int):Z89 N ⟨s,a,true⟩=some (0,⟨s,a,true⟩):=by
  unfold Z89
  rw [Uq (by omega) (by show s.length≤1000000;omega)]
  rfl
theorem H4 (a:Int):Two s (fun n=>n≤(s.length:Int)) (Z88 N ⟨s,a,false⟩) (Zm N ⟨s,a⟩):=by
  unfold Z88 Zm
  refine (Dz hN hs a).bind (fun x a _=>?_) (fun x a _=>?_)
  · by_cases h : (s.length : Int) < x
    · simp only [if_pos h]
      exact ⟨0,⟨s,a,true⟩,rfl,rfl,by omega,rfl⟩
    · simp only [if_neg h]
      exact ⟨x,⟨s,a,false⟩,rfl,rfl,by omega,rfl⟩
  · by_cases h : (s.length : Int) < x
    · exact ⟨0,a,by omega,by simp only [if_pos h]⟩
    · exact ⟨x,a,by omega,by simp only [if_neg h]⟩
theorem Dk (a:Int):Z88 N ⟨s,a,true⟩=some (0,⟨s,a,true⟩):=by
  unfold Z88
  rw [Es hN hs]
  simp only [Option.bind_some]
  rw [if_neg (by show ¬ (s.length:Int) < 0;omega)]
theorem Ur {c:Int} {i0:leadlineref10_In} {r0:binary_reader} (hc:c≤(s.length:Int)):∀ (d:Nat) (j k:Nat) (a:Int) (acc:List Int),acc.length=j→(j:Int)+d≥c→(j:Int)≤max c 0→d < k→
    Two s (fun l:List Int=>l.length≤250000) (Z8c N Z8b (c,i0) k ⟨s,a,false⟩ acc (j:Int)) (Zq N Zp (c,r0) k ⟨s,a⟩ acc (j:Int)):=by
  intro d
  induction d with
  | zero =>
    intro j k a acc hj hd hm hk
    obtain ⟨k,rfl⟩:∃ q,k=q+1:=⟨k - 1,by omega⟩
    rw [Z8c,Zq,if_neg (by simp;omega),if_neg (by show ¬ (j:Int) < c;omega)]
    exact ⟨acc,⟨s,a,false⟩,rfl,rfl,by omega,rfl⟩
  | succ d ih =>
    intro j k a acc hj hd hm hk
    obtain ⟨k,rfl⟩:∃ q,k=q+1:=⟨k - 1,by omega⟩
    rw [Z8c,Zq]
    by_cases h:(j:Int) < c
    · rw [if_pos (by simp; exact h), if_pos h]
      refine (Dz hN hs a).bind (fun x a _=>?_) (fun x a _=>?_)
      · simp only
        rw [Az (by simp;omega) (by decide)]
        simp only [Option.bind_some]
        rw [w64 (by omega) (by omega),show (j:Int)+1=((j+1:Nat):Int) from by omega]
        exact ih (j+1) k a (acc ++ [x]) (by simp;omega) (by omega) (by omega) (by omega)
      · obtain ⟨k, rfl⟩ : ∃ q, k = q + 1 := ⟨k - 1, by omega⟩
        simp only
        rw [Az (by simp;omega) (by decide)]
        simp only [Option.bind_some]
        rw [Z8c,if_neg (by simp)]
        exact ⟨acc ++ [x],a,by simp;omega,rfl⟩
    · rw [if_neg (by simp; omega), if_neg h]
      exact ⟨acc,⟨s,a,false⟩,rfl,rfl,by omega,rfl⟩
theorem Qk (a:Int):Two s (fun l:List Int=>l.length≤250000) (Z8a N ⟨s,a,false⟩) (Zo N ⟨s,a⟩):=by
  unfold Z8a Zo
  refine (H4 hN hs a).bind (fun c a hc=>?_) (fun c a hc=>?_)
  · exact Ur hN hs hc s.length 0 N a [] rfl (by omega) (by omega) (by omega)
  · obtain ⟨N, rfl⟩ : ∃ q, N = q + 1 := ⟨N - 1, by omega⟩
    rw [Z8c,if_neg (by simp)]
    exact ⟨[],a,by simp,rfl⟩
theorem Rk (a:Int):Z8a N ⟨s,a,true⟩=some ([],⟨s,a,true⟩):=by
  unfold Z8a
  rw [Dk hN hs]
  simp only [Option.bind_some]
  obtain ⟨N,rfl⟩:∃ q,N=q+1:=⟨N - 1,by omega⟩
  rw [Z8c,if_neg (by simp)];rfl
theorem Ti {c:Int} {i0:leadlineref10_In} {r0:binary_reader} (hc:c≤(s.length:Int)):∀ (d:Nat) (j k:Nat) (a:Int) (acc:List api_Op),acc.length=j→(j:Int)+d≥c→(j:Int)≤max c 0→d < k→
    Two s (fun l:List api_Op=>l.length≤250000) (Z8f N Z8e (c,i0) k ⟨s,a,false⟩ acc (j:Int)) (Zt N Zs (c,r0) k ⟨s,a⟩ acc (j:Int)):=by
  intro d
  induction d with
  | zero =>
    intro j k a acc hj hd hm hk
    obtain ⟨k,rfl⟩:∃ q,k=q+1:=⟨k - 1,by omega⟩
    rw [Z8f,Zt,if_neg (by simp;omega),if_neg (by show ¬ (j:Int) < c;omega)]
    exact ⟨acc,⟨s,a,false⟩,rfl,rfl,by omega,rfl⟩
  | succ d ih =>
    intro j k a acc hj hd hm hk
    obtain ⟨k,rfl⟩:∃ q,k=q+1:=⟨k - 1,by omega⟩
    rw [Z8f,Zt]
    by_cases h:(j:Int) < c
    · rw [if_pos (by simp; exact h), if_pos h]
      have stop:∀ (x y:Int) (a:Int),∃ l b,l.length≤250000∧((B9 16 acc ([(api_Op.mk x y)]:List api_Op)).bind fun l17=>(Z8f N Z8e (c,i0) k) ⟨s,a,true⟩ l17 (IntKind.i64.wrap ((j:Int)+1)))=some (l,⟨s,b,true⟩):=by
        intro x y a
        obtain ⟨k,rfl⟩:∃ q,k=q+1:=⟨k - 1,by omega⟩
        rw [Az (by simp;omega) (by decide)]
        simp only [Option.bind_some]
        rw [Z8f,if_neg (by simp)]
        exact ⟨acc ++ [⟨x,y⟩],a,by simp;omega,rfl⟩
      refine (Dz hN hs a).bind (fun x a _=>?_) (fun x a _=>?_)
      · refine (Dz hN hs a).bind (fun y a _ => ?_) (fun y a _ => ?_)
        · simp only
          rw [Az (by simp;omega) (by decide)]
          simp only [Option.bind_some]
          rw [w64 (by omega) (by omega),show (j:Int)+1=((j+1:Nat):Int) from by omega]
          exact ih (j+1) k a (acc ++ [⟨x,y⟩]) (by simp;omega) (by omega) (by omega) (by omega)
        · exact stop x y a
      · simp only
        rw [Es hN hs]
        exact stop x 0 a
    · rw [if_neg (by simp; omega), if_neg h]
      exact ⟨acc,⟨s,a,false⟩,rfl,rfl,by omega,rfl⟩
theorem Km (a:Int):Two s (fun l:List api_Op=>l.length≤250000) (Z8d N ⟨s,a,false⟩) (Zr N ⟨s,a⟩):=by
  unfold Z8d Zr
  refine (H4 hN hs a).bind (fun c a hc=>?_) (fun c a hc=>?_)
  · exact Ti hN hs hc s.length 0 N a [] rfl (by omega) (by omega) (by omega)
  · obtain ⟨N, rfl⟩ : ∃ q, N = q + 1 := ⟨N - 1, by omega⟩
    rw [Z8f,if_neg (by simp)]
    exact ⟨[],a,by simp,rfl⟩
theorem Hb (a:Int):Z8d N ⟨s,a,true⟩=some ([],⟨s,a,true⟩):=by
  unfold Z8d
  rw [Dk hN hs]
  simp only [Option.bind_some]
  obtain ⟨N,rfl⟩:∃ q,N=q+1:=⟨N - 1,by omega⟩
  rw [Z8f,if_neg (by simp)];rfl
def rdL (l:List api_Instr):Prop:=l.length≤250000∧∀ x∈l,x.E.length≤250000∧x.F.length≤250000
omit hN hs in
theorem rdL.snoc {l:List api_Instr} (h:∀ x∈l,x.E.length≤250000∧x.F.length≤250000) (hl:l.length < 250000) {x:api_Instr} (h1:x.E.length≤250000) (h2:x.F.length≤250000):rdL (l ++ [x]):=by
  refine ⟨by simp;omega,fun y hy=>?_⟩
  rcases List.mem_append.1 hy with hy | hy
  · exact h y hy
  · simp at hy;subst hy;exact ⟨h1,h2⟩
theorem Uu {R C:Int×leadlineref10_In} {Rb Cb:Int×binary_reader} (eR:Rb.1=R.1) (eC:Cb.1=C.1) {c:Int} {i0:leadlineref10_In} {r0:binary_reader} (hc:c≤(s.length:Int)):∀ (d:Nat) (j k:Nat) (a:Int) (acc:List api_Instr),acc.length=j→(∀ x∈acc,x.E.length≤250000∧x.F.length≤250000)→(j:Int)+d≥c→(j:Int)≤max c 0→d < k→
    Two s (fun p:api_Code=>rdL p.L) (Z87 N (Z86 R C) (c,i0) k ⟨s,a,false⟩ acc (j:Int)) (Zl N (Zi Rb Cb) (c,r0) k ⟨s,a⟩ acc (j:Int)):=by
  intro d
  induction d with
  | zero =>
    intro j k a acc hj hx hd hm hk
    obtain ⟨k,rfl⟩:∃ q,k=q+1:=⟨k - 1,by omega⟩
    rw [Z87,Zl,if_neg (by simp;omega),if_neg (by show ¬ (j:Int) < c;omega)]
    exact ⟨⟨R.1,C.1,acc⟩,⟨s,a,false⟩,rfl,rfl,⟨by show acc.length≤250000;omega,hx⟩,by rw [Zi,eR,eC];rfl⟩
  | succ d ih =>
    intro j k a acc hj hx hd hm hk
    obtain ⟨k,rfl⟩:∃ q,k=q+1:=⟨k - 1,by omega⟩
    rw [Z87,Zl]
    by_cases h:(j:Int) < c
    · rw [if_pos (by simp; exact h), if_pos h]
      have stop:∀ (x:api_Instr) (a:Int),x.E.length≤250000→x.F.length≤250000→∃ (p:api_Code) (b:Int),rdL p.L∧((B9 80 acc ([x]:List api_Instr)).bind fun l46=>(Z87 N (Z86 R C) (c,i0) k) ⟨s,a,true⟩ l46 (IntKind.i64.wrap ((j:Int)+1)))=some (p,⟨s,b,true⟩):=by
        intro x a h1 h2
        obtain ⟨k,rfl⟩:∃ q,k=q+1:=⟨k - 1,by omega⟩
        rw [Az (by simp;omega) (by decide)]
        simp only [Option.bind_some]
        rw [Z87,if_neg (by simp)]
        exact ⟨⟨R.1,C.1,acc ++ [x]⟩,a,rdL.snoc hx (by omega) h1 h2,rfl⟩
      have l0:([]:List api_Op).length≤250000:=by simp
      refine (Dz hN hs a).bind (fun x1 a _=>?_) (fun x1 a _=>?_)
      · refine (Dz hN hs a).bind (fun x2 a _ => ?_) (fun x2 a _ => ?_)
        · refine (Dz hN hs a).bind (fun x3 a _ => ?_) (fun x3 a _ => ?_)
          · refine (Dz hN hs a).bind (fun x4 a _ => ?_) (fun x4 a _ => ?_)
            · rw [Zk]
              refine (Km hN hs a).bind (fun x5 a h5=>?_) (fun x5 a h5=>?_)
              · refine (Km hN hs a).bind (fun x6 a h6 => ?_) (fun x6 a h6 => ?_)
                · simp only
                  rw [Az (by simp;omega) (by decide)]
                  simp only [Option.bind_some]
                  rw [Zj,w64 (by omega) (by omega),show (j:Int)+1=((j+1:Nat):Int) from by omega]
                  exact ih (j+1) k a (acc ++ [⟨x1,x2,x3,x5,x6,x4⟩]) (by simp;omega) (rdL.snoc hx (by omega) h5 h6).2 (by omega) (by omega) (by omega)
                · exact stop ⟨x1,x2,x3,x5,x6,x4⟩ a h5 h6
              · simp only [Hb hN hs, Option.bind_some]
                exact stop ⟨x1,x2,x3,x5,[],x4⟩ a h5 l0
            · simp only [Hb hN hs, Option.bind_some]
              exact stop ⟨x1,x2,x3,[],[],x4⟩ a l0 l0
          · simp only [Es hN hs, Hb hN hs, Option.bind_some]
            exact stop ⟨x1,x2,x3,[],[],0⟩ a l0 l0
        · simp only [Es hN hs, Hb hN hs, Option.bind_some]
          exact stop ⟨x1,x2,0,[],[],0⟩ a l0 l0
      · simp only [Es hN hs, Hb hN hs, Option.bind_some]
        exact stop ⟨x1,0,0,[],[],0⟩ a l0 l0
    · rw [if_neg (by simp; omega), if_neg h]
      exact ⟨⟨R.1,C.1,acc⟩,⟨s,a,false⟩,rfl,rfl,⟨by show acc.length≤250000;omega,hx⟩,by rw [Zi,eR,eC];rfl⟩
theorem Rw (a:Int):Two s (fun p:api_Code=>rdL p.L) (Z85 N ⟨s,a,false⟩) (Zh N ⟨s,a⟩):=by
  have stop:∀ (R C:Int×leadlineref10_In) (q:Int×leadlineref10_In) (a:Int),Z87 N (Z86 R C) q N ⟨s,a,true⟩ [] 0=some (⟨R.1,C.1,[]⟩,⟨s,a,true⟩):=by
    intro R C q a
    obtain ⟨M,hM⟩:∃ q,N=q+1:=⟨N - 1,by omega⟩
    have e:Z87 N (Z86 R C) q N ⟨s,a,true⟩ [] 0=Z87 N (Z86 R C) q (M+1) ⟨s,a,true⟩ [] 0:=by congr 1
    rw [e,Z87,if_neg (by simp)];rfl
  have e0:rdL ([]:List api_Instr):=⟨by simp,fun _ h=>nomatch h⟩
  unfold Z85 Zh
  refine (Dz hN hs a).bind (fun x1 a _=>?_) (fun x1 a _=>?_)
  · refine (Dz hN hs a).bind (fun x2 a _ => ?_) (fun x2 a _ => ?_)
    · refine (H4 hN hs a).bind (fun c a hc => ?_) (fun c a hc => ?_)
      · exact Uu hN hs rfl rfl hc s.length 0 N a [] rfl (fun _ h=>nomatch h) (by omega) (by omega) (by omega)
      · exact ⟨_,a,e0,stop _ _ _ a⟩
    · simp only [Dk hN hs, Option.bind_some]
      exact ⟨_,a,e0,stop _ _ _ a⟩
  · simp only [Es hN hs, Dk hN hs, Option.bind_some]
    exact ⟨_,a,e0,stop _ _ _ a⟩
theorem Xr (a:Int):Z85 N ⟨s,a,true⟩=some (⟨0,0,[]⟩,⟨s,a,true⟩):=by
  unfold Z85
  simp only [Es hN hs,Dk hN hs,Option.bind_some]
  obtain ⟨M,hM⟩:∃ q,N=q+1:=⟨N - 1,by omega⟩
  subst hM
  rw [Z87,if_neg (by simp)];rfl
end
end Go.MD.BINZ
namespace Go.MD.BINZ
open Go Go.MD
set_option linter.unusedSectionVars false
def Nr:api_Unit:=(api_Unit.mk [] 0 [] 0 [] (api_Code.mk 0 0 []) [])
def fin (N:Nat) (s:Str) (u:api_Unit) (bad:Bool):Option (api_Unit×Int):=
  (Z7x N u).bind fun r98=>if ((bad || (decide (r98.2≠0))) || (decide (r98.1≠s)))=true then some (Nr,8) else some (u,0)
def Vs (N:Nat) (s:Str) (r:Option (api_Unit×Int)) (b:Option (Option (api_Unit×binary_reader))):Prop:=
  ∃ (u:api_Unit) (i:leadlineref10_In),i.S=s∧Cy u∧r=fin N s u i.Bad∧b=some (if i.Bad=true then none else some (u,⟨s,i.At⟩))
theorem Two.bindK {α:Type} {N:Nat} {s:Str} {Q:α→Prop} {r:Option (α×leadlineref10_In)} {b:Option (Option (α×binary_reader))} {kr:α×leadlineref10_In→Option (api_Unit×Int)} {kb:α×binary_reader→Option (Option (api_Unit×binary_reader))}
    (h:Two s Q r b) (ok:∀ x a,Q x→Vs N s (kr (x,⟨s,a,false⟩)) (kb (x,⟨s,a⟩))) (bad:∀ x a,Q x→∃ u,Cy u∧kr (x,⟨s,a,true⟩)=fin N s u true):Vs N s (r.bind kr) (b.bindP kb):=by
  obtain ⟨x,i,rfl,hs,hq,rfl⟩:=h
  cases hb:i.Bad with
  | true =>
    obtain ⟨u,hu,e⟩:=bad x i.At hq
    rw [Xi hs hb] at *
    exact ⟨u,⟨s,i.At,true⟩,rfl,hu,e,rfl⟩
  | false =>
    have:=ok x i.At hq
    rw [Jbd hs hb]
    exact this
theorem rdL.small {p:api_Code} (h:rdL p.L):small p:=⟨by have:=h.1;omega,fun x hx=>by have:=h.2 x hx;omega⟩
section
variable {N:Nat} (hN:300001 < N) {s:Str} (hs:s.length≤250000)
structure Pre (A C:List Int) (T:List api_Code):Prop where
  a:A.length≤250000
  c:C.length≤250000
  t:T.length≤250000
  tt:∀ p∈T,rdL p.L
theorem Pre.unit {A C:List Int} {T:List api_Code} (h:Pre A C T) {B D:Int} {R:api_Code} (hR:rdL R.L) {K:List (List api_Op)} (hK:K.length≤250000) (hKK:∀ c∈K,c.length≤250000):Cy ⟨A,B,C,D,T,R,K⟩:=
  ⟨by show A.length≤300000;have:=h.a;omega,by show C.length≤300000;have:=h.c;omega,by show T.length≤300000;have:=h.t;omega,by show K.length≤300000;omega,fun c hc=>(h.tt c hc).small,hR.small,fun c hc=>by have:=hKK c hc;omega⟩
include hN hs
theorem Ic {A C:List Int×leadlineref10_In} {A' C':List Int×binary_reader} {B D:Int×leadlineref10_In} {B' D':Int×binary_reader} {T:List api_Code} {R:api_Code×leadlineref10_In} {R':api_Code×binary_reader} (eA:A'.1=A.1) (eB:B'.1=B.1) (eC:C'.1=C.1) (eD:D'.1=D.1) (eR:R'.1=R.1) (hp:Pre A.1 C.1 T) (hR:rdL R.1.L)
    {c:Int} {i0:leadlineref10_In} {r0:binary_reader} (hc:c≤(s.length:Int)):∀ (d:Nat) (j k:Nat) (a:Int) (acc:List (List api_Op)),acc.length=j→(∀ x∈acc,x.length≤250000)→(j:Int)+d≥c→(j:Int)≤max c 0→d < k→
    Vs N s (Z7w N (Z7u N s A B C D T R) (c,i0) k ⟨s,a,false⟩ acc (j:Int)) (Zy N (Zw A' B' C' D' T R') (c,r0) k ⟨s,a⟩ acc (j:Int)):=by
  intro d
  induction d with
  | zero =>
    intro j k a acc hj hx hd hm hk
    obtain ⟨k,rfl⟩:∃ q,k=q+1:=⟨k - 1,by omega⟩
    rw [Z7w,Zy,if_neg (by simp;omega),if_neg (by show ¬ (j:Int) < c;omega)]
    exact ⟨⟨A.1,B.1,C.1,D.1,T,R.1,acc⟩,⟨s,a,false⟩,rfl,hp.unit hR (by omega) hx,rfl,by rw [Zw,eA,eB,eC,eD,eR];rfl⟩
  | succ d ih =>
    intro j k a acc hj hx hd hm hk
    obtain ⟨k,rfl⟩:∃ q,k=q+1:=⟨k - 1,by omega⟩
    rw [Z7w,Zy]
    by_cases h:(j:Int) < c
    · rw [if_pos (by simp; exact h), if_pos h]
      have hsn:∀ x:List api_Op,x.length≤250000→∀ y∈acc ++ [x],y.length≤250000:=by
        intro x hx' y hy
        rcases List.mem_append.1 hy with hy | hy
        · exact hx y hy
        · simp at hy;subst hy;exact hx'
      refine (Km hN hs a).bindK (fun x a h5=>?_) (fun x a h5=>?_)
      · simp only
        rw [Az (by simp;omega) (by decide)]
        simp only [Option.bind_some]
        rw [w64 (by omega) (by omega),show (j:Int)+1=((j+1:Nat):Int) from by omega]
        exact ih (j+1) k a (acc ++ [x]) (by simp;omega) (hsn x h5) (by omega) (by omega) (by omega)
      · obtain ⟨k, rfl⟩ : ∃ q, k = q + 1 := ⟨k - 1, by omega⟩
        simp only
        rw [Az (by simp;omega) (by decide)]
        simp only [Option.bind_some]
        rw [Z7w,if_neg (by simp)]
        exact ⟨⟨A.1,B.1,C.1,D.1,T,R.1,acc ++ [x]⟩,hp.unit hR (by simp;omega) (hsn x h5),rfl⟩
    · rw [if_neg (by simp; omega), if_neg h]
      exact ⟨⟨A.1,B.1,C.1,D.1,T,R.1,acc⟩,⟨s,a,false⟩,rfl,hp.unit hR (by omega) hx,rfl,by rw [Zw,eA,eB,eC,eD,eR];rfl⟩
theorem Jf {A C:List Int×leadlineref10_In} {B D:Int×leadlineref10_In} {T:List api_Code} {R:api_Code×leadlineref10_In} (hp:Pre A.1 C.1 T) (hR:rdL R.1.L) (q:Int×leadlineref10_In) (a:Int) :
    ∃ u,Cy u∧Z7w N (Z7u N s A B C D T R) q N ⟨s,a,true⟩ [] 0=fin N s u true:=by
  obtain ⟨M,hM⟩:∃ q,N=q+1:=⟨N - 1,by omega⟩
  have e:Z7w N (Z7u N s A B C D T R) q N ⟨s,a,true⟩ [] 0=Z7w N (Z7u N s A B C D T R) q (M+1) ⟨s,a,true⟩ [] 0:=by congr 1
  rw [e,Z7w,if_neg (by simp)]
  exact ⟨⟨A.1,B.1,C.1,D.1,T,R.1,[]⟩,hp.unit hR (by simp) (fun _ h=>nomatch h),rfl⟩
theorem Wu {A C:List Int×leadlineref10_In} {A' C':List Int×binary_reader} {B D:Int×leadlineref10_In} {B' D':Int×binary_reader} {T:List api_Code} (eA:A'.1=A.1) (eB:B'.1=B.1) (eC:C'.1=C.1) (eD:D'.1=D.1) (hp:Pre A.1 C.1 T) (a:Int) :
    Vs N s (Z7t N s A B C D ⟨s,a,false⟩ T) (Zv N A' B' C' D' ⟨s,a⟩ T):=by
  unfold Z7t Zv
  refine (Rw hN hs a).bindK (fun R a hR=>?_) (fun R a hR=>?_)
  · refine (H4 hN hs a).bindK (fun c a hc => ?_) (fun c a hc => ?_)
    · exact Ic hN hs eA eB eC eD rfl hp hR hc s.length 0 N a [] rfl (fun _ h=>nomatch h) (by omega) (by omega) (by omega)
    · exact Jf hN hs hp hR _ a
  · simp only [Dk hN hs, Option.bind_some]
    exact Jf hN hs hp hR _ a
theorem Wh {A C:List Int×leadlineref10_In} {B D:Int×leadlineref10_In} {T:List api_Code} (hp:Pre A.1 C.1 T) (a:Int) :
    ∃ u,Cy u∧Z7t N s A B C D ⟨s,a,true⟩ T=fin N s u true:=by
  unfold Z7t
  simp only [Xr hN hs,Dk hN hs,Option.bind_some]
  exact Jf hN hs (R:=(⟨0,0,[]⟩,⟨s,a,true⟩)) hp ⟨by simp,fun _ h=>nomatch h⟩ _ a
theorem Hm {A C:List Int×leadlineref10_In} {A' C':List Int×binary_reader} {B D:Int×leadlineref10_In} {B' D':Int×binary_reader} (eA:A'.1=A.1) (eB:B'.1=B.1) (eC:C'.1=C.1) (eD:D'.1=D.1) (hA:A.1.length≤250000) (hC:C.1.length≤250000)
    {c:Int} {i0:leadlineref10_In} {r0:binary_reader} (hc:c≤(s.length:Int)):∀ (d:Nat) (j k:Nat) (a:Int) (acc:List api_Code),acc.length=j→(∀ x∈acc,rdL x.L)→(j:Int)+d≥c→(j:Int)≤max c 0→d < k→
    Vs N s (Z7v N (Z7t N s A B C D) (c,i0) k ⟨s,a,false⟩ acc (j:Int)) (Zx N (Zv N A' B' C' D') (c,r0) k ⟨s,a⟩ acc (j:Int)):=by
  intro d
  induction d with
  | zero =>
    intro j k a acc hj hx hd hm hk
    obtain ⟨k,rfl⟩:∃ q,k=q+1:=⟨k - 1,by omega⟩
    rw [Z7v,Zx,if_neg (by simp;omega),if_neg (by show ¬ (j:Int) < c;omega)]
    exact Wu hN hs eA eB eC eD ⟨hA,hC,by omega,hx⟩ a
  | succ d ih =>
    intro j k a acc hj hx hd hm hk
    obtain ⟨k,rfl⟩:∃ q,k=q+1:=⟨k - 1,by omega⟩
    rw [Z7v,Zx]
    by_cases h:(j:Int) < c
    · rw [if_pos (by simp; exact h), if_pos h]
      have hsn:∀ x:api_Code,rdL x.L→∀ y∈acc ++ [x],rdL y.L:=by
        intro x hx' y hy
        rcases List.mem_append.1 hy with hy | hy
        · exact hx y hy
        · simp at hy;subst hy;exact hx'
      refine (Rw hN hs a).bindK (fun x a h5=>?_) (fun x a h5=>?_)
      · simp only
        rw [Az (by simp;omega) (by decide)]
        simp only [Option.bind_some]
        rw [w64 (by omega) (by omega),show (j:Int)+1=((j+1:Nat):Int) from by omega]
        exact ih (j+1) k a (acc ++ [x]) (by simp;omega) (hsn x h5) (by omega) (by omega) (by omega)
      · obtain ⟨k, rfl⟩ : ∃ q, k = q + 1 := ⟨k - 1, by omega⟩
        simp only
        rw [Az (by simp;omega) (by decide)]
        simp only [Option.bind_some]
        rw [Z7v,if_neg (by simp)]
        exact Wh hN hs ⟨hA,hC,by simp;omega,hsn x h5⟩ a
    · rw [if_neg (by simp; omega), if_neg h]
      exact Wu hN hs eA eB eC eD ⟨hA,hC,by omega,hx⟩ a
theorem Ew {A C:List Int×leadlineref10_In} {B D:Int×leadlineref10_In} (hA:A.1.length≤250000) (hC:C.1.length≤250000) (q:Int×leadlineref10_In) (a:Int) :
    ∃ u,Cy u∧Z7v N (Z7t N s A B C D) q N ⟨s,a,true⟩ [] 0=fin N s u true:=by
  obtain ⟨M,hM⟩:∃ q,N=q+1:=⟨N - 1,by omega⟩
  have e:Z7v N (Z7t N s A B C D) q N ⟨s,a,true⟩ [] 0=Z7v N (Z7t N s A B C D) q (M+1) ⟨s,a,true⟩ [] 0:=by congr 1
  rw [e,Z7v,if_neg (by simp)]
  exact Wh hN hs (T:=[]) ⟨hA,hC,by simp,fun _ h=>nomatch h⟩ a
theorem Yo:Vs N s (Z7s N s) (Zu N ⟨s,0⟩):=by
  have l0:([]:List Int).length≤250000:=by simp
  unfold Z7s Zu
  refine (Qk hN hs 0).bindK (fun A a hA=>?_) (fun A a hA=>?_)
  · refine (Dz hN hs a).bindK (fun B a _ => ?_) (fun B a _ => ?_)
    · refine (Qk hN hs a).bindK (fun C a hC => ?_) (fun C a hC => ?_)
      · refine (Dz hN hs a).bindK (fun D a _ => ?_) (fun D a _ => ?_)
        · refine (H4 hN hs a).bindK (fun c a hc => ?_) (fun c a hc => ?_)
          · exact Hm hN hs rfl rfl rfl rfl hA hC hc s.length 0 N a [] rfl (fun _ h=>nomatch h) (by omega) (by omega) (by omega)
          · exact Ew hN hs hA hC _ a
        · simp only [Dk hN hs, Option.bind_some]
          exact Ew hN hs hA hC _ a
      · simp only [Es hN hs, Dk hN hs, Option.bind_some]
        exact Ew hN hs hA hC _ a
    · simp only [Rk hN hs, Es hN hs, Dk hN hs, Option.bind_some]
      exact Ew hN hs (C:=([],_)) hA l0 _ a
  · simp only [Rk hN hs, Es hN hs, Dk hN hs, Option.bind_some]
    exact Ew hN hs (C:=([],_)) hA l0 _ a
end
end Go.MD.BINZ
namespace Go.MD.BINZ
open Go Go.MD
theorem Jap:Z24 1000001=some true:=by decide +kernel
end Go.MD.BINZ
namespace Go.MD.BINZ
open Go Go.MD
set_option linter.unusedSectionVars false
theorem u8n {n:Nat} (h:n < 256):(UInt8.ofNat n).toNat=n:=by rw [UInt8.toNat_ofNat'];exact Nat.mod_eq_of_lt h
theorem Xw:∀ (m n k acc p:Nat) (rest:Str),n < 128 ^ m→(0 < k→0 < n)→0 < m→acc+n * 128 ^ k≤1099511627776→Kr m (Iw m n ++ rest) k acc p=(((acc+n * 128 ^ k:Nat):Int),((p+(Iw m n).length:Nat):Int),0):=by
  intro m
  induction m with
  | zero=>intro n k acc p rest _ _ h0;omega
  | succ m ih =>
    intro n k acc p rest hn hk _ ha
    rw [Iw]
    by_cases h:n < 128
    · rw [if_pos h, List.cons_append, Kr, u8n (by omega), if_neg (by omega), if_neg (by omega), Nat.mod_eq_of_lt h, if_neg (by omega)]
      rfl
    · have hb : n % 128 < 128 := Nat.mod_lt _ (by decide)
      have h0:0 < m:=by
        rcases Nat.eq_zero_or_pos m with rfl | h0
        · simp at hn;omega
        · exact h0
      rw [if_neg h,List.cons_append,Kr,u8n (by omega),if_pos (by omega)]
      have e:(n % 128+128) % 128=n % 128:=by omega
      have e2:acc+n % 128 * 128 ^ k+n / 128 * 128 ^ (k+1)=acc+n * 128 ^ k:=by
        have:n * 128 ^ k=(n % 128+n / 128 * 128) * 128 ^ k:=by congr 1;omega
        rw [this,Nat.add_mul,Nat.pow_succ,Nat.mul_assoc (n / 128),Nat.mul_comm 128 (128 ^ k)];omega
      rw [e,ih (n / 128) (k+1) (acc+n % 128 * 128 ^ k) (p+1) rest (by rw [Nat.pow_succ] at hn;exact Nat.div_lt_of_lt_mul (by rw [Nat.mul_comm];exact hn)) (by omega) h0 (by rw [e2];exact ha),e2]
      simp only [List.length_cons]
      rw [show p+1+(Iw m (n / 128)).length=p+((Iw m (n / 128)).length+1) from by omega]
theorem Xa {m n:Nat} (hm:0 < m):1≤(Iw m n).length:=by
  obtain ⟨m,rfl⟩:∃ q,m=q+1:=⟨m - 1,by omega⟩
  rw [Iw];split <;> simp
def nOk (n:Int):Prop:=0≤n∧n≤1099511627776
theorem Ie {n:Int} (h:nOk n):1≤(Ap n).length:=by
  unfold Ap;rw [if_pos (show 0≤n∧n≤1099511627776 from h)];exact Xa (by decide)
theorem JbG {pre rest:Str} {n:Int} (h:nOk n):Rf (pre ++ (Ap n ++ rest)) ((pre.length:Nat):Int)=(n,(((pre ++ Ap n).length:Nat):Int),0):=by
  obtain ⟨q,rfl⟩:∃ q:Nat,n=(q:Int):=⟨n.toNat,by have:=h.1;omega⟩
  have hq:q≤1099511627776:=by have:=h.2;omega
  have e:Ap (q:Int)=Iw 6 q:=by unfold Ap;rw [if_pos (show 0≤(q:Int)∧(q:Int)≤1099511627776 from h)];rfl
  unfold Rf
  rw [if_neg (by rw [List.length_append];omega),Int.toNat_natCast,List.drop_append_of_le_length (Nat.le_refl _),List.drop_length,List.nil_append,e]
  rw [Xw 6 q 0 0 _ _ (Nat.lt_of_le_of_lt hq (by decide)) (by omega) (by decide) (by omega)]
  simp
section
variable {N:Nat} (hN:300001 < N) {s:Str} (hl:s.length≤1000000)
include hN hl
theorem Fe {pre rest:Str} {n:Int} (h:nOk n) (hs:s=pre ++ (Ap n ++ rest)):Zn N ⟨s,((pre.length:Nat):Int)⟩=some (some (n,⟨s,(((pre ++ Ap n).length:Nat):Int)⟩)):=by
  unfold Zn
  rw [Xk (by omega) hl]
  simp only [Option.bind_some]
  rw [show Rf s ((pre.length:Nat):Int)=(n,(((pre ++ Ap n).length:Nat):Int),0) from by rw [hs];exact JbG h]
  rfl
theorem Js {pre rest:Str} {n:Int} (h:nOk n) (hn:n≤(s.length:Int)) (hs:s=pre ++ (Ap n ++ rest)):Zm N ⟨s,((pre.length:Nat):Int)⟩=some (some (n,⟨s,(((pre ++ Ap n).length:Nat):Int)⟩)):=by
  unfold Zm
  rw [Fe hN hl h hs]
  show (if (s.length:Int) < n then _ else _)=_
  rw [if_neg (by omega)]
theorem Yr {c:Int} {r0:binary_reader}:∀ (b a:List Int) (k:Nat) (pre rest:Str),c=((a.length+b.length:Nat):Int)→a.length+b.length≤300000→(∀ x∈b,nOk x)→b.length < k→s=pre ++ (b.flatMap Ap ++ rest)→
    Zq N Zp (c,r0) k ⟨s,((pre.length:Nat):Int)⟩ a ((a.length:Nat):Int)=some (some (a ++ b,⟨s,(((pre ++ b.flatMap Ap).length:Nat):Int)⟩)):=by
  intro b
  induction b with
  | nil =>
    intro a k pre rest hc _ _ hk _
    obtain ⟨k,rfl⟩:∃ q,k=q+1:=⟨k - 1,by omega⟩
    rw [Zq,if_neg (by show ¬ ((a.length:Nat):Int) < c;simp at hc;omega),Zp]
    simp
  | cons x b ih =>
    intro a k pre rest hc h3 hx hk hs
    obtain ⟨k,rfl⟩:∃ q,k=q+1:=⟨k - 1,by omega⟩
    rw [List.length_cons] at h3 hc
    rw [List.flatMap_cons,List.append_assoc] at hs
    rw [Zq,if_pos (by show ((a.length:Nat):Int) < c;omega),Fe hN hl (hx x (by simp)) hs]
    show ((B9 8 a ([x]:List Int)).bind _)=_
    rw [Az (by simp;omega) (by decide)]
    simp only [Option.bind_some]
    rw [Bd (n:=300000) (by omega) (by decide)]
    have rc:=ih (a ++ [x]) k (pre ++ Ap x) rest (by simp;omega) (by simp;omega) (fun y hy=>hx y (List.mem_cons_of_mem _ hy)) (by simpa using hk) (by rw [hs];simp only [List.append_assoc])
    rw [show ((a ++ [x]).length:Nat)=a.length+1 from by simp] at rc
    rw [rc]
    simp only [List.append_assoc,List.cons_append,List.nil_append,List.flatMap_cons]
theorem Io {α:Type} {f:α→Str}:∀ {l:List α},(∀ x∈l,1≤(f x).length)→l.length≤(l.flatMap f).length
  | [],_=>by simp
  | x :: r, h => by
    have h1:=h x (by simp)
    have h2:=Io (l:=r) (fun y hy=>h y (List.mem_cons_of_mem _ hy))
    rw [List.flatMap_cons,List.length_append,List.length_cons];omega
theorem Ua {pre rest:Str} {l:List Int} (h3:l.length≤300000) (hx:∀ x∈l,nOk x) (hs:s=pre ++ (Bm l ++ rest)):Zo N ⟨s,((pre.length:Nat):Int)⟩=some (some (l,⟨s,(((pre ++ Bm l).length:Nat):Int)⟩)):=by
  have hg:=Io hN hl (f:=Ap) (l:=l) (fun x h=>Ie (hx x h))
  have hs2:s=pre ++ (Ap (l.length:Int) ++ (l.flatMap Ap ++ rest)):=by rw [hs];unfold Bm;simp only [List.append_assoc]
  have hln:(l.length:Int)≤(s.length:Int):=by
    have:s.length=pre.length+((Ap (l.length:Int)).length+((l.flatMap Ap).length+rest.length)):=by rw [hs2];simp only [List.length_append]
    omega
  unfold Zo
  rw [Js hN hl ⟨by omega,by omega⟩ hln hs2]
  have:=Yr hN hl (c:=(l.length:Int)) (r0:=⟨s,(((pre ++ Ap (l.length:Int)).length:Nat):Int)⟩) l [] N (pre ++ Ap (l.length:Int)) rest (by simp) (by simpa using h3) hx (by omega) (by rw [hs2];simp only [List.append_assoc])
  refine Eq.trans this ?_
  unfold Bm
  simp only [List.append_assoc,List.nil_append]
theorem Uv {c:Int} {r0:binary_reader}:∀ (b a:List api_Op) (k:Nat) (pre rest:Str),c=((a.length+b.length:Nat):Int)→a.length+b.length≤300000→(∀ x∈b,nOk x.Kind∧nOk x.N)→b.length < k→s=pre ++ (b.flatMap opS ++ rest)→
    Zt N Zs (c,r0) k ⟨s,((pre.length:Nat):Int)⟩ a ((a.length:Nat):Int)=some (some (a ++ b,⟨s,(((pre ++ b.flatMap opS).length:Nat):Int)⟩)):=by
  intro b
  induction b with
  | nil =>
    intro a k pre rest hc _ _ hk _
    obtain ⟨k,rfl⟩:∃ q,k=q+1:=⟨k - 1,by omega⟩
    rw [Zt,if_neg (by show ¬ ((a.length:Nat):Int) < c;simp at hc;omega),Zs]
    simp
  | cons x b ih =>
    intro a k pre rest hc h3 hx hk hs
    obtain ⟨k,rfl⟩:∃ q,k=q+1:=⟨k - 1,by omega⟩
    rw [List.length_cons] at h3 hc
    rw [List.flatMap_cons,List.append_assoc] at hs
    have hxx:=hx x (by simp)
    have hs1:s=pre ++ (Ap x.Kind ++ (Ap x.N ++ (b.flatMap opS ++ rest))):=by rw [hs];unfold opS;simp only [List.append_assoc]
    have hs2:s=(pre ++ Ap x.Kind) ++ (Ap x.N ++ (b.flatMap opS ++ rest)):=by rw [hs1];simp only [List.append_assoc]
    rw [Zt,if_pos (by show ((a.length:Nat):Int) < c;omega),Fe hN hl hxx.1 hs1]
    show ((Zn N ⟨s,(((pre ++ Ap x.Kind).length:Nat):Int)⟩).bindP _)=_
    rw [Fe hN hl hxx.2 hs2]
    show ((B9 16 a ([(api_Op.mk x.Kind x.N)]:List api_Op)).bind _)=_
    rw [Az (by simp;omega) (by decide)]
    simp only [Option.bind_some]
    rw [Bd (n:=300000) (by omega) (by decide)]
    have rc:=ih (a ++ [x]) k (pre ++ Ap x.Kind ++ Ap x.N) rest (by simp;omega) (by simp;omega) (fun y hy=>hx y (List.mem_cons_of_mem _ hy)) (by simpa using hk) (by rw [hs1];simp only [List.append_assoc])
    rw [show ((a ++ [x]).length:Nat)=a.length+1 from by simp] at rc
    refine Eq.trans rc ?_
    unfold opS
    simp only [List.append_assoc,List.cons_append,List.nil_append,List.flatMap_cons]
theorem Me {pre rest:Str} {l:List api_Op} (h3:l.length≤300000) (hx:∀ x∈l,nOk x.Kind∧nOk x.N) (hs:s=pre ++ (Bf l ++ rest)):Zr N ⟨s,((pre.length:Nat):Int)⟩=some (some (l,⟨s,(((pre ++ Bf l).length:Nat):Int)⟩)):=by
  have hg:=Io hN hl (f:=opS) (l:=l) (fun x h=>by have:=Ie (hx x h).1;unfold opS;rw [List.length_append];omega)
  have hs2:s=pre ++ (Ap (l.length:Int) ++ (l.flatMap opS ++ rest)):=by rw [hs];unfold Bf;simp only [List.append_assoc]
  have hln:(l.length:Int)≤(s.length:Int):=by
    have:s.length=pre.length+((Ap (l.length:Int)).length+((l.flatMap opS).length+rest.length)):=by rw [hs2];simp only [List.length_append]
    omega
  unfold Zr
  rw [Js hN hl ⟨by omega,by omega⟩ hln hs2]
  have:=Uv hN hl (c:=(l.length:Int)) (r0:=⟨s,(((pre ++ Ap (l.length:Int)).length:Nat):Int)⟩) l [] N (pre ++ Ap (l.length:Int)) rest (by simp) (by simpa using h3) hx (by omega) (by rw [hs2];simp only [List.append_assoc])
  refine Eq.trans this ?_
  unfold Bf
  simp only [List.append_assoc,List.nil_append]
end
end Go.MD.BINZ
