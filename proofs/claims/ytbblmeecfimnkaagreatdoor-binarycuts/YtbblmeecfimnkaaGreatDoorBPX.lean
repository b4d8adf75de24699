/- What was written is read again: codes and units. No condition: plain lemmas. -/
import Derived.Test.YtbblmeecfimnkaaGreatDoorBPW
namespace Go.MD.BINZ
open Go Go.MD
set_option linter.unusedSectionVars false
def oOk (o:api_Op):Prop:=nOk o.Kind∧nOk o.N
def iOk (x:api_Instr):Prop:=nOk x.Kind∧nOk x.A∧nOk x.B∧nOk x.To∧(x.E.length≤300000∧∀ o∈x.E,oOk o)∧(x.F.length≤300000∧∀ o∈x.F,oOk o)
def cOk (p:api_Code):Prop:=nOk p.Regs∧nOk p.Counts∧p.L.length≤300000∧∀ x∈p.L,iOk x
def uOk (u:api_Unit):Prop:=(u.Lines.length≤300000∧∀ x∈u.Lines,nOk x)∧nOk u.Stays∧(u.Firsts.length≤300000∧∀ x∈u.Firsts,nOk x)∧nOk u.Locks∧(u.Threads.length≤300000∧∀ p∈u.Threads,cOk p)∧cOk u.Recover∧(u.Claims.length≤300000∧∀ l∈u.Claims,l.length≤300000∧∀ o∈l,oOk o)
section
variable {N:Nat} (hN:300001 < N) {s:Str} (hl:s.length≤1000000)
include hN hl
theorem Wr {R C:Int×binary_reader} {c:Int} {r0:binary_reader}:∀ (b a:List api_Instr) (k:Nat) (pre rest:Str),c=((a.length+b.length:Nat):Int)→a.length+b.length≤300000→(∀ x∈b,iOk x)→b.length < k→s=pre ++ (b.flatMap Dh ++ rest)→
    Zl N (Zi R C) (c,r0) k ⟨s,((pre.length:Nat):Int)⟩ a ((a.length:Nat):Int)=some (some (⟨R.1,C.1,a ++ b⟩,⟨s,(((pre ++ b.flatMap Dh).length:Nat):Int)⟩)):=by
  intro b
  induction b with
  | nil =>
    intro a k pre rest hc _ _ hk _
    obtain ⟨k,rfl⟩:∃ q,k=q+1:=⟨k - 1,by omega⟩
    rw [Zl,if_neg (by show ¬ ((a.length:Nat):Int) < c;simp at hc;omega),Zi]
    simp
  | cons x b ih =>
    intro a k pre rest hc h3 hx hk hs
    obtain ⟨k,rfl⟩:∃ q,k=q+1:=⟨k - 1,by omega⟩
    rw [List.length_cons] at h3 hc
    rw [List.flatMap_cons,List.append_assoc] at hs
    obtain ⟨x1,x2,x3,x4,⟨x5,x6⟩,x7,x8⟩:=hx x (by simp)
    have s1:s=pre ++ (Ap x.Kind ++ (Ap x.A ++ (Ap x.B ++ (Ap x.To ++ (Bf x.E ++ (Bf x.F ++ (b.flatMap Dh ++ rest))))))):=by rw [hs];unfold Dh;simp only [List.append_assoc]
    have s2:s=(pre ++ Ap x.Kind) ++ (Ap x.A ++ (Ap x.B ++ (Ap x.To ++ (Bf x.E ++ (Bf x.F ++ (b.flatMap Dh ++ rest)))))):=by rw [s1];simp only [List.append_assoc]
    have s3:s=(pre ++ Ap x.Kind ++ Ap x.A) ++ (Ap x.B ++ (Ap x.To ++ (Bf x.E ++ (Bf x.F ++ (b.flatMap Dh ++ rest))))):=by rw [s1];simp only [List.append_assoc]
    have s4:s=(pre ++ Ap x.Kind ++ Ap x.A ++ Ap x.B) ++ (Ap x.To ++ (Bf x.E ++ (Bf x.F ++ (b.flatMap Dh ++ rest)))):=by rw [s1];simp only [List.append_assoc]
    have s5:s=(pre ++ Ap x.Kind ++ Ap x.A ++ Ap x.B ++ Ap x.To) ++ (Bf x.E ++ (Bf x.F ++ (b.flatMap Dh ++ rest))):=by rw [s1];simp only [List.append_assoc]
    have s6:s=(pre ++ Ap x.Kind ++ Ap x.A ++ Ap x.B ++ Ap x.To ++ Bf x.E) ++ (Bf x.F ++ (b.flatMap Dh ++ rest)):=by rw [s1];simp only [List.append_assoc]
    rw [Zl,if_pos (by show ((a.length:Nat):Int) < c;omega),Fe hN hl x1 s1]
    show ((Zn N ⟨s,(((pre ++ Ap x.Kind).length:Nat):Int)⟩).bindP _)=_
    rw [Fe hN hl x2 s2]
    show ((Zn N ⟨s,(((pre ++ Ap x.Kind ++ Ap x.A).length:Nat):Int)⟩).bindP _)=_
    rw [Fe hN hl x3 s3]
    show ((Zn N ⟨s,(((pre ++ Ap x.Kind ++ Ap x.A ++ Ap x.B).length:Nat):Int)⟩).bindP _)=_
    rw [Fe hN hl x4 s4]
    show (Zk N _ a ⟨s,(((pre ++ Ap x.Kind ++ Ap x.A ++ Ap x.B ++ Ap x.To).length:Nat):Int)⟩ x.Kind x.A x.B x.To)=_
    rw [Zk,Me hN hl x5 x6 s5]
    show ((Zr N ⟨s,(((pre ++ Ap x.Kind ++ Ap x.A ++ Ap x.B ++ Ap x.To ++ Bf x.E).length:Nat):Int)⟩).bindP _)=_
    rw [Me hN hl x7 x8 s6]
    show ((B9 80 a ([(api_Instr.mk x.Kind x.A x.B x.E x.F x.To)]:List api_Instr)).bind _)=_
    rw [Az (by simp;omega) (by decide)]
    simp only [Option.bind_some]
    rw [Zj,Bd (n:=300000) (by omega) (by decide)]
    have rc:=ih (a ++ [x]) k (pre ++ Ap x.Kind ++ Ap x.A ++ Ap x.B ++ Ap x.To ++ Bf x.E ++ Bf x.F) rest (by simp;omega) (by simp;omega) (fun y hy=>hx y (List.mem_cons_of_mem _ hy)) (by simpa using hk) (by rw [s1];simp only [List.append_assoc])
    rw [show ((a ++ [x]).length:Nat)=a.length+1 from by simp] at rc
    refine Eq.trans rc ?_
    unfold Dh
    simp only [List.append_assoc,List.cons_append,List.nil_append,List.flatMap_cons]
theorem Un {pre rest:Str} {p:api_Code} (h:cOk p) (hs:s=pre ++ (Bn p ++ rest)):Zh N ⟨s,((pre.length:Nat):Int)⟩=some (some (p,⟨s,(((pre ++ Bn p).length:Nat):Int)⟩)):=by
  obtain ⟨h1,h2,h3,h4⟩:=h
  have hg:=Io hN hl (f:=Dh) (l:=p.L) (fun x hx=>by have:=Ie (h4 x hx).1;unfold Dh;rw [List.length_append];omega)
  have s1:s=pre ++ (Ap p.Regs ++ (Ap p.Counts ++ (Ap (p.L.length:Int) ++ (p.L.flatMap Dh ++ rest)))):=by rw [hs];unfold Bn;simp only [List.append_assoc]
  have s2:s=(pre ++ Ap p.Regs) ++ (Ap p.Counts ++ (Ap (p.L.length:Int) ++ (p.L.flatMap Dh ++ rest))):=by rw [s1];simp only [List.append_assoc]
  have s3:s=(pre ++ Ap p.Regs ++ Ap p.Counts) ++ (Ap (p.L.length:Int) ++ (p.L.flatMap Dh ++ rest)):=by rw [s1];simp only [List.append_assoc]
  have s4:s=(pre ++ Ap p.Regs ++ Ap p.Counts ++ Ap (p.L.length:Int)) ++ (p.L.flatMap Dh ++ rest):=by rw [s1];simp only [List.append_assoc]
  have hln:(p.L.length:Int)≤(s.length:Int):=by
    have:s.length=(pre ++ Ap p.Regs ++ Ap p.Counts ++ Ap (p.L.length:Int)).length+((p.L.flatMap Dh).length+rest.length):=by rw [s4];simp only [List.length_append]
    omega
  unfold Zh
  rw [Fe hN hl h1 s1]
  show ((Zn N ⟨s,(((pre ++ Ap p.Regs).length:Nat):Int)⟩).bindP _)=_
  rw [Fe hN hl h2 s2]
  show ((Zm N ⟨s,(((pre ++ Ap p.Regs ++ Ap p.Counts).length:Nat):Int)⟩).bindP _)=_
  rw [Js hN hl ⟨by omega,by omega⟩ hln s3]
  have:=Wr hN hl (R:=(p.Regs,⟨s,(((pre ++ Ap p.Regs).length:Nat):Int)⟩)) (C:=(p.Counts,⟨s,(((pre ++ Ap p.Regs ++ Ap p.Counts).length:Nat):Int)⟩)) (c:=(p.L.length:Int)) (r0:=⟨s,(((pre ++ Ap p.Regs ++ Ap p.Counts ++ Ap (p.L.length:Int)).length:Nat):Int)⟩) p.L [] N (pre ++ Ap p.Regs ++ Ap p.Counts ++ Ap (p.L.length:Int)) rest (by simp) (by simpa using h3) h4 (by omega) s4
  refine Eq.trans this ?_
  unfold Bn
  simp only [List.append_assoc,List.nil_append]
theorem Tj {A C:List Int×binary_reader} {B D:Int×binary_reader} {T:List api_Code} {R:api_Code×binary_reader} {c:Int} {r0:binary_reader}:∀ (b a:List (List api_Op)) (k:Nat) (pre rest:Str),c=((a.length+b.length:Nat):Int)→a.length+b.length≤300000→(∀ l∈b,l.length≤300000∧∀ o∈l,oOk o)→b.length < k→s=pre ++ (b.flatMap Bf ++ rest)→
    Zy N (Zw A B C D T R) (c,r0) k ⟨s,((pre.length:Nat):Int)⟩ a ((a.length:Nat):Int)=some (some (⟨A.1,B.1,C.1,D.1,T,R.1,a ++ b⟩,⟨s,(((pre ++ b.flatMap Bf).length:Nat):Int)⟩)):=by
  intro b
  induction b with
  | nil =>
    intro a k pre rest hc _ _ hk _
    obtain ⟨k,rfl⟩:∃ q,k=q+1:=⟨k - 1,by omega⟩
    rw [Zy,if_neg (by show ¬ ((a.length:Nat):Int) < c;simp at hc;omega),Zw]
    simp
  | cons x b ih =>
    intro a k pre rest hc h3 hx hk hs
    obtain ⟨k,rfl⟩:∃ q,k=q+1:=⟨k - 1,by omega⟩
    rw [List.length_cons] at h3 hc
    rw [List.flatMap_cons,List.append_assoc] at hs
    obtain ⟨x1,x2⟩:=hx x (by simp)
    rw [Zy,if_pos (by show ((a.length:Nat):Int) < c;omega),Me hN hl x1 x2 hs]
    show ((B9 24 a ([x]:List (List api_Op))).bind _)=_
    rw [Az (by simp;omega) (by decide)]
    simp only [Option.bind_some]
    rw [Bd (n:=300000) (by omega) (by decide)]
    have rc:=ih (a ++ [x]) k (pre ++ Bf x) rest (by simp;omega) (by simp;omega) (fun y hy=>hx y (List.mem_cons_of_mem _ hy)) (by simpa using hk) (by rw [hs];simp only [List.append_assoc])
    rw [show ((a ++ [x]).length:Nat)=a.length+1 from by simp] at rc
    refine Eq.trans rc ?_
    simp only [List.append_assoc,List.cons_append,List.nil_append,List.flatMap_cons]
theorem Rm {q:binary_reader→List api_Code→Option (Option (api_Unit×binary_reader))} {c:Int} {r0:binary_reader}:∀ (b a:List api_Code) (k:Nat) (pre rest:Str),c=((a.length+b.length:Nat):Int)→a.length+b.length≤300000→(∀ p∈b,cOk p)→b.length < k→s=pre ++ (b.flatMap Bn ++ rest)→
    Zx N q (c,r0) k ⟨s,((pre.length:Nat):Int)⟩ a ((a.length:Nat):Int)=q ⟨s,(((pre ++ b.flatMap Bn).length:Nat):Int)⟩ (a ++ b):=by
  intro b
  induction b with
  | nil =>
    intro a k pre rest hc _ _ hk _
    obtain ⟨k,rfl⟩:∃ q,k=q+1:=⟨k - 1,by omega⟩
    rw [Zx,if_neg (by show ¬ ((a.length:Nat):Int) < c;simp at hc;omega)]
    simp
  | cons x b ih =>
    intro a k pre rest hc h3 hx hk hs
    obtain ⟨k,rfl⟩:∃ q,k=q+1:=⟨k - 1,by omega⟩
    rw [List.length_cons] at h3 hc
    rw [List.flatMap_cons,List.append_assoc] at hs
    rw [Zx,if_pos (by show ((a.length:Nat):Int) < c;omega),Un hN hl (hx x (by simp)) hs]
    show ((B9 40 a ([x]:List api_Code)).bind _)=_
    rw [Az (by simp;omega) (by decide)]
    simp only [Option.bind_some]
    rw [Bd (n:=300000) (by omega) (by decide)]
    have rc:=ih (a ++ [x]) k (pre ++ Bn x) rest (by simp;omega) (by simp;omega) (fun y hy=>hx y (List.mem_cons_of_mem _ hy)) (by simpa using hk) (by rw [hs];simp only [List.append_assoc])
    rw [show ((a ++ [x]).length:Nat)=a.length+1 from by simp] at rc
    refine Eq.trans rc ?_
    simp only [List.append_assoc,List.cons_append,List.nil_append,List.flatMap_cons]
set_option maxHeartbeats 4000000 in
theorem Ud {rest:Str} {u:api_Unit} (h:uOk u) (hs:s=Dw u ++ rest):Zu N ⟨s,0⟩=some (some (u,⟨s,(((Dw u).length:Nat):Int)⟩)):=by
  obtain ⟨⟨a1,a2⟩,b1,⟨c1,c2⟩,d1,⟨t1,t2⟩,r1,k1,k2⟩:=h
  have gT:=Io hN hl (f:=Bn) (l:=u.Threads) (fun p hp=>by have:=Ie (t2 p hp).1;unfold Bn;rw [List.length_append];omega)
  have gK:=Io hN hl (f:=Bf) (l:=u.Claims) (fun l hl'=>by have:=Ie (n:=(l.length:Int)) ⟨by omega,by have:=(k2 l hl').1;omega⟩;unfold Bf;rw [List.length_append];omega)
  have s0:s=[] ++ (Bm u.Lines ++ (Ap u.Stays ++ (Bm u.Firsts ++ (Ap u.Locks ++ (Ap (u.Threads.length:Int) ++ (u.Threads.flatMap Bn ++ (Bn u.Recover ++ (Ap (u.Claims.length:Int) ++ (u.Claims.flatMap Bf ++ rest))))))))):=by rw [hs];unfold Dw;simp only [List.append_assoc,List.nil_append]
  have s1:s=([] ++ Bm u.Lines) ++ (Ap u.Stays ++ (Bm u.Firsts ++ (Ap u.Locks ++ (Ap (u.Threads.length:Int) ++ (u.Threads.flatMap Bn ++ (Bn u.Recover ++ (Ap (u.Claims.length:Int) ++ (u.Claims.flatMap Bf ++ rest)))))))):=by rw [s0];simp only [List.append_assoc]
  have s2:s=([] ++ Bm u.Lines ++ Ap u.Stays) ++ (Bm u.Firsts ++ (Ap u.Locks ++ (Ap (u.Threads.length:Int) ++ (u.Threads.flatMap Bn ++ (Bn u.Recover ++ (Ap (u.Claims.length:Int) ++ (u.Claims.flatMap Bf ++ rest))))))):=by rw [s0];simp only [List.append_assoc]
  have s3:s=([] ++ Bm u.Lines ++ Ap u.Stays ++ Bm u.Firsts) ++ (Ap u.Locks ++ (Ap (u.Threads.length:Int) ++ (u.Threads.flatMap Bn ++ (Bn u.Recover ++ (Ap (u.Claims.length:Int) ++ (u.Claims.flatMap Bf ++ rest)))))):=by rw [s0];simp only [List.append_assoc]
  have s4:s=([] ++ Bm u.Lines ++ Ap u.Stays ++ Bm u.Firsts ++ Ap u.Locks) ++ (Ap (u.Threads.length:Int) ++ (u.Threads.flatMap Bn ++ (Bn u.Recover ++ (Ap (u.Claims.length:Int) ++ (u.Claims.flatMap Bf ++ rest))))):=by rw [s0];simp only [List.append_assoc]
  have s5:s=([] ++ Bm u.Lines ++ Ap u.Stays ++ Bm u.Firsts ++ Ap u.Locks ++ Ap (u.Threads.length:Int)) ++ (u.Threads.flatMap Bn ++ (Bn u.Recover ++ (Ap (u.Claims.length:Int) ++ (u.Claims.flatMap Bf ++ rest)))):=by rw [s0];simp only [List.append_assoc]
  have s6:s=([] ++ Bm u.Lines ++ Ap u.Stays ++ Bm u.Firsts ++ Ap u.Locks ++ Ap (u.Threads.length:Int) ++ u.Threads.flatMap Bn) ++ (Bn u.Recover ++ (Ap (u.Claims.length:Int) ++ (u.Claims.flatMap Bf ++ rest))):=by rw [s0];simp only [List.append_assoc]
  have s7:s=([] ++ Bm u.Lines ++ Ap u.Stays ++ Bm u.Firsts ++ Ap u.Locks ++ Ap (u.Threads.length:Int) ++ u.Threads.flatMap Bn ++ Bn u.Recover) ++ (Ap (u.Claims.length:Int) ++ (u.Claims.flatMap Bf ++ rest)):=by rw [s0];simp only [List.append_assoc]
  have s8:s=([] ++ Bm u.Lines ++ Ap u.Stays ++ Bm u.Firsts ++ Ap u.Locks ++ Ap (u.Threads.length:Int) ++ u.Threads.flatMap Bn ++ Bn u.Recover ++ Ap (u.Claims.length:Int)) ++ (u.Claims.flatMap Bf ++ rest):=by rw [s0];simp only [List.append_assoc]
  have len2:∀ {a b c:Str},s=a ++ (b ++ c)→b.length≤s.length:=fun e=>by rw [e,List.length_append,List.length_append];omega
  have lT:(u.Threads.length:Int)≤(s.length:Int):=by have:=len2 s5;omega
  have lK:(u.Claims.length:Int)≤(s.length:Int):=by have:=len2 s8;omega
  unfold Zu
  rw [show (0:Int)=((([]:Str).length:Nat):Int) from rfl,Ua hN hl a1 a2 s0]
  show ((Zn N ⟨s,((([] ++ Bm u.Lines).length:Nat):Int)⟩).bindP _)=_
  rw [Fe hN hl b1 s1]
  show ((Zo N ⟨s,((([] ++ Bm u.Lines ++ Ap u.Stays).length:Nat):Int)⟩).bindP _)=_
  rw [Ua hN hl c1 c2 s2]
  show ((Zn N ⟨s,((([] ++ Bm u.Lines ++ Ap u.Stays ++ Bm u.Firsts).length:Nat):Int)⟩).bindP _)=_
  rw [Fe hN hl d1 s3]
  show ((Zm N ⟨s,((([] ++ Bm u.Lines ++ Ap u.Stays ++ Bm u.Firsts ++ Ap u.Locks).length:Nat):Int)⟩).bindP _)=_
  rw [Js hN hl ⟨by omega,by omega⟩ lT s4]
  refine Eq.trans (Rm hN hl u.Threads [] N _ _ (by simp) (by simpa using t1) t2 (by omega) s5) ?_
  rw [Zv,Un hN hl r1 s6]
  show ((Zm N ⟨s,((([] ++ Bm u.Lines ++ Ap u.Stays ++ Bm u.Firsts ++ Ap u.Locks ++ Ap (u.Threads.length:Int) ++ u.Threads.flatMap Bn ++ Bn u.Recover).length:Nat):Int)⟩).bindP _)=_
  rw [Js hN hl ⟨by omega,by omega⟩ lK s7]
  refine Eq.trans (Tj hN hl u.Claims [] N _ _ (by simp) (by simpa using k1) k2 (by omega) s8) ?_
  unfold Dw
  simp only [List.append_assoc,List.nil_append]
end
end Go.MD.BINZ
namespace Go.MD.BINZ
open Go Go.MD
theorem Rn {st:Int}:∀ (l:List Int) (j:Nat) (pv:Int),Hh st j pv l=true→-1≤pv→pv < (j:Int)→(0 < j→0≤pv)→∀ x∈l,0≤x∧x < (j:Int)+(l.length:Int)
  | [],_,_,_,_,_,_,x,hx=>nomatch hx
  | y :: r, j, pv, h, h1, h2, h3, x, hx => by
    rw [Hh,Bool.and_eq_true] at h
    obtain ⟨ha,hb⟩:=h
    have hy:y=pv+1∨(0 < j∧(j:Int) < st∧y=pv):=by simpa using ha
    have y0:0≤y:=by
      rcases hy with e | ⟨e1,_,e2⟩
      · omega
      · have:=h3 e1;omega
    have y1:y < ((j+1:Nat):Int):=by omega
    rw [List.length_cons]
    rcases List.mem_cons.1 hx with rfl | hx
    · omega
    · have := Rn r (j + 1) y hb (by omega) y1 (fun _ => y0) x hx
      omega
theorem Mf {a n:Int} (h:inB a n=true) (hn:n≤1099511627776):nOk a:=by
  unfold inB at h
  simp only [Bool.and_eq_true,decide_eq_true_eq] at h
  exact ⟨h.1,by omega⟩
theorem Sl {l:List api_Op} {m:Int} (h:De l m=true) (hm:m≤1099511627776):l.length≤300000∧∀ o∈l,oOk o:=by
  unfold De at h
  simp only [Bool.and_eq_true,decide_eq_true_eq] at h
  obtain ⟨⟨h1,_⟩,h3⟩:=h
  refine ⟨by omega,fun o ho=>?_⟩
  have hk:=List.all_eq_true.1 h3 o ho
  unfold Nh at hk
  by_cases e1:o.Kind=1
  · rw [if_pos e1] at hk;have:=of_decide_eq_true hk;exact ⟨⟨by omega,by omega⟩,⟨by omega,by omega⟩⟩
  · rw [if_neg e1] at hk
    by_cases e2:o.Kind=2
    · rw [if_pos e2] at hk;have:=of_decide_eq_true hk;exact ⟨⟨by omega,by omega⟩,⟨by omega,by omega⟩⟩
    · rw [if_neg e2] at hk;have:=of_decide_eq_true hk;exact ⟨⟨by omega,by omega⟩,⟨by omega,by omega⟩⟩
theorem Xg {l:List api_Op} (h:decide ((l.length:Int)=0)=true):l.length≤300000∧∀ o∈l,oOk o:=by
  have h:=of_decide_eq_true h
  have:l=[]:=List.length_eq_zero_iff.1 (by omega)
  subst this
  exact ⟨by simp,fun _ h=>nomatch h⟩
theorem Pd {a:Int} (h:decide (a=0)=true):nOk a:=by
  have h:=of_decide_eq_true h
  exact ⟨by omega,by omega⟩
theorem Jcb {x:api_Instr} {R C p4 p5 p6:Int} (h:Cn x R C p4 p5 p6=true) (hR:R≤1000) (hC:C≤1000) (h4:p4≤10000) (h5:p5≤10000) (h6:p6≤10000) (hT:nOk x.To):iOk x:=by
  unfold Cn at h
  simp only [Bool.and_eq_true,decide_eq_true_eq] at h
  obtain ⟨⟨k1,k2⟩,ha,hb,he,hf⟩:=h
  refine ⟨⟨by omega,by omega⟩,?_,?_,hT,?_,?_⟩
  · unfold fA at ha
    split at ha
    · exact Mf ha (by omega)
    · split at ha
      · exact Mf ha (by omega)
      · exact Pd ha
  · unfold fB at hb
    split at hb
    · exact Mf hb (by omega)
    · split at hb
      · exact Mf hb (by omega)
      · split at hb
        · exact Mf hb (by omega)
        · split at hb
          · simp only [Bool.and_eq_true,decide_eq_true_eq] at hb;exact ⟨by omega,by omega⟩
          · exact Pd hb
  · unfold fE at he
    split at he
    · exact Sl he (by omega)
    · exact Xg he
  · unfold fF at hf
    split at hf
    · exact Sl hf (by omega)
    · exact Xg hf
theorem Jdj {l:List api_Instr} {i:Nat} {x:api_Instr} (hl:l.length≤300000) (hi:i < l.length) (h:toB l i x=true):nOk x.To:=by
  unfold toB at h
  split at h
  · simp only [Bool.and_eq_true,decide_eq_true_eq] at h;exact ⟨by omega,by omega⟩
  · split at h
    · split at h
      · cases h
      · exact ⟨by omega,by omega⟩
    · exact Pd h
theorem Um {p:api_Code} {p4 p5 p6:Int} (h:Gy p p4 p5 p6=true) (hs:small p) (h4:p4≤10000) (h5:p5≤10000) (h6:p6≤10000):cOk p:=by
  unfold Gy at h
  simp only [Bool.and_eq_true,Bool.not_eq_true',Bool.or_eq_false_iff,decide_eq_false_iff_not] at h
  obtain ⟨⟨⟨⟨r1,r2⟩,r3⟩,r4⟩,hi,_⟩:=h
  refine ⟨⟨by omega,by omega⟩,⟨by omega,by omega⟩,hs.1,fun x hx=>?_⟩
  obtain ⟨i,hi',rfl⟩:=List.mem_iff_getElem.1 hx
  have hb:=List.all_eq_true.1 hi i (by rw [← List.range_eq_range'];exact List.mem_range.2 hi')
  unfold Nc at hb
  rw [List.getElem?_eq_getElem hi'] at hb
  simp only [Bool.and_eq_true] at hb
  exact Jcb hb.1 (by omega) (by omega) h4 h5 h6 (Jdj hs.1 hi' hb.2)
theorem Tv {u:api_Unit} (h:Em u=true) (hs:Cy u):uOk u:=by
  unfold Em Vp at h
  simp only [Bool.and_eq_true,Bool.not_eq_true',Bool.or_eq_false_iff,decide_eq_false_iff_not] at h
  obtain ⟨⟨⟨⟨⟨⟨⟨⟨o1,o2⟩,o3⟩,o4⟩,o5⟩,o6⟩,o7⟩,o8⟩,hl,hf,ht,hr,hc⟩:=h
  obtain ⟨s1,s2,s3,s4,s5,s6,s7⟩:=hs
  have hin:=Rn u.Lines 0 (-1) hl (by omega) (by omega) (by omega)
  have hln:lnI u≤10000:=by
    unfold lnI
    split
    · rename_i hst
      have hlt:(u.Stays - 1).toNat < u.Lines.length:=by omega
      rw [List.getElem?_eq_getElem hlt]
      have:=hin _ (List.getElem_mem hlt)
      rw [Option.getD_some,w64 (by omega) (by omega)];omega
    · omega
  refine ⟨⟨s1,fun x hx=>?_⟩,⟨by omega,by omega⟩,⟨s2,fun x hx=>?_⟩,⟨by omega,by omega⟩,⟨s3,fun p hp=>?_⟩,?_,s4,fun l hl'=>?_⟩
  · have:=hin x hx;exact ⟨by omega,by omega⟩
  · have := List.all_eq_true.1 hf x hx
    unfold okF at this
    simp only [Bool.not_eq_true',Bool.or_eq_false_iff,decide_eq_false_iff_not] at this
    exact ⟨by omega,by omega⟩
  · exact Um (List.all_eq_true.1 ht p hp) (s5 p hp) (by omega) hln (by omega)
  · exact Um hr s6 (by omega) hln (by omega)
  · exact Sl (List.all_eq_true.1 hc l hl') (by omega)
end Go.MD.BINZ
namespace Go.MD.BINZ
open Go Go.MD
theorem Ly {N:Nat} (hN:300001 < N) {s:Str} (hl:s.length≤250000) (h:∀ u,Em u=true→Cy u→Dw u≠s):∃ v,Z0 N s=some (v,8):=by
  obtain ⟨u,i,_,hu,_,hb⟩:=Yo hN hl
  unfold Z0
  rw [hb]
  cases i.Bad with
  | true=>exact ⟨Nr,rfl⟩
  | false =>
    show ∃ v,((Z2 N u).bind fun r59=>if ((decide (r59.2≠0)) || (decide (r59.1≠s)))=true then Z1 else some (u,0))=some (v,8)
    rw [N2 (by omega) hu]
    simp only [Option.bind_some]
    cases hu2:Em u with
    | false=>exact ⟨Nr,by simp [Z1,Nr]⟩
    | true=>exact ⟨Nr,by simp [Z1,Nr,h u hu2 hu]⟩
theorem Up {u v:api_Unit} {r:Str} (hu:Em u=true) (su:Cy u) (hv:Em v=true) (sv:Cy v) (hl:(Dw u).length≤1000000) (e:Dw u=Dw v ++ r):r=[]:=by
  have h1:=Ud (N:=1000001) (by decide) hl (rest:=[]) (Tv hu su) (by rw [List.append_nil])
  have h2:=Ud (N:=1000001) (by decide) hl (rest:=r) (Tv hv sv) e
  rw [h1] at h2
  simp only [Option.some.injEq,Prod.mk.injEq,binary_reader.mk.injEq,true_and] at h2
  have h3:(Dw u).length=(Dw v).length:=by omega
  rw [e,List.length_append] at h3
  exact List.length_eq_zero_iff.1 (by omega)
theorem Tk {N:Nat} (hN:300001 < N) {u:api_Unit} (hu:Em u=true) (su:Cy u) (hl:(Dw u).length≤250000) {k:Nat} (hk:k < (Dw u).length):∃ v,Z0 N ((Dw u).take k)=some (v,8):=by
  refine Ly hN (by rw [List.length_take];omega) fun v hv sv e=>?_
  have h:=Up hu su hv sv (r:=(Dw u).drop k) (by omega) (by rw [e,List.take_append_drop])
  have:((Dw u).drop k).length=0:=by rw [h];rfl
  rw [List.length_drop] at this
  omega
theorem Qv {N:Nat} (hN:300001 < N) {u:api_Unit} (hu:Em u=true) (su:Cy u) (hl:(Dw u).length < 250000) (b:UInt8):∃ v,Z0 N (Dw u ++ [b])=some (v,8):=by
  refine Ly hN (by simp;omega) fun v hv sv e=>?_
  have h:=Up hv sv hu su (r:=[b]) (by rw [e];simp;omega) e
  cases h
end Go.MD.BINZ
