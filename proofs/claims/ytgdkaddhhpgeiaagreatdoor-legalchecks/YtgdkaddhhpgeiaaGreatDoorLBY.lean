/- Threads, Hw is too much, loops that go round too often. No condition: plain lemmas. -/
import Derived.Test.YtgdkaddhhpgeiaaGreatDoorLBX
import Derived.Test.YtgdkaddhhpgeiaaGreatDoorLBR
namespace Go.MD.LB
open Go Go.MD
def Cv (p:api_Prog):List api_Thread:=p.Threads ++ p.Recover
theorem Gh {p:api_Prog} (hp:SmallP p):(Cv p).length≤8∧∀ t∈Cv p,SmallT t:=by
  refine ⟨?_,fun t ht=>(List.mem_append.1 ht).elim (hp.thread t) (hp.recov t)⟩
  have:=hp.threads;have:=hp.recover
  simp only [Cv,List.length_append];omega
theorem Ph {p:api_Prog} (hp:SmallP p) (m:Nat):Z8f (m+3) p=some (Cv p):=by
  have h1:=hp.threads
  have h2:=hp.recover
  unfold Z8f Z9l
  have w1:IntKind.i64.wrap (0+(p.Threads.length:Int))=(p.Threads.length:Int):=by rw [w64 (by omega) (by omega)];omega
  have w2:IntKind.i64.wrap ((p.Threads.length:Int)+(p.Recover.length:Int))=((p.Threads.length+p.Recover.length:Nat):Int):=by rw [w64 (by omega) (by omega)];omega
  have i1:IntKind.i64.wrap (0+1)=1:=by decide
  have i2:IntKind.i64.wrap (1+1)=2:=by decide
  rw [Z9o,if_pos (by show (0:Int) < 2;decide),Np]
  simp only [Option.bind_some,w1]
  rw [if_neg (by omega),i1,Z9o,if_pos (by show (1:Int) < 2;decide),Pq]
  simp only [Option.bind_some,w2]
  rw [if_neg (by omega),i2,Z9o,if_neg (by show ¬ (2:Int) < 2;decide),Z9m]
  have hg:Pf 72 ((p.Threads.length+p.Recover.length:Nat):Int)=some ():=by
    unfold Pf
    rw [if_pos ⟨by omega,by omega,by omega⟩]
  rw [hg]
  simp only [Option.bind_some]
  rw [Z9p,if_pos (by show (0:Int) < 2;decide),Np]
  simp only [Option.bind_some]
  rw [Cg (by simp;omega) (by decide)]
  simp only [Option.bind_some,List.nil_append]
  rw [i1,Z9p,if_pos (by show (1:Int) < 2;decide),Pq]
  simp only [Option.bind_some]
  rw [Cg (by omega) (by decide)]
  simp only [Option.bind_some]
  rw [i2,Z9p,if_neg (by show ¬ (2:Int) < 2;decide)]
  rfl
theorem Gg {p:api_Prog} (hp:SmallP p):Z8f 1001 p=some (Cv p):=Ph hp 998
theorem Gx {p:api_Prog} (hp:SmallP p):Z6g 1001 p=some (Cv p):=by
  have h1:=hp.threads
  have h2:=hp.recover
  unfold Z6g
  rw [Cg (by simp;omega) (by decide)]
  simp only [Option.bind_some,List.nil_append]
  rw [Cg (by omega) (by decide)]
  rfl
def Fe (l:List api_Cell):Bool:=!decide (4 < l.length)
def Lw (t:api_Thread):Bool:=!decide (4 < t.Regs.length)
theorem Xd (l:List api_Cell):Z81 1001 l=some (!Fe l):=by
  unfold Z81 Fe
  rw [Bool.not_not];congr 2;exact propext (by omega)
theorem Uq (t:api_Thread):Z82 1001 t=some (!Lw t):=by
  unfold Z82 Lw
  rw [Bool.not_not];congr 2;exact propext (by omega)
theorem Tp {l:List (List api_Cell)} (hl:l.length≤1000) (hs:∀ x∈l,True):Z9r 1001 l=some (!l.all Fe):=by
  have key:∀ (d j n:Nat),j+d=l.length→d < n→∃ r,Za6 1001 Za5 l n (j:Int)=some r∧(decide (0≤r) = !(l.drop j).all Fe):=by
    intro d
    induction d with
    | zero =>
      intro j n hj hn
      obtain ⟨n,rfl⟩:∃ m,n=m+1:=⟨n - 1,by omega⟩
      rw [Za6,if_neg (by omega),List.drop_of_length_le (by omega)]
      exact ⟨-1,rfl,rfl⟩
    | succ d ih =>
      intro j n hj hn
      obtain ⟨n,rfl⟩:∃ m,n=m+1:=⟨n - 1,by omega⟩
      have h1:j < l.length:=by omega
      have h2:Z81 1001 l[j]=some (!Fe l[j]):=Xd _
      rw [Za6,if_pos (by omega),As rfl h1]
      simp only [Option.bind_some,h2]
      rw [List.drop_eq_getElem_cons h1,List.all_cons]
      cases hk:Fe l[j] with
      | false=>exact ⟨j,by simp,by simp⟩
      | true =>
        obtain ⟨r,h2,h3⟩:=ih (j+1) n (by omega) (by omega)
        rw [Bf h1 (by omega)]
        exact ⟨r,by simpa using h2,by simpa using h3⟩
  obtain ⟨r,h1,h2⟩:=key l.length 0 1001 (by omega) (by omega)
  unfold Z9r Za4
  rw [show (0:Int)=((0:Nat):Int) from rfl,h1]
  simpa using h2
theorem Ue {l:List api_Thread} (hl:l.length≤1000) (hs:∀ x∈l,True):Z9y 1001 l=some (!l.all Lw):=by
  have key:∀ (d j n:Nat),j+d=l.length→d < n→∃ r,Zar 1001 Zaq l n (j:Int)=some r∧(decide (0≤r) = !(l.drop j).all Lw):=by
    intro d
    induction d with
    | zero =>
      intro j n hj hn
      obtain ⟨n,rfl⟩:∃ m,n=m+1:=⟨n - 1,by omega⟩
      rw [Zar,if_neg (by omega),List.drop_of_length_le (by omega)]
      exact ⟨-1,rfl,rfl⟩
    | succ d ih =>
      intro j n hj hn
      obtain ⟨n,rfl⟩:∃ m,n=m+1:=⟨n - 1,by omega⟩
      have h1:j < l.length:=by omega
      have h2:Z82 1001 l[j]=some (!Lw l[j]):=Uq _
      rw [Zar,if_pos (by omega),As rfl h1]
      simp only [Option.bind_some,h2]
      rw [List.drop_eq_getElem_cons h1,List.all_cons]
      cases hk:Lw l[j] with
      | false=>exact ⟨j,by simp,by simp⟩
      | true =>
        obtain ⟨r,h2,h3⟩:=ih (j+1) n (by omega) (by omega)
        rw [Bf h1 (by omega)]
        exact ⟨r,by simpa using h2,by simpa using h3⟩
  obtain ⟨r,h1,h2⟩:=key l.length 0 1001 (by omega) (by omega)
  unfold Z9y Zap
  rw [show (0:Int)=((0:Nat):Int) from rfl,h1]
  simpa using h2
def Qh (p:api_Prog):Bool:=!(p.Lines.all Fe && (Cv p).all Lw) || decide (4 < p.Lines.length∨4 < p.Vols.length∨2 < p.Locks.length∨p.Threads.length < 1∨3 < p.Threads.length∨4 < p.Claims.length)
theorem Jax {p:api_Prog} (hp:SmallP p):Z80 1001 p=some (Qh p):=by
  unfold Z80 Qh
  by_cases h1:4 < p.Lines.length
  · rw [if_pos (by omega),decide_eq_true (.inl h1)];simp
  · rw [if_neg (by omega), Tp (by have := hp.lines; omega) (fun _ _ => trivial)]
    simp only [Option.bind_some]
    cases p.Lines.all Fe with
    | false=>rw [if_pos (by simp)];simp
    | true =>
      by_cases h2:4 < p.Vols.length∨2 < p.Locks.length∨p.Threads.length=0∨3 < p.Threads.length
      · rw [if_pos (by simp only [Bool.not_true,Bool.false_or,Bool.or_eq_true,decide_eq_true_eq];omega),decide_eq_true (by omega)];simp
      · rw [if_neg (by simp only [Bool.not_true, Bool.false_or, Bool.or_eq_true, decide_eq_true_eq]; omega), Gg hp]
        simp only [Option.bind_some]
        rw [Ue (by have:=(Gh hp).1;omega) (fun _ _=>trivial)]
        simp only [Option.bind_some]
        congr 1
        rw [show decide (4 < p.Lines.length∨4 < p.Vols.length∨2 < p.Locks.length∨p.Threads.length < 1∨3 < p.Threads.length∨4 < p.Claims.length)=decide (4 < (p.Claims.length:Int)) from by congr 1;exact propext (by omega)]
        simp
theorem Ql {p:api_Prog} (hp:SmallP p) (k:Option Bool):∀ (d j n:Nat),j+d=p.Lines.length→d < n→Z6k 1001 k p n (j:Int)=if (p.Lines.drop j).all Fe=true then k else some true:=by
  intro d
  have hC:=hp.lines
  induction d with
  | zero =>
    intro j n hj hn
    obtain ⟨n,rfl⟩:∃ m,n=m+1:=⟨n - 1,by omega⟩
    rw [Z6k,if_neg (by omega),List.drop_of_length_le (by omega)];rfl
  | succ d ih =>
    intro j n hj hn
    obtain ⟨n,rfl⟩:∃ m,n=m+1:=⟨n - 1,by omega⟩
    have h1:j < p.Lines.length:=by omega
    rw [Z6k,if_pos (by omega),As rfl h1]
    simp only [Option.bind_some]
    rw [List.drop_eq_getElem_cons h1,List.all_cons]
    conv=>rhs;rw [Fe]
    by_cases h:4 < p.Lines[j].length
    · rw [if_pos (by omega),decide_eq_true h];rfl
    · rw [if_neg (by omega),decide_eq_false h,Bf h1 (by omega),ih (j+1) n (by omega) (by omega)];simp
theorem Sq {l:List api_Thread} (hl:l.length≤1000) (k:Option Bool):∀ (d j n:Nat),j+d=l.length→d < n→Z6l 1001 k l n (j:Int)=if (l.drop j).all Lw=true then k else some true:=by
  intro d
  induction d with
  | zero =>
    intro j n hj hn
    obtain ⟨n,rfl⟩:∃ m,n=m+1:=⟨n - 1,by omega⟩
    rw [Z6l,if_neg (by omega),List.drop_of_length_le (by omega)];rfl
  | succ d ih =>
    intro j n hj hn
    obtain ⟨n,rfl⟩:∃ m,n=m+1:=⟨n - 1,by omega⟩
    have h1:j < l.length:=by omega
    rw [Z6l,if_pos (by omega),As rfl h1]
    simp only [Option.bind_some]
    rw [List.drop_eq_getElem_cons h1,List.all_cons]
    conv=>rhs;rw [Lw]
    by_cases h:4 < l[j].Regs.length
    · rw [if_pos (by omega),decide_eq_true h];rfl
    · rw [if_neg (by omega),decide_eq_false h,Bf h1 (by omega),ih (j+1) n (by omega) (by omega)];simp
theorem Xc {p:api_Prog} (hp:SmallP p):Z6h 1001 p=some (Qh p):=by
  have hL:=hp.lines
  have hT:=(Gh hp).1
  unfold Z6h Qh
  rw [show (0:Int)=((0:Nat):Int) from rfl,Ql hp _ p.Lines.length 0 1001 (by omega) (by omega),List.drop_zero]
  cases p.Lines.all Fe with
  | false=>rfl
  | true =>
    rw [if_pos rfl,Z6i,Gx hp]
    simp only [Option.bind_some]
    rw [show (0:Int)=((0:Nat):Int) from rfl,Sq (by omega) _ (Cv p).length 0 1001 (by omega) (by omega),List.drop_zero]
    cases (Cv p).all Lw with
    | false=>rfl
    | true =>
      rw [if_pos rfl,Z6j]
      congr 1
      rw [Bool.eq_iff_iff]
      simp only [Bool.or_eq_true,decide_eq_true_eq,Bool.and_self,Bool.not_true,Bool.false_or]
      omega
def B.wild:B→Int→Option Int
  | .nil,_=>none
  | .cons x a c r,n=>if 64 < (if x.Kind=12 then n * x.N else n) then some x.At else ((a.wild (if x.Kind=12 then n * x.N else n)).or (c.wild (if x.Kind=12 then n * x.N else n))).or (r.wild n)
theorem B.app_wild:∀ (b c:B) (n:Int),(b.app c).wild n=(b.wild n).or (c.wild n)
  | .nil,c,n=>rfl
  | .cons x a d r, c, n => by
    simp only [B.app,B.wild]
    generalize (if x.Kind=12 then n * x.N else n)=m
    split
    · rfl
    · rw [B.app_wild r c n];simp only [Option.or_assoc]
theorem B.app_size:∀ b c:B,(b.app c).size=b.size+c.size
  | .nil,c=>by simp [B.app,B.size]
  | .cons x a d r,c=>by simp only [B.app,B.size,B.app_size r c];omega
theorem B.app_depth:∀ b c:B,(b.app c).depth=max b.depth c.depth
  | .nil,c=>by simp [B.app,B.depth]
  | .cons x a d r, c => by
    simp only [B.app,B.depth,B.app_depth r c]
    split <;> omega
theorem B.app_okN {c:B} (hc:c.okN):∀ b:B,b.okN→(b.app c).okN
  | .nil,_=>hc
  | .cons x a d r,⟨h1,h2,h3,h4⟩=>⟨h1,h2,h3,B.app_okN hc r h4⟩
theorem OKB.ac {x:api_Stmt} {a c r:B} (h:OKB (.cons x a c r)):OKB (a.app c):=by
  have ha:=h.a
  have hc:=h.c
  obtain ⟨⟨p,hg⟩,hn,hs,hd⟩:=h
  have hdd:=Kc x a c r p hg
  simp only [B.size] at hs
  refine ⟨⟨inL x p,B.app_good hg.2.2.2.2.2.2.1 a hg.2.2.2.2.2.1⟩,B.app_okN hn.2.2.1 a hn.2.1,?_,?_⟩
  · rw [B.app_size];omega
  · rw [B.app_depth];omega
theorem N5 {l:List api_Stmt} {i:Nat} {x:api_Stmt} {a c r:B} (hl:l.length≤40) (hb:OKB (.cons x a c r)) (h:l.drop i=(B.cons x a c r).flat) :
    Du l ((i+1:Nat):Int) ((i+1+a.size+c.size:Nat):Int)=some (a.app c).flat:=by
  obtain ⟨h1,h2,w1,w2,w3,s1,s2,s3,s4⟩:=parts hl hb h
  rw [show i+1+a.size+c.size=(i+1)+(a.size+c.size) from by omega,Gb (by omega)]
  have e:l.drop (i+1)=a.flat ++ (c.flat ++ r.flat):=by
    have:=congrArg (List.drop 1) h
    rw [List.drop_drop] at this
    simpa [B.flat] using this
  rw [e,← List.append_assoc,← B.app_flat,List.take_left']
  rw [B.flat_len,B.app_size]
def Lb (o:Option Int):Int×Bool:=match o with | some v=>(v,true) | none=>(0,false)
theorem Wl:∀ (f:Nat) (b:B),OKB b→b.size+2≤f→∀ m:Int,0≤m→m≤64→Z8t f b.flat m=some (Lb (b.wild m)):=by
  intro f
  induction f with
  | zero=>intro b _ h;omega
  | succ f ih =>
    intro b hb hf m hm0 hm
    have hl:b.flat.length≤40:=by rw [B.flat_len];exact hb.size
    have key:∀ (t:B) (i n:Nat),OKB t→b.flat.drop i=t.flat→t.size < n→t.size≤b.size→Z8w (Z8t f) f Z8u b.flat m n (i:Int)=some (Lb (t.wild m)):=by
      intro t
      induction t with
      | nil =>
        intro i n ht hd hn _
        obtain ⟨n,rfl⟩:∃ q,n=q+1:=⟨n - 1,by omega⟩
        have:b.flat.length≤i:=by have:=congrArg List.length hd;simp [B.flat] at this;omega
        rw [Z8w,if_neg (by omega)];rfl
      | cons x a c r iha ihc ihr =>
        intro i n ht hd hn hsz
        obtain ⟨n,rfl⟩:∃ q,n=q+1:=⟨n - 1,by omega⟩
        obtain ⟨h1,h2,w1,w2,w3,s1,s2,s3,s4⟩:=parts hl ht hd
        have s5:=N5 hl ht hd
        simp only [B.size] at hn hsz
        rw [Z8w,if_pos (by omega),h2]
        simp only [Option.bind_some]
        have next:∀ q:Int,0≤q→q=(if x.Kind=12 then m * x.N else m)→Z8v (Z8t f) (Z8w (Z8t f) f Z8u b.flat m n) b.flat x (i:Int) q=some (Lb ((B.cons x a c r).wild m)):=by
          intro q hq0 hq
          rw [Z8v,B.wild,← hq]
          by_cases h64:64 < q
          · rw [if_pos h64,if_pos h64];rfl
          · rw [if_neg h64, if_neg h64]
            simp only [w1,w2,w3,s5,Option.bind_some]
            rw [ih (a.app c) ht.ac (by rw [B.app_size];omega) q hq0 (by omega),B.app_wild]
            simp only [Option.bind_some]
            cases (a.wild q).or (c.wild q) with
            | some v=>rfl
            | none=>rw [show (Lb none).2=false from rfl,if_neg (by decide),Option.none_or,ihr _ n ht.r s3 (by omega) (by omega)]
        by_cases k2:x.Kind=12
        · have hN := ht.okN.1 k2
          rw [if_pos k2]
          obtain ⟨u,rfl⟩:∃ u:Nat,m=(u:Int):=⟨m.toNat,by omega⟩
          obtain ⟨z,hz⟩:∃ z:Nat,x.N=(z:Int):=⟨x.N.toNat,by omega⟩
          have hb2:u * z≤64 * 8:=Nat.mul_le_mul (by omega) (by omega)
          have hw:IntKind.i64.wrap ((u:Int) * x.N)=(u:Int) * x.N:=by
            rw [hz,← Int.natCast_mul]
            generalize u * z=y at hb2
            rw [w64 (by omega) (by omega)]
          rw [hw]
          exact next _ (by rw [hz,← Int.natCast_mul];omega) (by rw [if_pos k2])
        · rw [if_neg k2]
          exact next m hm0 (by rw [if_neg k2])
    rw [Z8t]
    exact key b 0 f hb List.drop_zero (by omega) (Nat.le_refl _)
theorem Je:∀ (b:B) (n:Int) {v:Int},b.wild n=some v→∃ x∈b.flat,v=x.At
  | .nil,n,v,h=>by simp [B.wild] at h
  | .cons x a c r, n, v, h => by
    simp only [B.wild] at h
    generalize (if x.Kind=12 then n * x.N else n)=m at h
    split at h
    · injection h with h;exact ⟨x,.head _,h.symm⟩
    · rw [Option.or_eq_some_iff, Option.or_eq_some_iff] at h
      rcases h with (h | ⟨_,h⟩) | ⟨_,h⟩
      · obtain ⟨y,hy,e⟩:=Je a _ h;exact ⟨y,by simp [B.flat,hy],e⟩
      · obtain ⟨y,hy,e⟩:=Je c _ h;exact ⟨y,by simp [B.flat,hy],e⟩
      · obtain ⟨y,hy,e⟩:=Je r _ h;exact ⟨y,by simp [B.flat,hy],e⟩
theorem Vt:∀ (f:Nat) (b:B),OKB b→(∀ x∈b.flat,0≤x.At)→b.size+2≤f→∀ m:Int,0≤m→m≤64→Z72 f b.flat m=some ((b.wild m).getD (-1)):=by
  intro f
  induction f with
  | zero=>intro b _ _ h;omega
  | succ f ih =>
    intro b hb hat hf m hm0 hm
    cases b with
    | nil=>rfl
    | cons x a c r =>
      have hl:(B.cons x a c r).flat.length≤40:=by rw [B.flat_len];exact hb.size
      obtain ⟨h1,h2,w2,w3,s1,s2,s3⟩:=Yr hb rfl
      have s5:=N5 (i:=0) hl hb List.drop_zero
      simp only [Nat.zero_add] at s5
      simp only [B.size] at hf
      have hac:∀ y∈(a.app c).flat,0≤y.At:=fun y hy=>hat y (by rw [B.app_flat] at hy;simp only [B.flat,List.mem_cons,List.mem_append];rcases List.mem_append.1 hy with h | h <;> simp [h])
      have hr:∀ y∈r.flat,0≤y.At:=fun y hy=>hat y (by simp [B.flat,hy])
      have next:∀ q:Int,0≤q→q=(if x.Kind=12 then m * x.N else m)→Z73 (Z72 f) (B.cons x a c r).flat m x q=some (((B.cons x a c r).wild m).getD (-1)):=by
        intro q hq0 hq
        rw [Z73,B.wild,← hq]
        by_cases h64:64 < q
        · rw [if_pos h64,if_pos h64];rfl
        · rw [if_neg h64, if_neg h64]
          simp only [w2,w3]
          rw [show (1:Int)=((1:Nat):Int) from rfl,s5]
          simp only [Option.bind_some]
          rw [ih (a.app c) hb.ac hac (by rw [B.app_size];omega) q hq0 (by omega)]
          simp only [Option.bind_some]
          have hsp:=B.app_wild a c q
          cases hw:(a.app c).wild q with
          | some v =>
            rw [hw] at hsp
            obtain ⟨y,hy,e⟩:=Je _ _ hw
            have:=hac y hy
            rw [← hsp,Option.getD_some,if_pos (by omega)];rfl
          | none =>
            rw [hw] at hsp
            rw [← hsp,Option.getD_none,if_neg (by decide),s3]
            simp only [Option.bind_some]
            rw [ih r hb.r hr (by omega) m hm0 hm];rfl
      generalize hl:(B.cons x a c r).flat=l at h1 h2 next
      rw [Z72,if_neg (by omega),h2]
      simp only [Option.bind_some]
      by_cases k2:x.Kind=12
      · have hN := hb.okN.1 k2
        rw [if_pos k2]
        obtain ⟨u,rfl⟩:∃ u:Nat,m=(u:Int):=⟨m.toNat,by omega⟩
        obtain ⟨z,hz⟩:∃ z:Nat,x.N=(z:Int):=⟨x.N.toNat,by omega⟩
        have hb2:u * z≤64 * 8:=Nat.mul_le_mul (by omega) (by omega)
        have hw:IntKind.i64.wrap ((u:Int) * x.N)=(u:Int) * x.N:=by
          rw [hz,← Int.natCast_mul]
          generalize u * z=y at hb2
          rw [w64 (by omega) (by omega)]
        rw [hw]
        exact next _ (by rw [hz,← Int.natCast_mul];omega) (by rw [if_pos k2])
      · rw [if_neg k2]
        exact next m hm0 (by rw [if_neg k2])
end Go.MD.LB
