/- Which expressions may be, and Hw they are as steps. No condition: plain lemmas. -/
import Derived.Test.YtgdkaddhhpgeiaaGreatDoorLBH
namespace Go.MD.LB
open Go Go.MD
def Jp (c:Int):Bool:=(decide (97≤c) && decide (c≤122)) || decide (c=95)
def Su (c:Int):Bool:=decide (48≤c) && decide (c≤57)
def keptL:List Str:=[[108,105,110,101],[118,111,108],[108,111,99,107],[116,104,114,101,97,100],[114,101,103],[108,111,97,100],[115,116,111,114,101],[99,97,115],[102,108,117,115,104],[111,112,116],[115,102,101,110,99,101],[109,102,101,110,99,101],[116,97,107,101],[103,105,118,101],[105,102],[101,108,115,101],[108,111,111,112],[98,114,101,97,107],[99,104,101,99,107],[114,101,99,111,118,101,114],[97,108,119,97,121,115]]
theorem Wv:Z9d 1001=some (keptL.map fun s=>(s,true)):=by decide +kernel
theorem Ky (s:Str):∀ l:List Str,Be s (l.map fun x=>(x,true))=if s∈l then some true else none
  | []=>rfl
  | x :: l => by
    show (if s=x then some true else Be s (l.map fun x=>(x,true)))=_
    rw [Ky s l]
    by_cases e:s=x
    · subst e;simp
    · simp [e]
theorem Wd (s:Str):Z98 1001 s=some (decide (s∈keptL)):=by
  unfold Z98
  rw [Wv]
  simp only [Option.bind_some]
  rw [Ky]
  by_cases h:s∈keptL
  · rw [if_pos h,decide_eq_true h];rfl
  · rw [if_neg h,decide_eq_false h];rfl
theorem Lp (s:Str) (n:Nat) (j:Int):Z18 1001 Z17 s (n+1) j=if j < (keptL.length:Int) then (getI keptL j).bind fun x6=>if x6=s then some true else Z18 1001 Z17 s n (IntKind.i64.wrap (j+1)) else some false:=rfl
theorem Ul (s:Str):Z16 1001 s=some (decide (s∈keptL)):=by
  have key:∀ (d j n:Nat),j+d=keptL.length→d < n→Z18 1001 Z17 s n (j:Int)=some (decide (s∈keptL.drop j)):=by
    intro d
    induction d with
    | zero =>
      intro j n hj hn
      obtain ⟨n,rfl⟩:∃ m,n=m+1:=⟨n - 1,by omega⟩
      rw [Lp,if_neg (by omega),List.drop_of_length_le (by omega)]
      rfl
    | succ d ih =>
      intro j n hj hn
      obtain ⟨n,rfl⟩:∃ m,n=m+1:=⟨n - 1,by omega⟩
      have h1:j < keptL.length:=by omega
      have hk:keptL.length=21:=rfl
      rw [Lp,if_pos (by omega),As rfl h1]
      simp only [Option.bind_some]
      rw [List.drop_eq_getElem_cons h1]
      by_cases e:keptL[j]=s
      · rw [if_pos e];simp [e]
      · rw [if_neg e, Bf h1 (by omega), ih (j + 1) n (by omega) (by omega)]
        have e' : ¬ s=keptL[j]:=fun h=>e h.symm
        simp only [List.mem_cons,e',false_or]
  exact key keptL.length 0 1001 (by omega) (by decide)
def nmS (b:UInt8):Bool:=Jp (b.toNat:Int) || Su (b.toNat:Int)
theorem Us (N:Nat) (c:Int):Z9a N c=some (Jp c || Su c):=by
  unfold Z9a Z9g Z9c
  simp only [Option.bind_some]
  show (if Jp c=true then some true else some (Su c))=_
  cases Jp c <;> rfl
theorem Jaj {N:Nat} {s:Str} (hl:s.length≤1000) (hN:s.length < N):∃ r,Z9h N s=some r∧(decide (r=(s.length:Int))=s.all nmS):=by
  have key:∀ (d j n:Nat),j+d=s.length→d < n→∃ r,Z9k N Z9i s n (j:Int)=some r∧(decide (r=(s.length:Int))=(s.drop j).all nmS):=by
    intro d
    induction d with
    | zero =>
      intro j n hj hn
      obtain ⟨n,rfl⟩:∃ m,n=m+1:=⟨n - 1,by omega⟩
      rw [Z9k,if_neg (by omega),Z9j,if_neg (by decide),List.drop_of_length_le (by omega)]
      exact ⟨j,rfl,by simp;omega⟩
    | succ d ih =>
      intro j n hj hn
      obtain ⟨n,rfl⟩:∃ m,n=m+1:=⟨n - 1,by omega⟩
      have h1:j < s.length:=by omega
      rw [Z9k,if_pos (by omega)]
      unfold Di
      rw [As rfl h1]
      simp only [Option.map_some,Option.bind_some,Us]
      rw [List.drop_eq_getElem_cons h1,List.all_cons]
      have e:(Jp (s[j].toNat:Int) || Su (s[j].toNat:Int))=nmS s[j]:=rfl
      rw [e]
      cases hc:nmS s[j] with
      | true =>
        rw [Z9j,if_pos rfl,Bf h1 (by omega)]
        obtain ⟨r,h2,h3⟩:=ih (j+1) n (by omega) (by omega)
        exact ⟨r,h2,by simpa using h3⟩
      | false =>
        rw [Z9j,if_neg (by decide),Z9i]
        exact ⟨j,rfl,by simp;omega⟩
  unfold Z9h
  exact key s.length 0 N (by omega) hN
def Ce (s:Str):Bool:=match s with | []=>false | b :: r=>decide ((b :: r).length≤16) && Jp (b.toNat:Int) && !decide ((b :: r)∈keptL) && (b :: r).all nmS
theorem Is (s:Str):Z99 1001 s=some (Ce s):=by
  unfold Z99
  cases s with
  | nil=>rfl
  | cons b r =>
    by_cases h:16 < (b :: r).length
    · rw [if_pos (by simp at h ⊢; omega), Z9b, if_pos rfl]
      have : ¬ ((b :: r).length≤16):=by omega
      simp only [Ce,decide_eq_false this,Bool.false_and]
    · rw [if_neg (by simp at h ⊢; omega)]
      have hb:Di (b :: r) 0=some (b.toNat:Int):=rfl
      rw [hb]
      simp only [Option.bind_some,Z9g]
      show (if Jp (b.toNat:Int)=true then _ else _)=_
      have hle:(b :: r).length≤16:=by omega
      simp only [Ce,decide_eq_true hle,Bool.true_and]
      cases hlt:Jp (b.toNat:Int) with
      | false=>rfl
      | true =>
        rw [if_pos rfl,Wd]
        simp only [Option.bind_some,Bool.true_and]
        rw [Z9b]
        by_cases hk:(b :: r)∈keptL
        · rw [decide_eq_true hk];rfl
        · rw [decide_eq_false hk, if_neg (by decide)]
          obtain ⟨x,h1,h2⟩:=Jaj (N:=1001) (s:=b :: r) (by omega) (by omega)
          rw [h1]
          simp only [Option.bind_some,Bool.not_false,Bool.true_and]
          rw [h2]
theorem Qe {s:Str} (hl:s.length≤1000):∀ (d j n:Nat),j+d=s.length→d < n→Z1d 1001 Z1b s n (j:Int)=some ((s.drop j).all nmS):=by
  intro d
  induction d with
  | zero =>
    intro j n hj hn
    obtain ⟨n,rfl⟩:∃ m,n=m+1:=⟨n - 1,by omega⟩
    rw [Z1d,if_neg (by omega),List.drop_of_length_le (by omega)];rfl
  | succ d ih =>
    intro j n hj hn
    obtain ⟨n,rfl⟩:∃ m,n=m+1:=⟨n - 1,by omega⟩
    have h1:j < s.length:=by omega
    have go:∀ b,Z1c (Z1d 1001 Z1b s n) (j:Int) b=some (!b && (s.drop (j+1)).all nmS):=by
      intro b
      rw [Z1c]
      cases b with
      | true=>rfl
      | false=>rw [if_neg (by decide),Bf h1 (by omega),ih (j+1) n (by omega) (by omega)];rfl
    rw [Z1d,if_pos (by omega)]
    unfold Di
    rw [As rfl h1]
    simp only [Option.map_some,Option.bind_some,Z1s,Z1r,go]
    rw [List.drop_eq_getElem_cons h1,List.all_cons]
    show (if Jp (s[j].toNat:Int)=true then _ else some (!(!Su (s[j].toNat:Int)) && _))=some ((Jp (s[j].toNat:Int) || Su (s[j].toNat:Int)) && _)
    cases Jp (s[j].toNat:Int) <;> simp
theorem Fx (s:Str):Z19 1001 s=some (Ce s):=by
  unfold Z19
  cases s with
  | nil=>rfl
  | cons b r =>
    by_cases h:16 < (b :: r).length
    · rw [if_pos (by simp at h ⊢; omega), Z1a, if_pos rfl]
      have : ¬ ((b :: r).length≤16):=by omega
      simp only [Ce,decide_eq_false this,Bool.false_and]
    · rw [if_neg (by simp at h ⊢; omega)]
      have hb:Di (b :: r) 0=some (b.toNat:Int):=rfl
      rw [hb]
      simp only [Option.bind_some,Z1s]
      show (if Jp (b.toNat:Int)=true then _ else _)=_
      have hle:(b :: r).length≤16:=by omega
      simp only [Ce,decide_eq_true hle,Bool.true_and]
      cases hlt:Jp (b.toNat:Int) with
      | false=>rfl
      | true =>
        rw [if_pos rfl,Ul]
        simp only [Option.bind_some,Bool.true_and]
        rw [Z1a]
        by_cases hk:(b :: r)∈keptL
        · rw [decide_eq_true hk];rfl
        · rw [decide_eq_false hk, if_neg (by decide), show (0 : Int) = ((0 : Nat) : Int) from rfl, Qe (by omega) (b :: r).length 0 1001 (by omega) (by omega)]
          rfl
def Hy (x:api_Node):Bool:=decide (0≤x.At∧x.At≤4000) && (if x.Op=1 then decide (0≤x.N∧x.N≤4294967296∧x.Name=[]) else if x.Op=2 then decide (x.N=0) && Ce x.Name else decide (x.N=0∧x.Name=[]))
theorem Jaz (x:api_Node):Zc 1001 x=some (Hy x):=by
  unfold Zc Hy
  by_cases h:x.At < 0∨4000 < x.At
  · rw [if_pos (by simpa using h),decide_eq_false (by omega)];rfl
  · rw [if_neg (by simpa using h), decide_eq_true (show 0 ≤ x.At ∧ x.At ≤ 4000 by omega), Bool.true_and]
    by_cases e1:x.Op=1
    · rw [if_pos e1,if_pos e1];congr 1;rw [Bool.eq_iff_iff];simp [and_assoc]
    · rw [if_neg e1, if_neg e1]
      by_cases e2:x.Op=2
      · rw [if_pos e2, if_pos e2]
        by_cases e3:x.N=0
        · rw [if_pos e3,Is];simp [e3]
        · rw [if_neg e3];simp [e3]
      · rw [if_neg e2,if_neg e2];congr 1;rw [Bool.eq_iff_iff];simp
theorem Jat {l:List api_Node} (hl:l.length≤1000):Z9u 1001 l=some (!l.all Hy):=by
  have key:∀ (d j n:Nat),j+d=l.length→d < n→∃ r,Zaf 1001 Zae l n (j:Int)=some r∧(decide (0≤r) = !(l.drop j).all Hy):=by
    intro d
    induction d with
    | zero =>
      intro j n hj hn
      obtain ⟨n,rfl⟩:∃ m,n=m+1:=⟨n - 1,by omega⟩
      rw [Zaf,if_neg (by omega),List.drop_of_length_le (by omega)]
      exact ⟨-1,rfl,rfl⟩
    | succ d ih =>
      intro j n hj hn
      obtain ⟨n,rfl⟩:∃ m,n=m+1:=⟨n - 1,by omega⟩
      have h1:j < l.length:=by omega
      rw [Zaf,if_pos (by omega),As rfl h1]
      simp only [Option.bind_some,Z6,Jaz]
      rw [List.drop_eq_getElem_cons h1,List.all_cons]
      cases hk:Hy l[j] with
      | false=>exact ⟨j,by simp,by simp⟩
      | true =>
        obtain ⟨r,h2,h3⟩:=ih (j+1) n (by omega) (by omega)
        rw [Bf h1 (by omega)]
        exact ⟨r,by simpa using h2,by simpa using h3⟩
  obtain ⟨r,h1,h2⟩:=key l.length 0 1001 (by omega) (by omega)
  unfold Z9u Zad
  rw [show (0:Int)=((0:Nat):Int) from rfl,h1]
  simpa using h2
structure RightE (l:List api_Node) (t:T):Prop where
  len:l.length≤40
  may:∀ x∈l,Hy x=true
  flat:l=t.flat
  wk:t.wk
  depth:t.depth≤12
theorem Gv {l:List api_Node} {t:T} (h:l=t.flat):l=[] ++ (t.flat ++ []):=by rw [h];simp
theorem Xt {l:List api_Node} (h0:0 < l.length) (h:Ew 1 l 0=(l.length:Int)):∃ t:T,t.wk∧l=t.flat:=by
  unfold Ew at h
  rw [List.drop_zero] at h
  cases he:Ff 1 l with
  | none=>rw [he] at h;simp only at h;omega
  | some r =>
    rw [he] at h
    simp only at h
    have hr:r=[]:=List.eq_nil_of_length_eq_zero (by omega)
    subst hr
    obtain ⟨t,s',h1,h2,h3⟩:=Kd l.length l 0 [] (Nat.le_refl _) he
    rw [Eh] at h3
    cases h3
    exact ⟨t,h1,by rw [h2];simp⟩
theorem Mc {l:List api_Node} {t:T} (h1:t.wk) (h2:l=t.flat):Ew 1 l 0=(l.length:Int):=by
  have:=Jj (Gv h2) h1
  simp only [List.length_nil,Nat.zero_add] at this
  rw [this,h2,T.flat_len]
theorem Px {l:List api_Node} (hl:l.length≤60):∃ b,Z5 1001 l=some b∧(b=true↔∃ t,RightE l t):=by
  unfold Z5
  by_cases h:l.length=0∨40 < l.length
  · rw [if_pos (by simp only [Bool.or_eq_true, decide_eq_true_eq]; omega), Z7, if_pos rfl]
    refine ⟨false,rfl,fun h=>(by cases h),fun ⟨t,ht⟩=>?_⟩
    have:=T.size_pos t
    have:=ht.len
    have e:=congrArg List.length ht.flat
    rw [T.flat_len] at e
    omega
  · rw [if_neg (by simp only [Bool.or_eq_true, decide_eq_true_eq]; omega), Jat (by omega)]
    simp only [Option.bind_some]
    cases hm:l.all Hy with
    | false =>
      refine ⟨false,rfl,fun h=>(by cases h),fun ⟨t,ht⟩=>?_⟩
      rw [List.all_eq_true.2 ht.may] at hm;cases hm
    | true =>
      rw [if_neg (by decide),show (0:Int)=((0:Nat):Int) from rfl,Vd (by omega) (by omega) (Nat.zero_le _)]
      simp only [Option.bind_some]
      by_cases he:Ew 1 l 0=(l.length:Int)
      · obtain ⟨t, t1, t2⟩ := Xt (by omega) he
        have ts:=T.depth_le t
        have tl:=congrArg List.length t2
        rw [T.flat_len] at tl
        have hd:=Hj (l:=l) (by omega) t 1001 [] [] (Gv t2) t1 (by omega)
        rw [decide_eq_false (by simpa using he),Z7,if_neg (by decide),show (0:Int)=(([]:List api_Node).length:Int) from rfl,hd]
        refine ⟨_,rfl,?_⟩
        rw [decide_eq_true_iff]
        constructor
        · intro h12
          exact ⟨t,by omega,fun x hx=>List.all_eq_true.1 hm x hx,t2,t1,by omega⟩
        · rintro ⟨t', ht'⟩
          have hd':=Hj (l:=l) (by omega) t' 1001 [] [] (Gv ht'.flat) ht'.wk (by have:=ht'.depth;omega)
          rw [hd] at hd'
          have:=Option.some.inj hd'
          have:=ht'.depth
          omega
      · rw [decide_eq_true (by simpa using he), Z7, if_pos rfl]
        exact ⟨false,rfl,fun h=>(by cases h),fun ⟨t,ht⟩=>absurd (Mc ht.wk ht.flat) he⟩
theorem Oy {l:List api_Node} (hl:l.length≤60):∀ (d j n:Nat),j+d=l.length→d < n→Z2j 1001 (Z2h 1001 l) l n (j:Int)=if (l.drop j).all Hy=true then Z2h 1001 l else some false:=by
  intro d
  induction d with
  | zero =>
    intro j n hj hn
    obtain ⟨n,rfl⟩:∃ m,n=m+1:=⟨n - 1,by omega⟩
    rw [Z2j,if_neg (by omega),List.drop_of_length_le (by omega)];rfl
  | succ d ih =>
    intro j n hj hn
    obtain ⟨n,rfl⟩:∃ m,n=m+1:=⟨n - 1,by omega⟩
    have h1:j < l.length:=by omega
    have go:∀ b,b = !Hy l[j]→Z2i (Z2j 1001 (Z2h 1001 l) l n) (j:Int) b=if (l.drop j).all Hy=true then Z2h 1001 l else some false:=by
      intro b hb
      rw [Z2i,List.drop_eq_getElem_cons h1,List.all_cons]
      cases hm:Hy l[j] with
      | true=>rw [hb,hm,if_neg (by decide),Bf h1 (by omega),ih (j+1) n (by omega) (by omega),Bool.true_and]
      | false=>rw [hb,hm,if_pos (by decide),Bool.false_and,if_neg (by decide)]
    rw [Z2j,if_pos (by omega),As rfl h1]
    simp only [Option.bind_some]
    generalize l[j]=x at go ⊢
    split
    · rename_i hc
      refine go true ?_
      unfold Hy
      by_cases ha:0≤x.At∧x.At≤4000
      · rw [decide_eq_true ha]
        simp only [Bool.or_eq_true,Bool.and_eq_true,decide_eq_true_eq] at hc
        by_cases e1:x.Op=1
        · rw [if_pos e1]
          have : ¬ (0≤x.N∧x.N≤4294967296∧x.Name=[]):=by
            rintro ⟨q1,q2,q3⟩
            rcases hc with ((((h | h) | h) | h) | h) | h
            · omega
            · omega
            · exact h.1 e1
            · exact h.2 q3
            · omega
            · omega
          rw [decide_eq_false this];rfl
        · rw [if_neg e1]
          by_cases e2:x.Op=2
          · rw [if_pos e2]
            have : ¬ x.N=0:=by
              intro q
              rcases hc with ((((h | h) | h) | h) | h) | h
              · omega
              · omega
              · exact h.2 q
              · exact h.1 e2
              · omega
              · omega
            rw [decide_eq_false this];rfl
          · rw [if_neg e2]
            have : ¬ (x.N=0∧x.Name=[]):=by
              rintro ⟨q1,q2⟩
              rcases hc with ((((h | h) | h) | h) | h) | h
              · omega
              · omega
              · exact h.2 q1
              · exact h.2 q2
              · omega
              · omega
            rw [decide_eq_false this];rfl
      · rw [decide_eq_false ha];rfl
    · rename_i hc
      simp only [Bool.or_eq_true,Bool.and_eq_true,decide_eq_true_eq,not_or,not_and,Classical.not_not,Int.not_lt] at hc
      obtain ⟨⟨⟨⟨⟨c1,c2⟩,c3⟩,c4⟩,c5⟩,c6⟩:=hc
      by_cases e2:x.Op=2
      · rw [if_pos e2, Fx]
        simp only [Option.bind_some]
        refine go _ ?_
        have hn:x.N=0:=c3 (by omega)
        unfold Hy
        rw [decide_eq_true (⟨c1,c2⟩:0≤x.At∧x.At≤4000),if_neg (by omega),if_pos e2,decide_eq_true hn]
        simp
      · rw [if_neg e2]
        refine go _ ?_
        have hnm:x.Name=[]:=c4 e2
        unfold Hy
        rw [decide_eq_true (⟨c1,c2⟩:0≤x.At∧x.At≤4000)]
        by_cases e1:x.Op=1
        · rw [if_pos e1,decide_eq_true ⟨c5,c6,hnm⟩];rfl
        · rw [if_neg e1,if_neg e2,decide_eq_true ⟨c3 e1,hnm⟩];rfl
theorem Ov {l:List api_Node} (hl:l.length≤60):∃ b,Z2f 1001 l=some b∧(b=true↔∃ t,RightE l t):=by
  unfold Z2f
  by_cases h:40 < l.length
  · rw [if_pos (by omega), Z2g, if_pos rfl]
    exact ⟨false,rfl,fun h=>(by cases h),fun ⟨t,ht⟩=>by have:=ht.len;omega⟩
  · rw [if_neg (by omega), show (0 : Int) = ((0 : Nat) : Int) from rfl, Rw (by omega) 1001 0 (Nat.zero_le _) (by omega)]
    simp only [Option.bind_some]
    by_cases he:Ew 1 l 0=(l.length:Int)
    · have h0:0 < l.length:=by
        rcases Nat.eq_zero_or_pos l.length with h | h
        · exfalso
          have:l=[]:=List.eq_nil_of_length_eq_zero h
          subst this
          exact absurd he (by decide)
        · exact h
      obtain ⟨t,t1,t2⟩:=Xt h0 he
      have ts:=T.depth_le t
      have tl:=congrArg List.length t2
      rw [T.flat_len] at tl
      have hd:=Jc (l:=l) (by omega) t 1001 [] [] (Gv t2) t1 (by omega)
      rw [decide_eq_false (by simpa using he),Z2g,if_neg (by decide),show (0:Int)=((0:Nat):Int) from rfl,Oy hl l.length 0 1001 (by omega) (by omega),List.drop_zero]
      cases hm:l.all Hy with
      | false =>
        refine ⟨false,rfl,fun h=>(by cases h),fun ⟨t,ht⟩=>?_⟩
        rw [List.all_eq_true.2 ht.may] at hm;cases hm
      | true =>
        rw [if_pos rfl,Z2h,show (0:Int)=(([]:List api_Node).length:Int) from rfl,hd]
        refine ⟨_,rfl,?_⟩
        rw [decide_eq_true_iff]
        constructor
        · intro h12
          exact ⟨t,by omega,fun x hx=>List.all_eq_true.1 hm x hx,t2,t1,by omega⟩
        · rintro ⟨t', ht'⟩
          have hd':=Jc (l:=l) (by omega) t' 1001 [] [] (Gv ht'.flat) ht'.wk (by have:=ht'.depth;omega)
          rw [hd] at hd'
          have:=Option.some.inj hd'
          have:=ht'.depth
          omega
    · rw [decide_eq_true (by simpa using he), Z2g, if_pos rfl]
      exact ⟨false,rfl,fun h=>(by cases h),fun ⟨t,ht⟩=>absurd (Mc ht.wk ht.flat) he⟩
end Go.MD.LB
