/- Which statements may be, all together; Hw they cost. No condition: plain lemmas. -/
import Derived.Test.YtgdkaddhhpgeiaaGreatDoorLBK
namespace Go.MD.LB
open Go Go.MD
theorem B.uniq:∀ {b c:B} {p q:Nat},b.good p→c.good q→b.flat=c.flat→b=c:=by
  intro b
  induction b with
  | nil=>intro c p q _ _ h;cases c with | nil=>rfl | cons _ _ _ _=>simp [B.flat] at h
  | cons x a d r iha ihd ihr =>
    intro c p q hb hc h
    cases c with
    | nil=>simp [B.flat] at h
    | cons y a' d' r' =>
      simp only [B.flat,List.cons.injEq] at h
      obtain ⟨rfl,h⟩:=h
      obtain ⟨b1,b2,_,_,_,b6,b7,b8⟩:=hb
      obtain ⟨c1,c2,_,_,_,c6,c7,c8⟩:=hc
      have e1:a.flat.length=a'.flat.length:=by rw [B.flat_len,B.flat_len];omega
      have e2:d.flat.length=d'.flat.length:=by rw [B.flat_len,B.flat_len];omega
      obtain ⟨h1,h2⟩:=List.append_inj h e1
      obtain ⟨h3,h4⟩:=List.append_inj h2 e2
      rw [iha b6 c6 h1,ihd b7 c7 h3,ihr b8 c8 h4]
structure RB (l:List api_Stmt) (t:B):Prop where
  len:l.length≤40
  fits:∀ x∈l,Cy x=true
  good:t.good 0
  flat:l=t.flat
  depth:t.depth≤12
theorem Jad {l:List api_Stmt} (hl:l.length≤1000) (hs:∀ x∈l,Dn x):∃ b,Zb2 1001 l=some b∧Z3s 1001 l=some b∧(b=true↔∃ t,RB l t):=by
  unfold Zb2 Z3s
  by_cases h:40 < l.length
  · rw [if_pos (by omega), if_pos (by omega), Zb3, if_pos rfl]
    exact ⟨false,rfl,rfl,fun h=>(by cases h),fun ⟨t,ht⟩=>by have:=ht.len;omega⟩
  · rw [if_neg (by omega), if_neg (by omega), Se hl hs, show (0 : Int) = ((0 : Nat) : Int) from rfl, Qt hl hs _ l.length 0 1001 (by omega) (by omega), List.drop_zero]
    simp only [Option.bind_some]
    cases hm:l.all Cy with
    | false =>
      refine ⟨false,?_,by simp,fun h=>(by cases h),fun ⟨t,ht⟩=>?_⟩
      · rw [Zb3];rfl
      · rw [List.all_eq_true.2 ht.fits] at hm;cases hm
    | true =>
      obtain ⟨r,r1,r2,r3⟩:=Tf l.length l (Nat.le_refl _) (by omega) 0 1001 (by omega) (by omega)
      rw [Zb3,if_neg (by decide),if_pos rfl,Z3t,show (0:Int)=((0:Nat):Int) from rfl,r1,r2]
      simp only [Option.bind_some]
      rcases r3 with ⟨t,g,f,rfl⟩ | ⟨rfl,hn⟩
      · rw [List.drop_zero] at f
        refine ⟨decide (t.depth≤12),?_,?_,?_⟩
        · congr 1;rw [Bool.eq_iff_iff];simp only [Bool.and_eq_true,decide_eq_true_eq];omega
        · congr 1;rw [Bool.eq_iff_iff];simp only [Bool.and_eq_true,decide_eq_true_eq];omega
        · rw [decide_eq_true_eq]
          constructor
          · intro hd;exact ⟨t,by omega,List.all_eq_true.1 hm,g,f,hd⟩
          · rintro ⟨t', ht'⟩
            have:t=t':=B.uniq g ht'.good (by rw [← f,ht'.flat])
            subst this;exact ht'.depth
      · refine ⟨false, by decide, by decide, fun h => (by cases h), fun ⟨t, ht⟩ => ?_⟩
        exact absurd ht.flat (by have:=hn t ht.good;rwa [List.drop_zero] at this)
def B.okN:B→Prop
  | .nil=>True
  | .cons x a b r=>(x.Kind=12→1≤x.N∧x.N≤8)∧a.okN∧b.okN∧r.okN
theorem Jap {x:api_Stmt} (h:Cy x=true):x.Kind=12→1≤x.N∧x.N≤8:=by
  intro hk
  unfold Cy at h
  rw [hk] at h
  simp only [Bool.and_eq_true] at h
  have h1:=h.1.2
  rw [if_pos (by decide)] at h1
  simpa using h1
theorem Nu:∀ (b:B),(∀ x∈b.flat,Cy x=true)→b.okN
  | .nil,_=>trivial
  | .cons x a c r,h=>⟨Jap (h x (.head _)),Nu a (fun y hy=>h y (by simp [B.flat,hy])),Nu c (fun y hy=>h y (by simp [B.flat,hy])),Nu r (fun y hy=>h y (by simp [B.flat,hy]))⟩
theorem Kc (x:api_Stmt) (a c r:B) (p:Nat) (hg:(B.cons x a c r).good p):a.depth≤(B.cons x a c r).depth∧c.depth≤(B.cons x a c r).depth∧r.depth≤(B.cons x a c r).depth:=by
  obtain ⟨_,_,g3,g4,_⟩:=hg
  by_cases hb:Kr x
  · rw [B.depth,if_pos hb];omega
  · rw [B.depth, if_neg hb]
    have e1:=g3 hb
    have e2:=g4 (fun h=>hb (.inl h))
    subst e1;subst e2
    simp [B.depth]
structure OKB (b:B):Prop where
  good:∃ p,b.good p
  okN:b.okN
  size:b.size≤40
  depth:b.depth≤12
theorem OKB.a {x:api_Stmt} {a c r:B} (h:OKB (.cons x a c r)):OKB a:=by
  obtain ⟨⟨p,hg⟩,hn,hs,hd⟩:=h
  have:=Kc x a c r p hg
  simp only [B.size] at hs
  exact ⟨⟨_,hg.2.2.2.2.2.1⟩,hn.2.1,by omega,by omega⟩
theorem OKB.c {x:api_Stmt} {a c r:B} (h:OKB (.cons x a c r)):OKB c:=by
  obtain ⟨⟨p,hg⟩,hn,hs,hd⟩:=h
  have:=Kc x a c r p hg
  simp only [B.size] at hs
  exact ⟨⟨_,hg.2.2.2.2.2.2.1⟩,hn.2.2.1,by omega,by omega⟩
theorem OKB.r {x:api_Stmt} {a c r:B} (h:OKB (.cons x a c r)):OKB r:=by
  obtain ⟨⟨p,hg⟩,hn,hs,hd⟩:=h
  have:=Kc x a c r p hg
  simp only [B.size] at hs
  exact ⟨⟨_,hg.2.2.2.2.2.2.2⟩,hn.2.2.2,by omega,by omega⟩
theorem RB.ok {l:List api_Stmt} {t:B} (h:RB l t):OKB t:=by
  refine ⟨⟨0,h.good⟩,Nu t (fun x hx=>h.fits x (by rw [h.flat];exact hx)),?_,h.depth⟩
  have:=congrArg List.length h.flat
  rw [B.flat_len] at this
  have:=h.len
  omega
theorem parts {l:List api_Stmt} {i:Nat} {x:api_Stmt} {a c r:B} (hl:l.length≤40) (hb:OKB (.cons x a c r)) (h:l.drop i=(B.cons x a c r).flat) :
    i < l.length∧getI l (i:Int)=some x∧IntKind.i64.wrap ((i:Int)+1)=((i+1:Nat):Int)∧
    IntKind.i64.wrap (((i+1:Nat):Int)+x.Body)=((i+1+a.size:Nat):Int)∧
    IntKind.i64.wrap (((i+1+a.size:Nat):Int)+x.Else)=((i+1+a.size+c.size:Nat):Int)∧
    Du l ((i+1:Nat):Int) ((i+1+a.size:Nat):Int)=some a.flat∧Du l ((i+1+a.size:Nat):Int) ((i+1+a.size+c.size:Nat):Int)=some c.flat∧
    l.drop (i+1+a.size+c.size)=r.flat∧i+1+a.size+c.size+r.size=l.length:=by
  have hi:i < l.length:=by
    rcases Nat.lt_or_ge i l.length with h1 | h1
    · exact h1
    · rw [List.drop_of_length_le h1] at h;simp [B.flat] at h
  obtain ⟨⟨p,hg⟩,hn,hs,hd⟩:=hb
  obtain ⟨a',c',r',e,s1,s2,s3,s4⟩:=B.split hi hg h
  injection e with e0 e1 e2 e3
  subst e1;subst e2;subst e3
  obtain ⟨g1,g2,_⟩:=hg
  have w:=Rf (x:=x.Body) (y:=x.Else) hl hi (by omega) (by omega) (by omega) (by omega)
  have t1:x.Body.toNat=a.size:=by omega
  have t2:x.Else.toNat=c.size:=by omega
  obtain ⟨w1,w2,w3⟩:=w
  rw [t1,t2] at w3
  rw [t1] at w2
  rw [w2] at w3
  rw [w1] at w2
  refine ⟨hi,by rw [As rfl hi,e0],w1,w2,w3,?_,?_,s3,?_⟩
  · rw [Gb (by omega),s1]
  · rw [Gb (by omega),s2]
  · have := congrArg List.length s3
    rw [B.flat_len,List.length_drop] at this
    omega
end Go.MD.LB
