/- Which statements may be, all together; Gj they cost. No condition: plain lemmas. -/
import Derived.Test.YtgdkaddhhpgeiaaGreatDoorLBK
namespace Go.MD.LB
open Go Go.MD
theorem B.uniq:∀ {b c:B} {p q:Nat},b.good p→c.good q→b.flat=c.flat→b=c:=by
  intro b
  induction b with
  | nil=>intro c p q _ _ h;cases c with | nil=>rfl | cons _ _ _ _=>simp [B.flat] at h
  | cons x a d r iha ihd ihr =>
    intro c p q hb hc h
    cases c with
    | nil=>simp [B.flat] at h
    | cons y a' d' r' =>
      simp only [B.flat,List.cons.injEq] at h
      obtain ⟨rfl,h⟩:=h
      obtain ⟨b1,b2,_,_,_,b6,b7,b8⟩:=hb
      obtain ⟨c1,c2,_,_,_,c6,c7,c8⟩:=hc
      have e1:a.flat.length=a'.flat.length:=by rw [B.flat_len,B.flat_len];omega
      have e2:d.flat.length=d'.flat.length:=by rw [B.flat_len,B.flat_len];omega
      obtain ⟨h1,h2⟩:=List.append_inj h e1
      obtain ⟨h3,h4⟩:=List.append_inj h2 e2
      rw [iha b6 c6 h1,ihd b7 c7 h3,ihr b8 c8 h4]
structure RB (l:List api_Stmt) (t:B):Prop where
  len:l.length≤40
  fits:∀ x∈l,Dl x=true
  good:t.good 0
  flat:l=t.flat
  depth:t.depth≤12
theorem Jal {l:List api_Stmt} (hl:l.length≤1000) (hs:∀ x∈l,Dd x):∃ b,Z9g 1001 l=some b∧Z40 1001 l=some b∧(b=true↔∃ t,RB l t):=by
  unfold Z9g Z40
  by_cases h:40 < l.length
  · rw [if_pos (by omega), if_pos (by omega), Z9h, if_pos rfl]
    exact ⟨false,rfl,rfl,fun h=>(by cases h),fun ⟨t,ht⟩=>by have:=ht.len;omega⟩
  · rw [if_neg (by omega), if_neg (by omega), Si hl hs, show (0 : Int) = ((0 : Nat) : Int) from rfl, Qp hl hs _ l.length 0 1001 (by omega) (by omega), List.drop_zero]
    simp only [Option.bind_some]
    cases hm:l.all Dl with
    | false =>
      refine ⟨false,?_,by simp,fun h=>(by cases h),fun ⟨t,ht⟩=>?_⟩
      · rw [Z9h];rfl
      · rw [List.all_eq_true.2 ht.fits] at hm;cases hm
    | true =>
      obtain ⟨r,r1,r2,r3⟩:=Tb l.length l (Nat.le_refl _) (by omega) 0 1001 (by omega) (by omega)
      rw [Z9h,if_neg (by decide),if_pos rfl,Z41,show (0:Int)=((0:Nat):Int) from rfl,r1,r2]
      simp only [Option.bind_some]
      rcases r3 with ⟨t,g,f,rfl⟩ | ⟨rfl,hn⟩
      · rw [List.drop_zero] at f
        refine ⟨decide (t.depth≤12),?_,?_,?_⟩
        · congr 1;rw [Bool.eq_iff_iff];simp only [Bool.and_eq_true,decide_eq_true_eq];omega
        · congr 1;rw [Bool.eq_iff_iff];simp only [Bool.and_eq_true,decide_eq_true_eq];omega
        · rw [decide_eq_true_eq]
          constructor
          · intro hd;exact ⟨t,by omega,List.all_eq_true.1 hm,g,f,hd⟩
          · rintro ⟨t', ht'⟩
            have:t=t':=B.uniq g ht'.good (by rw [← f,ht'.flat])
            subst this;exact ht'.depth
      · refine ⟨false, by decide, by decide, fun h => (by cases h), fun ⟨t, ht⟩ => ?_⟩
        exact absurd ht.flat (by have:=hn t ht.good;rwa [List.drop_zero] at this)
def cS (k:Int):Nat:=if k=2∨k=4∨k=8∨k=9∨k=10 then 1 else if k=3∨k=5∨k=6∨k=7 then 2 else 0
theorem JaS (k:Int):cS k≤2:=by unfold cS;split <;> (try split) <;> omega
def B.steps:B→Nat
  | .nil=>0
  | .cons x a b r=>(if x.Kind=11 then max a.steps b.steps else if x.Kind=12 then x.N.toNat * a.steps else cS x.Kind)+r.steps
def B.okN:B→Prop
  | .nil=>True
  | .cons x a b r=>(x.Kind=12→1≤x.N∧x.N≤8)∧a.okN∧b.okN∧r.okN
theorem Yp {x:api_Stmt} (h:Dl x=true):x.Kind=12→1≤x.N∧x.N≤8:=by
  intro hk
  unfold Dl at h
  rw [hk] at h
  simp only [Bool.and_eq_true] at h
  have h1:=h.1.2
  rw [if_pos (by decide)] at h1
  simpa using h1
theorem Nj:∀ (b:B),(∀ x∈b.flat,Dl x=true)→b.okN
  | .nil,_=>trivial
  | .cons x a c r,h=>⟨Yp (h x (.head _)),Nj a (fun y hy=>h y (by simp [B.flat,hy])),Nj c (fun y hy=>h y (by simp [B.flat,hy])),Nj r (fun y hy=>h y (by simp [B.flat,hy]))⟩
theorem Xb {a b:Nat} (h:a≤b):8 ^ a≤8 ^ b:=Nat.pow_le_pow_right (by decide) h
theorem Ik:∀ (b:B),b.okN→b.steps≤2 * b.size * 8 ^ b.depth
  | .nil,_=>by simp [B.steps,B.size]
  | .cons x a c r, h => by
    obtain ⟨h1,h2,h3,h4⟩:=h
    have ia:=Ik a h2
    have ic:=Ik c h3
    have ir:=Ik r h4
    simp only [B.steps,B.size]
    by_cases hb:Jr x
    · have dep : (B.cons x a c r).depth = max (max (a.depth + 1) (c.depth + 1)) r.depth := by rw [B.depth, if_pos hb]
      rw [dep]
      have pa:8 ^ a.depth * 8≤8 ^ (max (max (a.depth+1) (c.depth+1)) r.depth):=by rw [← Nat.pow_succ];exact Xb (by omega)
      have pc:8 ^ c.depth * 8≤8 ^ (max (max (a.depth+1) (c.depth+1)) r.depth):=by rw [← Nat.pow_succ];exact Xb (by omega)
      have pr:8 ^ r.depth≤8 ^ (max (max (a.depth+1) (c.depth+1)) r.depth):=Xb (by omega)
      generalize 8 ^ (max (max (a.depth+1) (c.depth+1)) r.depth)=X at pa pc pr
      have qa:8 * a.steps≤2 * a.size * X:=by
        calc 8 * a.steps≤8 * (2 * a.size * 8 ^ a.depth):=Nat.mul_le_mul_left _ ia
          _=2 * a.size * (8 ^ a.depth * 8):=by rw [Nat.mul_comm 8,Nat.mul_assoc]
          _≤2 * a.size * X:=Nat.mul_le_mul_left _ pa
      have qc:8 * c.steps≤2 * c.size * X:=by
        calc 8 * c.steps≤8 * (2 * c.size * 8 ^ c.depth):=Nat.mul_le_mul_left _ ic
          _=2 * c.size * (8 ^ c.depth * 8):=by rw [Nat.mul_comm 8,Nat.mul_assoc]
          _≤2 * c.size * X:=Nat.mul_le_mul_left _ pc
      have qr:r.steps≤2 * r.size * X:=Nat.le_trans ir (Nat.mul_le_mul_left _ pr)
      have tot:2 * (1+a.size+c.size+r.size) * X=2 * X+2 * a.size * X+2 * c.size * X+2 * r.size * X:=by
        simp only [Nat.mul_add,Nat.add_mul,Nat.mul_one]
      rw [tot]
      by_cases k1:x.Kind=11
      · rw [if_pos k1];omega
      · have k2 : x.Kind = 12 := hb.resolve_left k1
        rw [if_neg k1,if_pos k2]
        have:=h1 k2
        have:x.N.toNat * a.steps≤8 * a.steps:=Nat.mul_le_mul_right _ (by omega)
        omega
    · have dep : (B.cons x a c r).depth = r.depth := by rw [B.depth, if_neg hb]
      rw [dep,if_neg (fun h=>hb (.inl h)),if_neg (fun h=>hb (.inr h))]
      have:=JaS x.Kind
      have p1:1≤8 ^ r.depth:=Nat.one_le_pow _ _ (by decide)
      generalize 8 ^ r.depth=X at p1 ir
      have tot:2 * (1+a.size+c.size+r.size) * X=2 * X+2 * a.size * X+2 * c.size * X+2 * r.size * X:=by
        simp only [Nat.mul_add,Nat.add_mul,Nat.mul_one]
      rw [tot];omega
def BIG:Nat:=5497558138880
theorem Sy {b:B} (h:b.okN) (hs:b.size≤40) (hd:b.depth≤12):b.steps≤BIG:=by
  have h1:=Ik b h
  have h2:2 * b.size * 8 ^ b.depth≤80 * 8 ^ 12:=Nat.mul_le_mul (by omega) (Xb hd)
  have:80 * 8 ^ 12=BIG:=by decide
  omega
theorem Jt (x:api_Stmt) (a c r:B) (p:Nat) (hg:(B.cons x a c r).good p):a.depth≤(B.cons x a c r).depth∧c.depth≤(B.cons x a c r).depth∧r.depth≤(B.cons x a c r).depth:=by
  obtain ⟨_,_,g3,g4,_⟩:=hg
  by_cases hb:Jr x
  · rw [B.depth,if_pos hb];omega
  · rw [B.depth, if_neg hb]
    have e1:=g3 hb
    have e2:=g4 (fun h=>hb (.inl h))
    subst e1;subst e2
    simp [B.depth]
structure OKB (b:B):Prop where
  good:∃ p,b.good p
  okN:b.okN
  size:b.size≤40
  depth:b.depth≤12
theorem OKB.a {x:api_Stmt} {a c r:B} (h:OKB (.cons x a c r)):OKB a:=by
  obtain ⟨⟨p,hg⟩,hn,hs,hd⟩:=h
  have:=Jt x a c r p hg
  simp only [B.size] at hs
  exact ⟨⟨_,hg.2.2.2.2.2.1⟩,hn.2.1,by omega,by omega⟩
theorem OKB.c {x:api_Stmt} {a c r:B} (h:OKB (.cons x a c r)):OKB c:=by
  obtain ⟨⟨p,hg⟩,hn,hs,hd⟩:=h
  have:=Jt x a c r p hg
  simp only [B.size] at hs
  exact ⟨⟨_,hg.2.2.2.2.2.2.1⟩,hn.2.2.1,by omega,by omega⟩
theorem OKB.r {x:api_Stmt} {a c r:B} (h:OKB (.cons x a c r)):OKB r:=by
  obtain ⟨⟨p,hg⟩,hn,hs,hd⟩:=h
  have:=Jt x a c r p hg
  simp only [B.size] at hs
  exact ⟨⟨_,hg.2.2.2.2.2.2.2⟩,hn.2.2.2,by omega,by omega⟩
theorem OKB.big {b:B} (h:OKB b):b.steps≤BIG:=Sy h.okN h.size h.depth
theorem RB.ok {l:List api_Stmt} {t:B} (h:RB l t):OKB t:=by
  refine ⟨⟨0,h.good⟩,Nj t (fun x hx=>h.fits x (by rw [h.flat];exact hx)),?_,h.depth⟩
  have:=congrArg List.length h.flat
  rw [B.flat_len] at this
  have:=h.len
  omega
theorem parts {l:List api_Stmt} {i:Nat} {x:api_Stmt} {a c r:B} (hl:l.length≤40) (hb:OKB (.cons x a c r)) (h:l.drop i=(B.cons x a c r).flat) :
    i < l.length∧getI l (i:Int)=some x∧IntKind.i64.wrap ((i:Int)+1)=((i+1:Nat):Int)∧
    IntKind.i64.wrap (((i+1:Nat):Int)+x.Body)=((i+1+a.size:Nat):Int)∧
    IntKind.i64.wrap (((i+1+a.size:Nat):Int)+x.Else)=((i+1+a.size+c.size:Nat):Int)∧
    De l ((i+1:Nat):Int) ((i+1+a.size:Nat):Int)=some a.flat∧De l ((i+1+a.size:Nat):Int) ((i+1+a.size+c.size:Nat):Int)=some c.flat∧
    l.drop (i+1+a.size+c.size)=r.flat∧i+1+a.size+c.size+r.size=l.length:=by
  have hi:i < l.length:=by
    rcases Nat.lt_or_ge i l.length with h1 | h1
    · exact h1
    · rw [List.drop_of_length_le h1] at h;simp [B.flat] at h
  obtain ⟨⟨p,hg⟩,hn,hs,hd⟩:=hb
  obtain ⟨a',c',r',e,s1,s2,s3,s4⟩:=B.split hi hg h
  injection e with e0 e1 e2 e3
  subst e1;subst e2;subst e3
  obtain ⟨g1,g2,_⟩:=hg
  have w:=Rq (x:=x.Body) (y:=x.Else) hl hi (by omega) (by omega) (by omega) (by omega)
  have t1:x.Body.toNat=a.size:=by omega
  have t2:x.Else.toNat=c.size:=by omega
  obtain ⟨w1,w2,w3⟩:=w
  rw [t1,t2] at w3
  rw [t1] at w2
  rw [w2] at w3
  rw [w1] at w2
  refine ⟨hi,by rw [Ax rfl hi,e0],w1,w2,w3,?_,?_,s3,?_⟩
  · rw [Ez (by omega),s1]
  · rw [Ez (by omega),s2]
  · have := congrArg List.length s3
    rw [B.flat_len,List.length_drop] at this
    omega
end Go.MD.LB
