/- Walks through statements by choices. No condition: plain lemmas. -/
import Derived.Test.YtgdkaddhhpgeiaaGreatDoorLBN
namespace Go.MD.LB
open Go Go.MD
theorem parts0 {l:List api_Stmt} {x:api_Stmt} {a c r:B} (hb:OKB (.cons x a c r)) (h:l=(B.cons x a c r).flat) :
    0 < l.length∧getI l 0=some x∧IntKind.i64.wrap (1+x.Body)=((1+a.size:Nat):Int)∧IntKind.i64.wrap (((1+a.size:Nat):Int)+x.Else)=((1+a.size+c.size:Nat):Int)∧
    subI l 1 ((1+a.size:Nat):Int)=some a.flat∧subI l ((1+a.size:Nat):Int) ((1+a.size+c.size:Nat):Int)=some c.flat∧
    subI l ((1+a.size+c.size:Nat):Int) (l.length:Int)=some r.flat:=by
  have hl:l.length≤40:=by rw [h,B.flat_len];exact hb.size
  obtain ⟨h1,h2,w1,w2,w3,s1,s2,s3,s4⟩:=parts (i:=0) hl hb (by rw [List.drop_zero];exact h)
  simp only [Nat.zero_add] at w1 w2 w3 s1 s2 s3 s4
  refine ⟨h1,h2,w2,w3,s1,s2,?_⟩
  rw [show (l.length:Int)=((1+a.size+c.size+r.size:Nat):Int) from by omega,sub_take (by omega),s3,List.take_of_length_le (by rw [B.flat_len];exact Nat.le_refl _)]
theorem Sum_eq:∀ (f:Nat) (b:B),OKB b→b.size+2≤f→Z5j f b.flat=some (b.steps:Int):=by
  intro f
  induction f with
  | zero=>intro b _ h;omega
  | succ f ih =>
    intro b hb hf
    cases b with
    | nil=>rfl
    | cons x a c r =>
      obtain ⟨h1,h2,w2,w3,s1,s2,s3⟩:=parts0 hb rfl
      have bb:=hb.big
      simp only [B.size] at hf
      generalize hl:(B.cons x a c r).flat=l at h1 h2 s1 s2 s3
      rw [Z5j,if_neg (by omega),h2]
      simp only [Option.bind_some,rcost_eq,w2,w3,s1,s2]
      rw [ih a hb.a (by omega),ih c hb.c (by omega)]
      simp only [Option.bind_some]
      simp only [B.steps] at bb ⊢
      unfold BIG at bb
      have j2:∀ u:Nat,u+r.steps≤5497558138880→Z5l (Z5j f) l x (u:Int)=some ((u+r.steps:Nat):Int):=by
        intro u hu
        rw [Z5l]
        simp only [w2,w3,s3,Option.bind_some]
        rw [ih r hb.r (by omega)]
        simp only [Option.bind_some]
        rw [w64 (by omega) (by omega)]
        rfl
      by_cases k1:x.Kind=11
      · rw [if_pos k1] at bb ⊢
        rw [if_pos k1,Z5k,if_neg (by omega),max_cast,j2 _ (by omega)]
      · rw [if_neg k1] at bb ⊢
        rw [if_neg k1,Z5k]
        by_cases k2:x.Kind=12
        · rw [if_pos k2] at bb ⊢
          rw [if_pos k2]
          simp only [w2,s1,Option.bind_some]
          rw [ih a hb.a (by omega)]
          simp only [Option.bind_some]
          have hN:=hb.okN.1 k2
          obtain ⟨m,hm⟩:∃ m:Nat,x.N=(m:Int):=⟨x.N.toNat,by omega⟩
          rw [hm,Int.toNat_natCast] at bb ⊢
          rw [← Int.natCast_mul]
          generalize m * a.steps=q at bb
          rw [w64 (by omega) (by omega),j2 _ (by omega)]
        · rw [if_neg k2] at bb ⊢
          rw [if_neg k2,j2 _ (by omega)]
def B.ch:B→Nat
  | .nil=>0
  | .cons x a b r=>(if x.Kind=11 then 1+max a.ch b.ch else if x.Kind=12 then x.N.toNat * a.ch else 0)+r.ch
theorem ch_le:∀ (b:B),b.okN→b.ch≤2 * b.size * 8 ^ b.depth
  | .nil,_=>by simp [B.ch,B.size]
  | .cons x a c r, h => by
    obtain ⟨h1,h2,h3,h4⟩:=h
    have ia:=ch_le a h2
    have ic:=ch_le c h3
    have ir:=ch_le r h4
    simp only [B.ch,B.size]
    by_cases hb:isBl x
    · have dep : (B.cons x a c r).depth = max (max (a.depth + 1) (c.depth + 1)) r.depth := by rw [B.depth, if_pos hb]
      rw [dep]
      have pa:8 ^ a.depth * 8≤8 ^ (max (max (a.depth+1) (c.depth+1)) r.depth):=by rw [← Nat.pow_succ];exact pow8 (by omega)
      have pc:8 ^ c.depth * 8≤8 ^ (max (max (a.depth+1) (c.depth+1)) r.depth):=by rw [← Nat.pow_succ];exact pow8 (by omega)
      have pr:8 ^ r.depth≤8 ^ (max (max (a.depth+1) (c.depth+1)) r.depth):=pow8 (by omega)
      have p1:1≤8 ^ (max (max (a.depth+1) (c.depth+1)) r.depth):=Nat.one_le_pow _ _ (by decide)
      generalize 8 ^ (max (max (a.depth+1) (c.depth+1)) r.depth)=X at pa pc pr p1
      have qa:8 * a.ch≤2 * a.size * X:=by
        calc 8 * a.ch≤8 * (2 * a.size * 8 ^ a.depth):=Nat.mul_le_mul_left _ ia
          _=2 * a.size * (8 ^ a.depth * 8):=by rw [Nat.mul_comm 8,Nat.mul_assoc]
          _≤2 * a.size * X:=Nat.mul_le_mul_left _ pa
      have qc:8 * c.ch≤2 * c.size * X:=by
        calc 8 * c.ch≤8 * (2 * c.size * 8 ^ c.depth):=Nat.mul_le_mul_left _ ic
          _=2 * c.size * (8 ^ c.depth * 8):=by rw [Nat.mul_comm 8,Nat.mul_assoc]
          _≤2 * c.size * X:=Nat.mul_le_mul_left _ pc
      have qr:r.ch≤2 * r.size * X:=Nat.le_trans ir (Nat.mul_le_mul_left _ pr)
      have tot:2 * (1+a.size+c.size+r.size) * X=2 * X+2 * a.size * X+2 * c.size * X+2 * r.size * X:=by
        simp only [Nat.mul_add,Nat.add_mul,Nat.mul_one]
      rw [tot]
      by_cases k1:x.Kind=11
      · rw [if_pos k1];omega
      · have k2 : x.Kind = 12 := hb.resolve_left k1
        rw [if_neg k1,if_pos k2]
        have:=h1 k2
        have:x.N.toNat * a.ch≤8 * a.ch:=Nat.mul_le_mul_right _ (by omega)
        omega
    · have dep : (B.cons x a c r).depth = r.depth := by rw [B.depth, if_neg hb]
      rw [dep,if_neg (fun h=>hb (.inl h)),if_neg (fun h=>hb (.inr h))]
      have p1:1≤8 ^ r.depth:=Nat.one_le_pow _ _ (by decide)
      generalize 8 ^ r.depth=X at p1 ir
      have tot:2 * (1+a.size+c.size+r.size) * X=2 * X+2 * a.size * X+2 * c.size * X+2 * r.size * X:=by
        simp only [Nat.mul_add,Nat.add_mul,Nat.mul_one]
      rw [tot];omega
theorem OKB.chb {b:B} (h:OKB b):b.ch≤BIG:=by
  have h1:=ch_le b h.okN
  have h2:2 * b.size * 8 ^ b.depth≤80 * 8 ^ 12:=Nat.mul_le_mul (by have:=h.size;omega) (pow8 h.depth)
  have:80 * 8 ^ 12=BIG:=by decide
  omega
theorem next_eq (N:Nat) (how:List Bool) (at':Nat) (cost:Int) (left:Bool) (h:at'≤100000000000000):∃ b,Z18 N ⟨how,(at':Int),cost,left⟩=some (b,⟨how,((at'+1:Nat):Int),cost,left⟩):=by
  unfold Z18
  have w1:IntKind.i64.wrap ((at':Int)+1)=((at'+1:Nat):Int):=by rw [w64 (by omega) (by omega)];omega
  simp only [w1]
  by_cases h1:at'+1≤how.length
  · have w2 : IntKind.i64.wrap (((at' + 1 : Nat) : Int) - 1) = (at' : Int) := by rw [w64 (by omega) (by omega)]; omega
    rw [if_pos (by omega),w2,getI_at rfl (by omega)]
    exact ⟨_,rfl⟩
  · rw [if_neg (by omega)]
    exact ⟨false,rfl⟩
def RP (how:List Bool) (at' cost A S:Nat) (o:Option leadlinelaw07_Walk):Prop:=
  ∃ (u v:Nat) (left:Bool),o=some ⟨how,(u:Int),(v:Int),left⟩∧u≤at'+A∧v≤cost+S
abbrev RUN:=Z19
theorem turns {rf:leadlinelaw07_Walk→List api_Stmt→Option leadlinelaw07_Walk} {f:Nat} {k:List Bool→Int→Int→Bool→Option leadlinelaw07_Walk} {x:api_Stmt} {a:B} {l:List api_Stmt} {how:List Bool}
    (hx:x.N≤8) (w2:IntKind.i64.wrap (1+x.Body)=((1+a.size:Nat):Int)) (s1:subI l 1 ((1+a.size:Nat):Int)=some a.flat) (hs:Z5j f a.flat=some (a.steps:Int))
    (hr:∀ (u v:Nat) (left:Bool),u+a.ch≤50000000000000→v+a.steps≤50000000000000→RP how u v a.ch a.steps (rf ⟨how,(u:Int),(v:Int),left⟩ a.flat)) :
    ∀ (d j n u v : Nat) (left : Bool), (j : Int) + d = x.N → d < n → u + d * a.ch ≤ 50000000000000 → v + d * a.steps ≤ 50000000000000 →
      ∃ (u' v':Nat) (left':Bool),Z1e rf f k x l n how (u:Int) (v:Int) left (j:Int)=k how (u':Int) (v':Int) left'∧u'≤u+d * a.ch∧v'≤v+d * a.steps:=by
  intro d
  induction d with
  | zero =>
    intro j n u v left hj hn _ _
    obtain ⟨n,rfl⟩:∃ m,n=m+1:=⟨n - 1,by omega⟩
    rw [Z1e,if_neg (by simp only [Bool.and_eq_true,decide_eq_true_eq];omega),Z1c,if_neg (by decide)]
    exact ⟨u,v,left,rfl,by omega,by omega⟩
  | succ d ih =>
    intro j n u v left hj hn hu hv
    obtain ⟨n,rfl⟩:∃ m,n=m+1:=⟨n - 1,by omega⟩
    rw [Nat.succ_mul] at hu hv ⊢
    rw [Nat.succ_mul]
    rw [Z1e]
    cases left with
    | true =>
      rw [if_neg (by simp),Z1c,if_neg (by decide)]
      exact ⟨u,v,true,rfl,by omega,by omega⟩
    | false =>
      rw [if_pos (by simp only [Bool.not_false,Bool.and_true,decide_eq_true_eq];omega),w2,s1]
      simp only [Option.bind_some,hs]
      rw [Z1c]
      by_cases h0:0 < a.steps
      · rw [if_pos (by simp only [decide_eq_true_eq]; omega), w2, s1]
        simp only [Option.bind_some]
        obtain ⟨u1,v1,l1,e,e1,e2⟩:=hr u v false (by omega) (by omega)
        rw [e]
        simp only [Option.bind_some]
        rw [wsucc (n:=8) (by omega) (by decide)]
        obtain ⟨u2,v2,l2,q,q1,q2⟩:=ih (j+1) n u1 v1 l1 (by omega) (by omega) (by omega) (by omega)
        exact ⟨u2,v2,l2,q,by omega,by omega⟩
      · rw [if_neg (by simp only [decide_eq_true_eq]; omega)]
        exact ⟨u,v,false,rfl,by omega,by omega⟩
theorem run_le:∀ (f:Nat) (b:B),OKB b→b.size+12≤f→∀ (how:List Bool) (u v:Nat) (left:Bool),u+b.ch≤50000000000000→v+b.steps≤50000000000000→RP how u v b.ch b.steps (RUN f ⟨how,(u:Int),(v:Int),left⟩ b.flat):=by
  intro f
  induction f with
  | zero=>intro b _ h;omega
  | succ f ih =>
    intro b hb hf how u v left hu hv
    have key:∀ (t:B) (n u v:Nat) (left:Bool),OKB t→t.size < n→t.size≤b.size→u+t.ch≤50000000000000→v+t.steps≤50000000000000→
        RP how u v t.ch t.steps (Z1d (RUN f) f n how (u:Int) (v:Int) left t.flat):=by
      intro t
      induction t with
      | nil =>
        intro n u v left ht hn _ _ _
        obtain ⟨n,rfl⟩:∃ q,n=q+1:=⟨n - 1,by omega⟩
        rw [Z1d,if_neg (by simp [B.flat])]
        exact ⟨u,v,left,rfl,by omega,by omega⟩
      | cons x a c r iha ihc ihr =>
        intro n u v left ht hn hsz hu hv
        obtain ⟨n,rfl⟩:∃ q,n=q+1:=⟨n - 1,by omega⟩
        obtain ⟨h1,h2,w2,w3,s1,s2,s3⟩:=parts0 ht rfl
        simp only [B.size] at hn hsz
        generalize hl:(B.cons x a c r).flat=l at h1 h2 s1 s2 s3
        simp only [B.ch,B.steps] at hu hv ⊢
        rw [Z1d]
        cases left with
        | true =>
          have c0 : ¬ ((decide (0 < (l.length:Int)) && !true)=true):=by simp
          rw [if_neg c0]
          exact ⟨u,v,true,rfl,by omega,by omega⟩
        | false=>
        have c0:(decide (0 < (l.length:Int)) && !false)=true:=by simp only [Bool.not_false,Bool.and_true,decide_eq_true_eq];omega
        rw [if_pos c0,h2]
        simp only [Option.bind_some,w2,w3,s1,s2]
        have next:∀ (u' v' p s:Nat) (left':Bool),u'≤u+p→v'≤v+s→u+p+r.ch≤50000000000000→v+s+r.steps≤50000000000000→
            RP how u v (p+r.ch) (s+r.steps) (Z1a (Z1d (RUN f) f n) x l how (u':Int) (v':Int) left'):=by
          intro u' v' p s left' hu' hv' hu2 hv2
          rw [Z1a]
          simp only [w2,w3,s3,Option.bind_some]
          obtain ⟨u2,v2,l2,q,q1,q2⟩:=ihr n u' v' left' ht.r (by omega) (by omega) (by omega) (by omega)
          exact ⟨u2,v2,l2,q,by omega,by omega⟩
        by_cases k1:x.Kind=11
        · rw [if_pos k1] at hu hv ⊢
          rw [if_pos k1]
          rw [if_pos k1]
          obtain ⟨b1,hb1⟩:=next_eq f how u (v:Int) false (by omega)
          rw [hb1]
          simp only [Option.bind_some]
          cases b1 with
          | true =>
            rw [if_pos rfl]
            obtain ⟨u2,v2,l2,q,q1,q2⟩:=ih a ht.a (by omega) how (u+1) v false (by omega) (by omega)
            rw [show RUN f ⟨how,((u+1:Nat):Int),(v:Int),false⟩ a.flat=_ from q]
            simp only [Option.bind_some]
            exact next u2 v2 _ _ l2 (by omega) (by omega) (by omega) (by omega)
          | false =>
            rw [if_neg (by decide)]
            obtain ⟨u2,v2,l2,q,q1,q2⟩:=ih c ht.c (by omega) how (u+1) v false (by omega) (by omega)
            rw [show RUN f ⟨how,((u+1:Nat):Int),(v:Int),false⟩ c.flat=_ from q]
            simp only [Option.bind_some]
            exact next u2 v2 _ _ l2 (by omega) (by omega) (by omega) (by omega)
        · rw [if_neg k1] at hu hv ⊢
          rw [if_neg k1]
          rw [if_neg k1]
          by_cases k2:x.Kind=12
          · rw [if_pos k2] at hu hv ⊢
            rw [if_pos k2]
            rw [if_pos k2]
            have hN:=ht.okN.1 k2
            obtain ⟨u2,v2,l2,q,q1,q2⟩:=turns (rf:=RUN f) (f:=f) (k:=Z1b (Z1a (Z1d (RUN f) f n) x l)) (how:=how) hN.2 w2 s1 (Sum_eq f a ht.a (by omega))
              (fun u v left hu hv=>ih a ht.a (by omega) how u v left hu hv) x.N.toNat 0 f u v false (by omega) (by omega) (by omega) (by omega)
            rw [show (0:Int)=((0:Nat):Int) from rfl,q,Z1b]
            exact next u2 v2 _ _ false q1 q2 (by omega) (by omega)
          · rw [if_neg k2] at hu hv ⊢
            rw [if_neg k2]
            rw [if_neg k2]
            by_cases k3:x.Kind=13
            · rw [if_pos k3]
              exact next u v _ _ true (by omega) (by omega) (by omega) (by omega)
            · rw [if_neg k3, cost_eq]
              simp only [Option.bind_some]
              rw [show IntKind.i64.wrap ((v:Int)+(cS x.Kind:Int))=((v+cS x.Kind:Nat):Int) from by rw [w64 (by omega) (by omega)];omega]
              exact next u (v+cS x.Kind) _ _ false (by omega) (by omega) (by omega) (by omega)
    rw [RUN,Z19]
    exact key b f u v left hb (by omega) (Nat.le_refl _) hu hv
theorem BoundRuns_eq (p1:List api_Stmt) (p6:List Bool):Z17 1001 p1 p6=some true:=by
  unfold Z17
  obtain ⟨l,hl,ll,sl⟩:=CutS p1
  rw [hl]
  simp only [Option.bind_some]
  rcases Steps_spec (by omega) sl with ⟨t,ht,hts⟩ | ⟨hn,hts⟩
  · rw [hts]
    simp only [Option.bind_some]
    by_cases h:300 < t.steps
    · rw [if_pos (by simp only [Bool.or_eq_true, decide_eq_true_eq]; omega)]
      exact fix_b
    · rw [if_neg (by simp only [Bool.or_eq_true, decide_eq_true_eq]; omega), subI_ok (by omega) (by omega) (by omega)]
      simp only [Option.bind_some]
      have hb:=ht.ok.big
      have hc:=ht.ok.chb
      unfold BIG at hb hc
      obtain ⟨u,v,left,q,q1,q2⟩:=run_le 1001 t ht.ok (by have:=ht.ok.size;omega) ((p6.take (min (p6.length:Int) 400).toNat).drop (0:Int).toNat) 0 0 false (by omega) (by omega)
      rw [ht.flat,show Z19 1001 ⟨(p6.take (min (p6.length:Int) 400).toNat).drop (0:Int).toNat,0,0,false⟩ t.flat=_ from q]
      simp only [Option.bind_some]
      rw [if_pos (by omega)]
      exact fix_b
  · rw [hts]
    simp only [Option.bind_some]
    rw [if_pos (by decide)]
    exact fix_b
end Go.MD.LB
