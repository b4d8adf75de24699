/- How long paths are, both; BoundMore. No condition: plain lemmas. -/
import Derived.Test.YtgdkaddhhpgeiaaGreatDoorLCA
import Derived.Test.YtgdkaddhhpgeiaaGreatDoorLBR
namespace Go.MD.LB
open Go Go.MD
def stp (l:List api_Stmt):Int:=(Zh 1001 l).getD 0
structure Stp (l:List api_Stmt):Prop where
  lo:0≤stp l
  hi:stp l≤5497558138880
  e1:Zh 1001 l=some (stp l)
  e2:Z7w 1001 l=some (stp l)
theorem RB.stp {l:List api_Stmt} {b:B} (h:RB l b):stp l=(b.steps:Int)∧Stp l:=by
  have hs:=h.ok.size
  have hb:=h.ok.big
  have e1:=Jh 1001 b h.ok (by omega)
  have e2:=N7 1001 b h.ok (by omega)
  rw [← h.flat] at e1 e2
  have e:LB.stp l=(b.steps:Int):=by unfold LB.stp;rw [e1];rfl
  unfold BIG at hb
  refine ⟨e,?_,?_,?_,?_⟩ <;> rw [e]
  · omega
  · omega
  · exact e1
  · exact e2
def Ei:List api_Thread→Int
  | []=>0
  | t :: r=>stp t.Body+Ei r
theorem Km:∀ (l:List api_Thread),(∀ t∈l,Stp t.Body)→0≤Ei l∧Ei l≤5497558138880 * (l.length:Int)
  | [],_=>by simp [Ei]
  | t :: r, h => by
    have h1:=Km r fun x hx=>h x (.tail _ hx)
    have h2:=h t (.head _)
    have:=h2.lo;have:=h2.hi
    simp only [Ei,List.length_cons]
    omega
theorem Yj {p:api_Prog} (hT:p.Threads.length≤4) (hs:∀ t∈p.Threads,Stp t.Body) (k:Int→Option Int):∀ (d j n:Nat) (v:Int),j+d=p.Threads.length→d < n→0≤v→v+5497558138880 * (d:Int)≤9000000000000000000→
    Z5 1001 k p n v (j:Int)=k (v+Ei (p.Threads.drop j)):=by
  intro d
  induction d with
  | zero =>
    intro j n v hj hn h0 hv
    obtain ⟨n,rfl⟩:∃ m,n=m+1:=⟨n - 1,by omega⟩
    rw [Z5,if_neg (by omega),List.drop_of_length_le (by omega)]
    simp [Ei]
  | succ d ih =>
    intro j n v hj hn h0 hv
    obtain ⟨n,rfl⟩:∃ m,n=m+1:=⟨n - 1,by omega⟩
    have h1:j < p.Threads.length:=by omega
    have hx:=hs _ (List.getElem_mem h1)
    have:=hx.lo;have:=hx.hi
    rw [Z5,if_pos (by omega),As rfl h1]
    simp only [Option.bind_some]
    rw [hx.e1]
    simp only [Option.bind_some]
    rw [Be h1 (by omega),w64 (by omega) (by omega),ih (j+1) n _ (by omega) (by omega) (by omega) (by omega),List.drop_eq_getElem_cons h1,Ei,Int.add_assoc]
theorem Ur {p:api_Prog} (hT:p.Threads.length≤4) (hs:∀ t∈p.Threads,Stp t.Body) (k:Int→Option Int):∀ (d j n:Nat) (v:Int),j+d=p.Threads.length→d < n→0≤v→v+5497558138880 * (d:Int)≤9000000000000000000→
    Z7u 1001 k p n v (j:Int)=k (v+Ei (p.Threads.drop j)):=by
  intro d
  induction d with
  | zero =>
    intro j n v hj hn h0 hv
    obtain ⟨n,rfl⟩:∃ m,n=m+1:=⟨n - 1,by omega⟩
    rw [Z7u,if_neg (by omega),List.drop_of_length_le (by omega)]
    simp [Ei]
  | succ d ih =>
    intro j n v hj hn h0 hv
    obtain ⟨n,rfl⟩:∃ m,n=m+1:=⟨n - 1,by omega⟩
    have h1:j < p.Threads.length:=by omega
    have hx:=hs _ (List.getElem_mem h1)
    have:=hx.lo;have:=hx.hi
    rw [Z7u,if_pos (by omega),As rfl h1]
    simp only [Option.bind_some]
    rw [hx.e2]
    simp only [Option.bind_some]
    rw [Be h1 (by omega),w64 (by omega) (by omega),ih (j+1) n _ (by omega) (by omega) (by omega) (by omega),List.drop_eq_getElem_cons h1,Ei,Int.add_assoc]
theorem Yo {p:api_Prog} (hT:p.Recover.length≤4) (hs:∀ t∈p.Recover,Stp t.Body) (k:Int→Option Int):∀ (d j n:Nat) (v:Int),j+d=p.Recover.length→d < n→0≤v→v+5497558138880 * (d:Int)≤9000000000000000000→
    Z7 1001 k p n v (j:Int)=k (v+Ei (p.Recover.drop j)):=by
  intro d
  induction d with
  | zero =>
    intro j n v hj hn h0 hv
    obtain ⟨n,rfl⟩:∃ m,n=m+1:=⟨n - 1,by omega⟩
    rw [Z7,if_neg (by omega),List.drop_of_length_le (by omega)]
    simp [Ei]
  | succ d ih =>
    intro j n v hj hn h0 hv
    obtain ⟨n,rfl⟩:∃ m,n=m+1:=⟨n - 1,by omega⟩
    have h1:j < p.Recover.length:=by omega
    have hx:=hs _ (List.getElem_mem h1)
    have:=hx.lo;have:=hx.hi
    rw [Z7,if_pos (by omega),As rfl h1]
    simp only [Option.bind_some]
    rw [hx.e1]
    simp only [Option.bind_some]
    rw [Be h1 (by omega),w64 (by omega) (by omega),ih (j+1) n _ (by omega) (by omega) (by omega) (by omega),List.drop_eq_getElem_cons h1,Ei,Int.add_assoc]
theorem Rp (d:Nat) (R:Int):((d+1:Nat):Int) * R=(d:Int) * R+R:=by rw [Int.natCast_add,Int.add_mul];simp
theorem Jag {p:api_Prog} (hT:p.Recover.length≤4) (hs:∀ t∈p.Recover,Stp t.Body) {c:Nat} (hc:c≤8):∀ (d j n:Nat) (v:Int),j+d=c→d < n→0≤v→v≤1000000000000000+100000000000000 * (j:Int)→
    Z6 1001 Z3 p (c:Int) n v (j:Int)=some (v+(d:Int) * (1+Ei p.Recover)):=by
  intro d
  have hR:=Km _ hs
  induction d with
  | zero =>
    intro j n v hj hn h0 hv
    obtain ⟨n,rfl⟩:∃ m,n=m+1:=⟨n - 1,by omega⟩
    rw [Z6,if_neg (by omega),Z3]
    simp
  | succ d ih =>
    intro j n v hj hn h0 hv
    obtain ⟨n,rfl⟩:∃ m,n=m+1:=⟨n - 1,by omega⟩
    rw [Z6,if_pos (by omega),show (0:Int)=((0:Nat):Int) from rfl,Yo hT hs _ p.Recover.length 0 1001 _ (by omega) (by omega) (by rw [w64 (by omega) (by omega)];omega) (by rw [w64 (by omega) (by omega)];omega),List.drop_zero,Z4,Be (n:=8) (by omega) (by decide),w64 (by omega) (by omega),
      ih (j+1) n _ (by omega) (by omega) (by omega) (by omega),Rp]
    congr 1
    generalize (d:Int) * (1+Ei p.Recover)=q
    omega
theorem Kc {p:api_Prog} (h:PB p) {t:api_Thread} (ht:t∈Cq p):∃ b,RB t.Body b:=(Ex (h.thread t ht)).2.2
theorem OKP.stpT {p:api_Prog} (h:OKP p):∀ t∈p.Threads,Stp t.Body:=fun t ht=>by
  obtain ⟨b,hb⟩:=Kc h.pb (t:=t) (List.mem_append_left _ ht);exact hb.stp.2
theorem OKP.stpR {p:api_Prog} (h:OKP p):∀ t∈p.Recover,Stp t.Body:=fun t ht=>by
  obtain ⟨b,hb⟩:=Kc h.pb (t:=t) (List.mem_append_right _ ht);exact hb.stp.2
theorem Yw {p:api_Prog} (hp:SmallP p) {c:Int} (h : ¬ (OKP p∧0≤c∧c≤8)):Z1 1001 p c=some (-1)∧Z7r 1001 p c=some (-1):=by
  obtain ⟨⟨r1,r2⟩,hr⟩:=Of (p:=p)
  have e:(((decide (r1≠0)) || (decide (c < 0))) || (decide (8 < c)))=true:=by
    simp only [Bool.or_eq_true,decide_eq_true_eq]
    by_cases h0:r1=0
    · subst h0
      have:=(Mx.1 hr).1
      have : ¬ (0≤c∧c≤8):=fun q=>h ⟨this,q⟩
      omega
    · exact .inl (.inl h0)
  unfold Z1 Z7r
  rw [Ow hp,Nq hp,hr]
  simp only [Option.bind_some]
  exact ⟨if_pos e,if_pos e⟩
theorem Yh {p:api_Prog} (hp:SmallP p) (h:OKP p) {c:Nat} (hc:c≤8):Z1 1001 p (c:Int)=some (1+Ei p.Threads+(c:Int) * (1+Ei p.Recover))∧Z7r 1001 p (c:Int)=some (1+Ei p.Threads+(c:Int) * (1+Ei p.Recover)):=by
  have e : ¬ (((decide ((0:Int)≠0)) || (decide ((c:Int) < 0))) || (decide (8 < (c:Int))))=true:=by
    simp only [Bool.or_eq_true,decide_eq_true_eq];omega
  have hT:=hp.threads
  have hRc:=h.pb.recover
  have hS:=Km _ h.stpT
  have hR:=Km _ h.stpR
  unfold Z1 Z7r
  rw [Ow hp,Nq hp,Mx.2 ⟨h,rfl⟩]
  simp only [Option.bind_some]
  rw [if_neg e,if_neg e]
  have e1:=Yj hT h.stpT (Z2 1001 p (c:Int)) p.Threads.length 0 1001 1 (by omega) (by omega) (by decide) (by omega)
  have e2:=Ur hT h.stpT (Z7s 1001 p (c:Int)) p.Threads.length 0 1001 1 (by omega) (by omega) (by decide) (by omega)
  rw [List.drop_zero] at e1 e2
  refine ⟨Eq.trans e1 ?_,Eq.trans e2 ?_⟩
  · rw [Z2]
    exact Jag (by omega) h.stpR hc c 0 1001 _ (by omega) (by omega) (by omega) (by omega)
  · have fin:∀ R:Int,R=1+Ei p.Recover→Z7t (c:Int) (1+Ei p.Threads) R=some (1+Ei p.Threads+(c:Int) * (1+Ei p.Recover)):=by
      rintro R rfl
      have hm:0≤(c:Int) * (1+Ei p.Recover)∧(c:Int) * (1+Ei p.Recover)≤8 * 10000000000000:=by
        refine ⟨Int.mul_nonneg (by omega) (by omega),Int.mul_le_mul (by omega) (by omega) (by omega) (by decide)⟩
      rw [Z7t,w64 (n:=(c:Int) * (1+Ei p.Recover)) (by omega) (by omega),w64 (by omega) (by omega)]
    rw [Z7s]
    match hl:p.Recover with
    | [] =>
      rw [hl] at fin
      rw [if_neg (by simp)]
      exact fin 1 rfl
    | t :: [] =>
      have ht:t∈p.Recover:=by rw [hl];exact .head _
      have hx:=h.stpR t ht
      have:=hx.lo;have:=hx.hi
      rw [hl] at fin
      rw [if_pos (by simp),show getI [t] 0=some t from rfl]
      simp only [Option.bind_some]
      rw [hx.e2]
      simp only [Option.bind_some]
      rw [w64 (by omega) (by omega)]
      exact fin _ (by simp [Ei])
    | _ :: _ :: _=>rw [hl] at hRc;simp at hRc
end Go.MD.LB
