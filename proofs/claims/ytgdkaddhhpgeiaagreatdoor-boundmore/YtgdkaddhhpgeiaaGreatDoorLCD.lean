/- How long paths are, both; BoundMore. No condition: plain lemmas. -/
import Derived.Test.YtgdkaddhhpgeiaaGreatDoorLCA
import Derived.Test.YtgdkaddhhpgeiaaGreatDoorLBR
namespace Go.MD.LB
open Go Go.MD
def stp (l:List api_Stmt):Int:=(Zh 1001 l).getD 0
structure Stp (l:List api_Stmt):Prop where
  lo:0≤stp l
  hi:stp l≤5497558138880
  e1:Zh 1001 l=some (stp l)
  e2:Z7v 1001 l=some (stp l)
theorem RB.stp {l:List api_Stmt} {b:B} (h:RB l b):stp l=(b.steps:Int)∧Stp l:=by
  have hs:=h.ok.size
  have hb:=h.ok.big
  have e1:=steps_eq 1001 b h.ok (by omega)
  have e2:=Sum_eq 1001 b h.ok (by omega)
  rw [← h.flat] at e1 e2
  have e:LB.stp l=(b.steps:Int):=by unfold LB.stp;rw [e1];rfl
  unfold BIG at hb
  refine ⟨e,?_,?_,?_,?_⟩ <;> rw [e]
  · omega
  · omega
  · exact e1
  · exact e2
theorem stp_Steps {l:List api_Stmt} (hl:l.length≤1000) (hs:∀ x∈l,smallS x) (h:∃ b,RB l b):Z8 1001 l=some (stp l):=by
  rcases Steps_spec hl hs with ⟨t,ht,e⟩ | ⟨hn,_⟩
  · rw [e,ht.stp.1]
  · exact absurd h hn
def sumT:List api_Thread→Int
  | []=>0
  | t :: r=>stp t.Body+sumT r
theorem sumT_le:∀ (l:List api_Thread),(∀ t∈l,Stp t.Body)→0≤sumT l∧sumT l≤5497558138880 * (l.length:Int)
  | [],_=>by simp [sumT]
  | t :: r, h => by
    have h1:=sumT_le r fun x hx=>h x (.tail _ hx)
    have h2:=h t (.head _)
    have:=h2.lo;have:=h2.hi
    simp only [sumT,List.length_cons]
    omega
theorem path_l2 {p:api_Prog} (hT:p.Threads.length≤4) (hs:∀ t∈p.Threads,Stp t.Body) (k:Int→Option Int):∀ (d j n:Nat) (v:Int),j+d=p.Threads.length→d < n→0≤v→v+5497558138880 * (d:Int)≤9000000000000000000→
    Z5 1001 k p n v (j:Int)=k (v+sumT (p.Threads.drop j)):=by
  intro d
  induction d with
  | zero =>
    intro j n v hj hn h0 hv
    obtain ⟨n,rfl⟩:∃ m,n=m+1:=⟨n - 1,by omega⟩
    rw [Z5,if_neg (by omega),List.drop_of_length_le (by omega)]
    simp [sumT]
  | succ d ih =>
    intro j n v hj hn h0 hv
    obtain ⟨n,rfl⟩:∃ m,n=m+1:=⟨n - 1,by omega⟩
    have h1:j < p.Threads.length:=by omega
    have hx:=hs _ (List.getElem_mem h1)
    have:=hx.lo;have:=hx.hi
    rw [Z5,if_pos (by omega),getI_at rfl h1]
    simp only [Option.bind_some]
    rw [hx.e1]
    simp only [Option.bind_some]
    rw [wsucc h1 (by omega),w64 (by omega) (by omega),ih (j+1) n _ (by omega) (by omega) (by omega) (by omega),List.drop_eq_getElem_cons h1,sumT,Int.add_assoc]
theorem rpath_l2 {p:api_Prog} (hT:p.Threads.length≤4) (hs:∀ t∈p.Threads,Stp t.Body) (k:Int→Option Int):∀ (d j n:Nat) (v:Int),j+d=p.Threads.length→d < n→0≤v→v+5497558138880 * (d:Int)≤9000000000000000000→
    Z7u 1001 k p n v (j:Int)=k (v+sumT (p.Threads.drop j)):=by
  intro d
  induction d with
  | zero =>
    intro j n v hj hn h0 hv
    obtain ⟨n,rfl⟩:∃ m,n=m+1:=⟨n - 1,by omega⟩
    rw [Z7u,if_neg (by omega),List.drop_of_length_le (by omega)]
    simp [sumT]
  | succ d ih =>
    intro j n v hj hn h0 hv
    obtain ⟨n,rfl⟩:∃ m,n=m+1:=⟨n - 1,by omega⟩
    have h1:j < p.Threads.length:=by omega
    have hx:=hs _ (List.getElem_mem h1)
    have:=hx.lo;have:=hx.hi
    rw [Z7u,if_pos (by omega),getI_at rfl h1]
    simp only [Option.bind_some]
    rw [hx.e2]
    simp only [Option.bind_some]
    rw [wsucc h1 (by omega),w64 (by omega) (by omega),ih (j+1) n _ (by omega) (by omega) (by omega) (by omega),List.drop_eq_getElem_cons h1,sumT,Int.add_assoc]
theorem path_l6 {p:api_Prog} (hT:p.Recover.length≤4) (hs:∀ t∈p.Recover,Stp t.Body) (k:Int→Option Int):∀ (d j n:Nat) (v:Int),j+d=p.Recover.length→d < n→0≤v→v+5497558138880 * (d:Int)≤9000000000000000000→
    Z7 1001 k p n v (j:Int)=k (v+sumT (p.Recover.drop j)):=by
  intro d
  induction d with
  | zero =>
    intro j n v hj hn h0 hv
    obtain ⟨n,rfl⟩:∃ m,n=m+1:=⟨n - 1,by omega⟩
    rw [Z7,if_neg (by omega),List.drop_of_length_le (by omega)]
    simp [sumT]
  | succ d ih =>
    intro j n v hj hn h0 hv
    obtain ⟨n,rfl⟩:∃ m,n=m+1:=⟨n - 1,by omega⟩
    have h1:j < p.Recover.length:=by omega
    have hx:=hs _ (List.getElem_mem h1)
    have:=hx.lo;have:=hx.hi
    rw [Z7,if_pos (by omega),getI_at rfl h1]
    simp only [Option.bind_some]
    rw [hx.e1]
    simp only [Option.bind_some]
    rw [wsucc h1 (by omega),w64 (by omega) (by omega),ih (j+1) n _ (by omega) (by omega) (by omega) (by omega),List.drop_eq_getElem_cons h1,sumT,Int.add_assoc]
theorem mul_succ_i (d:Nat) (R:Int):((d+1:Nat):Int) * R=(d:Int) * R+R:=by rw [Int.natCast_add,Int.add_mul];simp
theorem path_l4 {p:api_Prog} (hT:p.Recover.length≤4) (hs:∀ t∈p.Recover,Stp t.Body) {c:Nat} (hc:c≤8):∀ (d j n:Nat) (v:Int),j+d=c→d < n→0≤v→v≤1000000000000000+100000000000000 * (j:Int)→
    Z6 1001 Z3 p (c:Int) n v (j:Int)=some (v+(d:Int) * (1+sumT p.Recover)):=by
  intro d
  have hR:=sumT_le _ hs
  induction d with
  | zero =>
    intro j n v hj hn h0 hv
    obtain ⟨n,rfl⟩:∃ m,n=m+1:=⟨n - 1,by omega⟩
    rw [Z6,if_neg (by omega),Z3]
    simp
  | succ d ih =>
    intro j n v hj hn h0 hv
    obtain ⟨n,rfl⟩:∃ m,n=m+1:=⟨n - 1,by omega⟩
    rw [Z6,if_pos (by omega),show (0:Int)=((0:Nat):Int) from rfl,path_l6 hT hs _ p.Recover.length 0 1001 _ (by omega) (by omega) (by rw [w64 (by omega) (by omega)];omega) (by rw [w64 (by omega) (by omega)];omega),List.drop_zero,Z4,wsucc (n:=8) (by omega) (by decide),w64 (by omega) (by omega),
      ih (j+1) n _ (by omega) (by omega) (by omega) (by omega),mul_succ_i]
    congr 1
    generalize (d:Int) * (1+sumT p.Recover)=q
    omega
theorem threads_stp {p:api_Prog} (h:PB p) {t:api_Thread} (ht:t∈allT p):∃ b,RB t.Body b:=(threadB_iff (h.thread t ht)).2.2
theorem OKP.stpT {p:api_Prog} (h:OKP p):∀ t∈p.Threads,Stp t.Body:=fun t ht=>by
  obtain ⟨b,hb⟩:=threads_stp h.pb (t:=t) (List.mem_append_left _ ht);exact hb.stp.2
theorem OKP.stpR {p:api_Prog} (h:OKP p):∀ t∈p.Recover,Stp t.Body:=fun t ht=>by
  obtain ⟨b,hb⟩:=threads_stp h.pb (t:=t) (List.mem_append_right _ ht);exact hb.stp.2
theorem Path_no {p:api_Prog} (hp:SmallP p) {c:Int} (h : ¬ (OKP p∧0≤c∧c≤8)):Z1 1001 p c=some (-1)∧Z7r 1001 p c=some (-1):=by
  obtain ⟨⟨r1,r2⟩,hr⟩:=checkS_some (p:=p)
  have e:(((decide (r1≠0)) || (decide (c < 0))) || (decide (8 < c)))=true:=by
    simp only [Bool.or_eq_true,decide_eq_true_eq]
    by_cases h0:r1=0
    · subst h0
      have:=(checkS_ok.1 hr).1
      have : ¬ (0≤c∧c≤8):=fun q=>h ⟨this,q⟩
      omega
    · exact .inl (.inl h0)
  unfold Z1 Z7r
  rw [Check_eq hp,RCheck_eq hp,hr]
  simp only [Option.bind_some]
  exact ⟨if_pos e,if_pos e⟩
theorem Path_ok {p:api_Prog} (hp:SmallP p) (h:OKP p) {c:Nat} (hc:c≤8):Z1 1001 p (c:Int)=some (1+sumT p.Threads+(c:Int) * (1+sumT p.Recover))∧Z7r 1001 p (c:Int)=some (1+sumT p.Threads+(c:Int) * (1+sumT p.Recover)):=by
  have e : ¬ (((decide ((0:Int)≠0)) || (decide ((c:Int) < 0))) || (decide (8 < (c:Int))))=true:=by
    simp only [Bool.or_eq_true,decide_eq_true_eq];omega
  have hT:=hp.threads
  have hRc:=h.pb.recover
  have hS:=sumT_le _ h.stpT
  have hR:=sumT_le _ h.stpR
  unfold Z1 Z7r
  rw [Check_eq hp,RCheck_eq hp,checkS_ok.2 ⟨h,rfl⟩]
  simp only [Option.bind_some]
  rw [if_neg e,if_neg e]
  have e1:=path_l2 hT h.stpT (Z2 1001 p (c:Int)) p.Threads.length 0 1001 1 (by omega) (by omega) (by decide) (by omega)
  have e2:=rpath_l2 hT h.stpT (Z7s 1001 p (c:Int)) p.Threads.length 0 1001 1 (by omega) (by omega) (by decide) (by omega)
  rw [List.drop_zero] at e1 e2
  refine ⟨Eq.trans e1 ?_,Eq.trans e2 ?_⟩
  · rw [Z2]
    exact path_l4 (by omega) h.stpR hc c 0 1001 _ (by omega) (by omega) (by omega) (by omega)
  · have fin:∀ R:Int,R=1+sumT p.Recover→Z7t (c:Int) (1+sumT p.Threads) R=some (1+sumT p.Threads+(c:Int) * (1+sumT p.Recover)):=by
      rintro R rfl
      have hm:0≤(c:Int) * (1+sumT p.Recover)∧(c:Int) * (1+sumT p.Recover)≤8 * 10000000000000:=by
        refine ⟨Int.mul_nonneg (by omega) (by omega),Int.mul_le_mul (by omega) (by omega) (by omega) (by decide)⟩
      rw [Z7t,w64 (n:=(c:Int) * (1+sumT p.Recover)) (by omega) (by omega),w64 (by omega) (by omega)]
    rw [Z7s]
    match hl:p.Recover with
    | [] =>
      rw [hl] at fin
      rw [if_neg (by simp)]
      exact fin 1 rfl
    | t :: [] =>
      have ht:t∈p.Recover:=by rw [hl];exact .head _
      have hx:=h.stpR t ht
      have:=hx.lo;have:=hx.hi
      rw [hl] at fin
      rw [if_pos (by simp),show getI [t] 0=some t from rfl]
      simp only [Option.bind_some]
      rw [hx.e2]
      simp only [Option.bind_some]
      rw [w64 (by omega) (by omega)]
      exact fin _ (by simp [sumT])
    | _ :: _ :: _=>rw [hl] at hRc;simp at hRc
theorem BM_l3 {p:api_Prog} (hp:SmallP p) (h:OKP p) (k:Int→Option Bool):∀ (d j n:Nat) (v:Int),j+d=p.Threads.length→d < n→0≤v→v+5497558138880 * (d:Int)≤9000000000000000000→
    Z1q 1001 k p n v (j:Int)=k (v+sumT (p.Threads.drop j)):=by
  intro d
  have hT:=hp.threads
  induction d with
  | zero =>
    intro j n v hj hn h0 hv
    obtain ⟨n,rfl⟩:∃ m,n=m+1:=⟨n - 1,by omega⟩
    rw [Z1q,if_neg (by omega),List.drop_of_length_le (by omega)]
    simp [sumT]
  | succ d ih =>
    intro j n v hj hn h0 hv
    obtain ⟨n,rfl⟩:∃ m,n=m+1:=⟨n - 1,by omega⟩
    have h1:j < p.Threads.length:=by omega
    have hm:=List.getElem_mem h1
    have hs:=hp.thread _ hm
    have hx:=h.stpT _ hm
    have:=hx.lo;have:=hx.hi
    rw [Z1q,if_pos (by omega),getI_at rfl h1]
    simp only [Option.bind_some]
    rw [stp_Steps (by have:=hs.body;omega) hs.small (threads_stp h.pb (List.mem_append_left _ hm))]
    simp only [Option.bind_some]
    rw [wsucc h1 (by omega),w64 (by omega) (by omega),ih (j+1) n _ (by omega) (by omega) (by omega) (by omega),List.drop_eq_getElem_cons h1,sumT,Int.add_assoc]
theorem BoundMore_eq (p1:api_Prog) (p4:Int):Z1n 1001 p1 p4=some true:=by
  unfold Z1n
  obtain ⟨p,hq,hp⟩:=CutP p1
  obtain ⟨c1,c2⟩:=iand_in (x:=p4) (m:=7) (by decide)
  rw [show ((7:Nat):Int)=7 from rfl] at c1 c2
  obtain ⟨c,hc⟩:∃ c:Nat,iand .i64 p4 7=(c:Int):=⟨(iand .i64 p4 7).toNat,by omega⟩
  rw [hq]
  simp only [Option.bind_some]
  rw [hc,wsucc (n:=8) (by omega) (by decide)]
  by_cases h:OKP p
  · have hT := hp.threads
    have hRc:=h.pb.recover
    have hS:=sumT_le _ h.stpT
    have hR:=sumT_le _ h.stpR
    have hm:0≤(c:Int) * (1+sumT p.Recover)∧(c:Int) * (1+sumT p.Recover)≤8 * 10000000000000:=by
      refine ⟨Int.mul_nonneg (by omega) (by omega),Int.mul_le_mul (by omega) (by omega) (by omega) (by decide)⟩
    rw [(Path_ok hp h (c:=c) (by omega)).1,(Path_ok hp h (c:=c+1) (by omega)).1,mul_succ_i]
    simp only [Option.bind_some]
    rw [if_neg (by omega)]
    have fin:Z1o 1001 p (1+sumT p.Threads+(c:Int) * (1+sumT p.Recover)) (1+sumT p.Threads+((c:Int) * (1+sumT p.Recover)+(1+sumT p.Recover))) (sumT p.Recover)=some true:=by
      have e1:=BM_l3 hp h (Z1p 1001 p (1+sumT p.Threads+(c:Int) * (1+sumT p.Recover)) (1+sumT p.Threads+((c:Int) * (1+sumT p.Recover)+(1+sumT p.Recover))) (sumT p.Recover)) p.Threads.length 0 1001 1 (by omega) (by omega) (by decide) (by omega)
      rw [List.drop_zero] at e1
      rw [Z1o]
      refine Eq.trans e1 ?_
      have e2:=(Path_ok hp h (c:=0) (by omega)).1
      rw [show ((0:Nat):Int)=0 from rfl,Int.zero_mul,Int.add_zero] at e2
      rw [Z1p,w64 (n:=1+sumT p.Threads+(c:Int) * (1+sumT p.Recover)+sumT p.Recover) (by omega) (by omega),w64 (by omega) (by omega),if_pos (by omega),e2]
      simp only [Option.bind_some]
      rw [if_pos trivial]
      exact fix_b
    match hl:p.Recover with
    | [] =>
      rw [hl] at fin
      rw [if_neg (by simp)]
      exact fin
    | t :: [] =>
      have ht:t∈p.Recover:=by rw [hl];exact .head _
      have hs:=hp.recov t ht
      rw [hl] at fin
      rw [if_pos (by simp),show getI [t] 0=some t from rfl]
      simp only [Option.bind_some]
      rw [stp_Steps (by have:=hs.body;omega) hs.small (threads_stp h.pb (List.mem_append_right _ ht))]
      simp only [Option.bind_some]
      rw [show sumT [t]=stp t.Body from by simp [sumT]] at fin
      rw [show sumT [t]=stp t.Body from by simp [sumT]]
      exact fin
    | _ :: _ :: _=>rw [hl] at hRc;simp at hRc
  · rw [(Path_no hp (fun q => h q.1)).1, (Path_no hp (fun q => h q.1)).1]
    simp only [Option.bind_some]
    rw [if_pos (by decide),if_pos (by decide)]
    exact fix_b
end Go.MD.LB
