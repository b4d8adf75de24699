/- What is done at worst. No condition: plain lemmas. -/
import Derived.Test.YtgdkaddhhpgeiaaGreatDoorLBM
namespace Go.MD.LB
open Go Go.MD
def rep (k:Nat) (l:List Int):List Int:=(List.replicate k l).flatten
theorem rep_succ (k:Nat) (l:List Int):rep (k+1) l=l ++ rep k l:=by simp [rep,List.replicate_succ]
def B.ws:B→List Int
  | .nil=>[]
  | .cons x a c r=>(if x.Kind=11 then (if a.steps < c.steps then c.ws else a.ws) else if x.Kind=12 then (if 0 < a.steps then rep x.N.toNat a.ws else []) else if 0 < cS x.Kind then [x.Kind] else []) ++ r.ws
theorem take2 {u b:List Int} (m:Nat):((u.take m) ++ b).take m=(u ++ b).take m:=by
  rw [List.take_append,List.take_append,List.take_take,Nat.min_self,List.length_take]
  congr 2
  omega
theorem take_len {u:List Int} {m:Nat}:(u.take m).length≤m:=by rw [List.length_take];omega
theorem take_full {u b:List Int} {m:Nat} (h:u.length=m):(u ++ b).take m=u:=by rw [← h,List.take_left]
theorem app8k {u:List Int} {k:Int} (h:u.length≤1000):appG 8 u [k]=some (u ++ [k]):=appG_ok (by simp;omega) (by decide)
abbrev WF:=Za
theorem rounds_eq {rf:List api_Stmt→List Int→Int→Option (List Int)} {f:Nat} {k:List Int→Option (List Int)} {most:Int} {x:api_Stmt} {l:List api_Stmt} {ws:List Int} (hx:x.N≤8)
    (hr:∀ v:List Int,v.length≤most.toNat→rf l v most=some ((v ++ ws).take most.toNat)) :
    ∀ (d j n:Nat) (v:List Int),(j:Int)+d=x.N→d < n→v.length≤most.toNat→Zf rf f k most x l n v (j:Int)=k ((v ++ rep d ws).take most.toNat):=by
  intro d
  induction d with
  | zero =>
    intro j n v hj hn hv
    obtain ⟨n,rfl⟩:∃ m,n=m+1:=⟨n - 1,by omega⟩
    rw [Zf,if_neg (by omega)]
    simp [rep,List.take_of_length_le hv]
  | succ d ih =>
    intro j n v hj hn hv
    obtain ⟨n,rfl⟩:∃ m,n=m+1:=⟨n - 1,by omega⟩
    rw [Zf,if_pos (by omega),hr v hv]
    simp only [Option.bind_some]
    rw [wsucc (n:=8) (by omega) (by decide),ih (j+1) n _ (by omega) (by omega) take_len,take2,rep_succ,List.append_assoc]
theorem worst_eq:∀ (f:Nat) (b:B),OKB b→b.size+12≤f→∀ (out:List Int) (most:Int),most≤1000→out.length≤most.toNat→WF f b.flat out most=some ((out ++ b.ws).take most.toNat):=by
  intro f
  induction f with
  | zero=>intro b _ h;omega
  | succ f ih =>
    intro b hb hf out most hmost hout
    have hl:b.flat.length≤40:=by rw [B.flat_len];exact hb.size
    have key:∀ (t:B) (i n:Nat) (v:List Int),OKB t→b.flat.drop i=t.flat→t.size < n→t.size≤b.size→v.length≤most.toNat→
        Ze (WF f) f b.flat most n v (i:Int)=some ((v ++ t.ws).take most.toNat):=by
      intro t
      induction t with
      | nil =>
        intro i n v ht hd hn _ hv
        obtain ⟨n,rfl⟩:∃ q,n=q+1:=⟨n - 1,by omega⟩
        have:b.flat.length≤i:=by have:=congrArg List.length hd;simp [B.flat] at this;omega
        rw [Ze,if_neg (by simp only [Bool.and_eq_true,decide_eq_true_eq];omega)]
        simp [B.ws,List.take_of_length_le hv]
      | cons x a c r iha ihc ihr =>
        intro i n v ht hd hn hsz hv
        obtain ⟨n,rfl⟩:∃ q,n=q+1:=⟨n - 1,by omega⟩
        obtain ⟨h1,h2,w1,w2,w3,s1,s2,s3,s4⟩:=parts hl ht hd
        simp only [B.size] at hn hsz
        rw [Ze]
        by_cases hlt:v.length < most.toNat
        rotate_left
        · rw [if_neg (by simp only [Bool.and_eq_true,decide_eq_true_eq];omega),take_full (by omega)]
        rw [if_pos (by simp only [Bool.and_eq_true,decide_eq_true_eq];omega),h2]
        simp only [Option.bind_some,w1,w2,w3,s1,s2]
        have sa:=steps_eq f a ht.a (by omega)
        have sc:=steps_eq f c ht.c (by omega)
        have ra:∀ u:List Int,u.length≤most.toNat→WF f a.flat u most=some ((u ++ a.ws).take most.toNat):=fun u hu=>ih a ht.a (by omega) u most hmost hu
        have rc:∀ u:List Int,u.length≤most.toNat→WF f c.flat u most=some ((u ++ c.ws).take most.toNat):=fun u hu=>ih c ht.c (by omega) u most hmost hu
        have next:∀ u:List Int,u.length≤most.toNat→Zb (Ze (WF f) f b.flat most n) x (i:Int) u=some ((u ++ r.ws).take most.toNat):=by
          intro u hu
          rw [Zb]
          simp only [w1,w2,w3]
          exact ihr _ n u ht.r s3 (by omega) (by omega) hu
        simp only [B.ws]
        by_cases k1:x.Kind=11
        · rw [if_pos k1, if_pos k1, sa, sc]
          simp only [Option.bind_some]
          rw [Zc]
          by_cases k2:a.steps < c.steps
          · rw [if_pos (by simpa using k2), if_pos k2, rc v hv]
            simp only [Option.bind_some]
            rw [next _ take_len,take2,List.append_assoc]
          · rw [if_neg (by simpa using k2), if_neg k2, if_pos k1, ra v hv]
            simp only [Option.bind_some]
            rw [next _ take_len,take2,List.append_assoc]
        · rw [if_neg k1, if_neg k1, Zc, if_neg (by decide), if_neg k1]
          by_cases k2:x.Kind=12
          · rw [if_pos k2, if_pos k2, sa]
            simp only [Option.bind_some]
            rw [Zd]
            have hN:=ht.okN.1 k2
            by_cases k3:0 < a.steps
            · rw [if_pos (by simp only [decide_eq_true_eq];omega),if_pos k3,show (0:Int)=((0:Nat):Int) from rfl,
                rounds_eq (ws:=a.ws) hN.2 ra x.N.toNat 0 f v (by omega) (by omega) hv,next _ take_len,take2,List.append_assoc]
            · rw [if_neg (by simp only [decide_eq_true_eq]; omega), if_neg k3, cost_eq, k2]
              simp only [Option.bind_some]
              rw [if_neg (by decide),next v hv];rfl
          · rw [if_neg k2, if_neg k2, Zd, if_neg (by decide), cost_eq]
            simp only [Option.bind_some]
            by_cases k3:0 < cS x.Kind
            · rw [if_pos (by omega), if_pos k3, app8k (by omega)]
              simp only [Option.bind_some]
              rw [next _ (by simp;omega),List.append_assoc]
            · rw [if_neg (by omega),if_neg k3,next v hv];rfl
    rw [WF,Za]
    exact key b 0 f out hb List.drop_zero (by omega) (Nat.le_refl _) hout
theorem Worst_spec {l:List api_Stmt} (hl:l.length≤1000) (hs:∀ x∈l,smallS x) {most:Int} (hm:most≤1000) :
    (∃ t,RB l t∧Z9 1001 l most=some (t.ws.take most.toNat))∨((¬ ∃ t,RB l t)∧Z9 1001 l most=some []):=by
  obtain ⟨b,h1,h2,h3⟩:=SRight hl hs
  unfold Z9
  rw [h1]
  simp only [Option.bind_some]
  cases b with
  | false=>exact .inr ⟨fun h=>(by cases h3.2 h),rfl⟩
  | true =>
    obtain ⟨t,ht⟩:=h3.1 rfl
    refine .inl ⟨t,ht,?_⟩
    rw [if_pos rfl,ht.flat]
    have:=worst_eq 1001 t ht.ok (by have:=ht.ok.size;omega) [] most hm (Nat.zero_le _)
    rw [show Za 1001 t.flat [] most=_ from this]
    rfl
theorem ws_cost:∀ (b:B),∀ k∈b.ws,1≤cS k
  | .nil,k,h=>by simp [B.ws] at h
  | .cons x a c r, k, h => by
    simp only [B.ws,List.mem_append] at h
    rcases h with h | h
    · split at h
      · split at h
        · exact ws_cost c k h
        · exact ws_cost a k h
      · split at h
        · split at h
          · simp only [rep, List.mem_flatten, List.mem_replicate] at h
            obtain ⟨l,⟨_,rfl⟩,h⟩:=h
            exact ws_cost a k h
          · simp at h
        · split at h
          · simp only [List.mem_cons,List.not_mem_nil,or_false] at h;subst h;assumption
          · simp at h
    · exact ws_cost r k h
def costs (l:List Int):Nat:=(l.map cS).sum
theorem costs_app (l m:List Int):costs (l ++ m)=costs l+costs m:=by simp [costs]
theorem costs_rep (l:List Int):∀ k:Nat,costs (rep k l)=k * costs l
  | 0=>by simp [rep,costs]
  | k+1=>by rw [rep_succ,costs_app,costs_rep l k,Nat.succ_mul,Nat.add_comm]
theorem ws_sum:∀ (b:B),costs b.ws=b.steps
  | .nil=>rfl
  | .cons x a c r => by
    have ia:=ws_sum a
    have ic:=ws_sum c
    have ir:=ws_sum r
    simp only [B.ws,B.steps,costs_app,ir]
    congr 1
    split
    · split
      · rw [ic];omega
      · rw [ia];omega
    · split
      · split
        · rw [costs_rep,ia]
        · rw [show a.steps=0 from by omega];simp [costs]
      · split
        · simp [costs]
        · rw [show cS x.Kind=0 from by omega];rfl
theorem costs_len:∀ (l:List Int),(∀ k∈l,1≤cS k)→l.length≤costs l
  | [],_=>Nat.zero_le _
  | k :: l, h => by
    have:=costs_len l (fun y hy=>h y (.tail _ hy))
    have:=h k (.head _)
    simp only [costs,List.map_cons,List.sum_cons,List.length_cons] at *
    omega
theorem Sums_loop {w:List Int} (hw:∀ k∈w,1≤cS k) (hl:w.length≤1000) (kk:Int→Option Bool):∀ (d j n v:Nat),j+d=w.length→d < n→v≤2 * j→
    Z19 1001 kk w n (v:Int) (j:Int)=kk ((v+costs (w.drop j):Nat):Int):=by
  intro d
  induction d with
  | zero =>
    intro j n v hj hn hv
    obtain ⟨n,rfl⟩:∃ m,n=m+1:=⟨n - 1,by omega⟩
    rw [Z19,if_neg (by omega),List.drop_of_length_le (by omega)]
    simp [costs]
  | succ d ih =>
    intro j n v hj hn hv
    obtain ⟨n,rfl⟩:∃ m,n=m+1:=⟨n - 1,by omega⟩
    have h1:j < w.length:=by omega
    rw [Z19,if_pos (by omega),getI_at rfl h1]
    simp only [Option.bind_some,cost_eq]
    have c1:=hw _ (List.getElem_mem h1)
    have c2:=cS_le w[j]
    rw [sure_ok (by simp only [Bool.not_eq_true',Bool.or_eq_false_iff,decide_eq_false_iff_not];omega)]
    simp only [Option.bind_some]
    rw [show IntKind.i64.wrap ((v:Int)+(cS w[j]:Int))=((v+cS w[j]:Nat):Int) from by rw [w64 (by omega) (by omega)];omega,wsucc h1 (by omega),ih (j+1) n (v+cS w[j]) (by omega) (by omega) (by omega),List.drop_eq_getElem_cons h1]
    congr 2
    simp only [costs,List.map_cons,List.sum_cons]
    omega
theorem BoundSums_eq (p1:List api_Stmt):Z17 1001 p1=some true:=by
  unfold Z17
  obtain ⟨l,hl,ll,sl⟩:=CutS p1
  rw [hl]
  simp only [Option.bind_some]
  rcases Steps_spec (by omega) sl with ⟨t,ht,hts⟩ | ⟨hn,hts⟩
  · rw [hts]
    simp only [Option.bind_some]
    by_cases h:300 < t.steps
    · rw [if_pos (by simp only [Bool.or_eq_true, decide_eq_true_eq]; omega), if_pos (by omega)]
      exact fix_b
    · rw [if_neg (by simp only [Bool.or_eq_true, decide_eq_true_eq]; omega)]
      rcases Worst_spec (by omega) sl (most:=1000) (by omega) with ⟨u,hu,e⟩ | ⟨hn,e⟩
      · have : u = t := B.uniq hu.good ht.good (by rw [← hu.flat, ht.flat])
        subst this
        have hs:=ws_sum u
        have hc:=ws_cost u
        have hlen:=costs_len _ hc
        rw [e]
        simp only [Option.bind_some]
        rw [List.take_of_length_le (by omega),show (0:Int)=((0:Nat):Int) from rfl,Sums_loop hc (by omega) _ u.ws.length 0 1001 0 (by omega) (by omega) (Nat.le_refl _),List.drop_zero,Nat.zero_add,hs,
          Z18,if_pos rfl]
        exact fix_b
      · exact absurd ⟨t,ht⟩ hn
  · rw [hts]
    simp only [Option.bind_some]
    rw [if_pos (by decide),if_neg (by decide)]
    obtain ⟨b,_,h2,h3⟩:=SRight (by omega) sl
    cases b with
    | true=>exact absurd (h3.1 rfl) hn
    | false =>
      rw [h2]
      simp only [Option.bind_some]
      rw [if_neg (by decide)]
      rcases Worst_spec (by omega) sl (most:=9) (by omega) with ⟨u,hu,e⟩ | ⟨_,e⟩
      · exact absurd ⟨u,hu⟩ hn
      · rw [e]
        simp only [Option.bind_some]
        rw [if_pos (by simp)]
        exact fix_b
end Go.MD.LB
