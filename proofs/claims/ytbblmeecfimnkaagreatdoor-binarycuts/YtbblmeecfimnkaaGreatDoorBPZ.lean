/- Code put together from statements: where it goes, which loops it has. No condition: plain lemmas. -/
import Derived.Test.YtbblmeecfimnkaaGreatDoorBPY
namespace Go.MD.BINZ.R
open Go Go.MD Go.MD.BINZ
variable {R D p4 p5 p6:Int} {e:Nat}
theorem Is {α:Type} {M1 M2:List α} {i:Nat} {x:α} (h:(M1 ++ M2)[i]? = some x):(i < M1.length∧M1[i]? = some x)∨(M1.length≤i∧M2[i - M1.length]? = some x):=by
  rcases Nat.lt_or_ge i M1.length with q | q
  · rw [List.getElem?_append_left q] at h;exact .inl ⟨q,h⟩
  · rw [List.getElem?_append_right q] at h;exact .inr ⟨q,h⟩
theorem W9 {α:Type} {M:List α} {i:Nat} {x:α} (h:M[i]? = some x):i < M.length:=(List.getElem?_eq_some_iff.1 h).1
structure G1 (R D p4 p5 p6:Int) (e p k:Nat) (x:api_Instr):Prop where
  fields:Cn x R D p4 p5 p6=true
  jump:x.Kind=11∨x.Kind=12→(p:Int) < x.To∧x.To≤(e:Int)
  none:x.Kind≠11→x.Kind≠12→x.Kind≠14→x.To=0
  loop:x.Kind=13∨x.Kind=14→(k:Int)≤x.A
structure G (R D p4 p5 p6:Int) (e:Nat) (M:List api_Instr) (p k:Nat):Prop where
  one:∀ i x,M[i]? = some x→G1 R D p4 p5 p6 e (p+i) k x
  again:∀ i x,M[i]? = some x→x.Kind=14→∃ s,x.To=((p+s+1:Nat):Int)∧s < i∧(∃ y,M[s]? = some y∧y.Kind=13∧y.A=x.A)∧∀ t y,s < t→t < i→M[t]? = some y→y.Kind=13→y.A≠x.A
  nest:∀ i j x y,j < i→M[i]? = some x→M[j]? = some y→x.Kind=14→y.Kind=14→x.To≤y.To∨((p+j+1:Nat):Int) < x.To
theorem Jbr {p k:Nat}:G R D p4 p5 p6 e [] p k:=⟨fun i x h=>(by simp at h),fun i x h=>(by simp at h),fun i j x y _ h=>(by simp at h)⟩
theorem Mq {M1 M2:List api_Instr} {p k:Nat} (h1:G R D p4 p5 p6 e M1 p k) (h2:G R D p4 p5 p6 e M2 (p+M1.length) k):G R D p4 p5 p6 e (M1 ++ M2) p k:=by
  refine ⟨fun i x h=>?_,fun i x h hk=>?_,fun i j x y hij hx hy kx ky=>?_⟩
  · rcases Is h with ⟨_, h⟩ | ⟨q, h⟩
    · exact h1.one i x h
    · have := h2.one _ x h
      rwa [show p+M1.length+(i - M1.length)=p+i by omega] at this
  · rcases Is h with ⟨q, h⟩ | ⟨q, h⟩
    · obtain ⟨s, a, b, ⟨y, c1, c2⟩, d⟩ := h1.again i x h hk
      refine ⟨s,a,b,⟨y,by rw [List.getElem?_append_left (by omega)];exact c1,c2⟩,fun t y u v w=>d t y u v ?_⟩
      rwa [List.getElem?_append_left (by omega)] at w
    · obtain ⟨s, a, b, ⟨y, c1, c2⟩, d⟩ := h2.again _ x h hk
      refine ⟨M1.length+s,by rw [a];congr 1;omega,by omega,⟨y,by rw [List.getElem?_append_right (by omega),show M1.length+s - M1.length=s by omega];exact c1,c2⟩,fun t y u v w=>d (t - M1.length) y (by omega) (by omega) ?_⟩
      rwa [List.getElem?_append_right (by omega)] at w
  · rcases Is hx with ⟨q, hx⟩ | ⟨q, hx⟩
    · rcases Is hy with ⟨r, hy⟩ | ⟨r, hy⟩
      · exact h1.nest i j x y hij hx hy kx ky
      · omega
    · rcases Is hy with ⟨r, hy⟩ | ⟨r, hy⟩
      · obtain ⟨s, a, _⟩ := h2.again _ x hx kx
        right;rw [a];omega
      · rcases h2.nest _ _ x y (by omega) hx hy kx ky with h | h
        · exact .inl h
        · right;rw [show p+M1.length+(j - M1.length)+1=p+j+1 by omega] at h;exact h
theorem Tq {x:api_Instr} {p k:Nat} (h:G1 R D p4 p5 p6 e p k x) (hk:x.Kind≠14):G R D p4 p5 p6 e [x] p k:=by
  have e1:∀ i y,[x][i]? = some y→i=0∧y=x:=fun i y h=>by
    have:=W9 h
    simp only [List.length_singleton] at this
    obtain rfl:i=0:=by omega
    simp at h;exact ⟨rfl,h.symm⟩
  refine ⟨fun i y h'=>?_,fun i y h' q=>?_,fun i j y z hij hy=>?_⟩
  · obtain ⟨rfl,rfl⟩:=e1 i y h';exact h
  · obtain ⟨rfl,rfl⟩:=e1 i y h';exact absurd q hk
  · have:=(e1 i y hy).1;omega
theorem JdF {M:List api_Instr} {p k:Nat} (h:G R D p4 p5 p6 e M p (k+1)):G R D p4 p5 p6 e M p k:=
  ⟨fun i x q=>let g:=h.one i x q;⟨g.fields,g.jump,g.none,fun w=>by have:=g.loop w;omega⟩,h.again,h.nest⟩
theorem JbA {M:List api_Instr} {c g:api_Instr} {p k:Nat} (h:G R D p4 p5 p6 e M (p+1) (k+1)) (hc:G1 R D p4 p5 p6 e p k c) (hg:G1 R D p4 p5 p6 e (p+1+M.length) k g)
    (c1:c.Kind=13) (c2:c.A=(k:Int)) (g1:g.Kind=14) (g2:g.A=(k:Int)) (g3:g.To=((p+1:Nat):Int)):G R D p4 p5 p6 e (c :: (M ++ [g])) p k:=by
  have look:∀ i x,(c :: (M ++ [g]))[i]? = some x→(i=0∧x=c)∨(∃ j,i=j+1∧j < M.length∧M[j]? = some x)∨(i=M.length+1∧x=g):=by
    intro i x hx
    cases i with
    | zero=>simp at hx;exact .inl ⟨rfl,hx.symm⟩
    | succ j =>
      rw [List.getElem?_cons_succ] at hx
      rcases Is hx with ⟨q,hx⟩ | ⟨q,hx⟩
      · exact .inr (.inl ⟨j,rfl,q,hx⟩)
      · have := W9 hx
        simp only [List.length_singleton] at this
        rw [show j - M.length=0 by omega] at hx
        simp at hx
        exact .inr (.inr ⟨by omega,hx.symm⟩)
  have h':=JdF h
  refine ⟨fun i x hx=>?_,fun i x hx hk=>?_,fun i j x y hij hx hy kx ky=>?_⟩
  · rcases look i x hx with ⟨rfl, rfl⟩ | ⟨j, rfl, _, hx⟩ | ⟨rfl, rfl⟩
    · exact hc
    · have := h'.one j x hx
      rwa [show p+1+j=p+(j+1) by omega] at this
    · rwa [show p+1+M.length=p+(M.length+1) by omega] at hg
  · rcases look i x hx with ⟨rfl, rfl⟩ | ⟨j, rfl, hj, hx⟩ | ⟨rfl, rfl⟩
    · omega
    · obtain ⟨s, a, b, ⟨y, d1, d2⟩, d⟩ := h.again j x hx hk
      refine ⟨s+1,by rw [a];congr 1;omega,by omega,⟨y,by rw [List.getElem?_cons_succ,List.getElem?_append_left (by omega)];exact d1,d2⟩,fun t y u v w ky=>?_⟩
      rcases look t y w with ⟨rfl,rfl⟩ | ⟨t',rfl,_,w⟩ | ⟨rfl,rfl⟩
      · omega
      · exact d t' y (by omega) (by omega) w ky
      · omega
    · refine ⟨0, by rw [g3], by omega, ⟨c, by simp, c1, by rw [c2, g2]⟩, fun t y u v w ky => ?_⟩
      rcases look t y w with ⟨rfl,rfl⟩ | ⟨t',rfl,_,w⟩ | ⟨rfl,rfl⟩
      · omega
      · have:=(h.one t' y w).loop (.inl ky);omega
      · omega
  · rcases look i x hx with ⟨rfl, rfl⟩ | ⟨i', rfl, hi, hx⟩ | ⟨rfl, rfl⟩
    · omega
    · rcases look j y hy with ⟨rfl, rfl⟩ | ⟨j', rfl, _, hy⟩ | ⟨rfl, rfl⟩
      · omega
      · rcases h.nest i' j' x y (by omega) hx hy kx ky with q | q
        · exact .inl q
        · right;rw [show p+1+j'+1=p+(j'+1)+1 by omega] at q;exact q
      · omega
    · rcases look j y hy with ⟨rfl, rfl⟩ | ⟨j', rfl, _, hy⟩ | ⟨rfl, rfl⟩
      · omega
      · obtain ⟨s, a, _⟩ := h.again j' y hy ky
        left;rw [g3,a];omega
      · omega
theorem JbS {p:api_Code} (h:G p.Regs p.Counts p4 p5 p6 p.L.length p.L 0 0) (hR:0≤p.Regs∧p.Regs≤4) (hC:0≤p.Counts∧p.Counts≤12):Gy p p4 p5 p6=true:=by
  unfold Gy
  simp only [Bool.and_eq_true,Bool.not_eq_true',Bool.or_eq_false_iff,decide_eq_false_iff_not,List.all_eq_true]
  refine ⟨by omega,fun i hi=>?_,fun i hi=>?_⟩
  · unfold Nc
    cases hx:p.L[i]? with
    | none=>rfl
    | some x =>
      have g:=h.one i x hx
      simp only [g.fields,Bool.true_and]
      unfold toB
      by_cases k1:x.Kind=11∨x.Kind=12
      · rw [if_pos k1]
        have:=g.jump k1
        rw [Nat.zero_add] at this
        simp only [Bool.and_eq_true,decide_eq_true_eq];exact this
      · rw [if_neg k1]
        by_cases k2:x.Kind=14
        · obtain ⟨s, a, b, ⟨y, c1, c2, c3⟩, d⟩ := h.again i x hx k2
          rw [if_pos k2,if_neg (by omega),show (x.To - 1).toNat=s by omega,c1]
          simp only [c2,c3,decide_true,Bool.true_and,Bool.not_eq_true',List.any_eq_false,Bool.and_eq_true,decide_eq_true_eq,not_and]
          intro z hz kz
          obtain ⟨t,ht,rfl⟩:=List.mem_iff_getElem.1 hz
          have ht':=ht
          simp only [List.length_drop,List.length_take] at ht'
          have e1:((p.L.take i).drop x.To.toNat)[t]=p.L[x.To.toNat+t]'(by omega):=by rw [List.getElem_drop,List.getElem_take]
          rw [e1] at kz ⊢
          exact d (x.To.toNat+t) _ (by omega) (by omega) (List.getElem?_eq_getElem (by omega)) kz
        · rw [if_neg k2]
          simp only [decide_eq_true_eq];exact g.none (fun q=>k1 (.inl q)) (fun q=>k1 (.inr q)) k2
  · unfold Pq
    cases hx:F9 p.L i with
    | false=>rfl
    | true =>
      simp only [Bool.not_true,Bool.false_or,List.all_eq_true]
      intro j hj
      obtain ⟨hj1,hj2⟩:=List.mem_filter.1 hj
      have hji:=List.mem_range.1 hj1
      unfold F9 at hx hj2
      unfold g14
      cases ex:p.L[i]? with
      | none=>rfl
      | some x =>
        cases ey:p.L[j]? with
        | none=>rfl
        | some y =>
          rw [ex] at hx;rw [ey] at hj2
          simp only [decide_eq_true_eq] at hx hj2
          have:=h.nest i j x y hji ex ey hx hj2
          simp only [Bool.not_eq_true',Bool.and_eq_false_iff,decide_eq_false_iff_not]
          omega
end Go.MD.BINZ.R
namespace Go.MD.BINZ.R
open Go Go.MD Go.MD.BINZ
variable {R D p4 p5 p6:Int} {e:Nat}
def Cq (x:api_Stmt):Nat:=if 0 < x.Else then 1 else 0
def ni:B→Nat
  | .nil=>0
  | .cons x a c r=>(if x.Kind=11 then 1+ni a+Cq x+ni c else if x.Kind=12 then 2+ni a else 1)+ni r
def dp:B→Nat
  | .nil=>0
  | .cons x a c r=>max (max (dp a) (dp c)+(if x.Kind=12 then 1 else 0)) (dp r)
def K9 (E:List api_Op) (to:Nat):api_Instr:=⟨12,0,0,E,[],to⟩
def Gs (to:Nat):api_Instr:=⟨11,0,0,[],[],to⟩
def On (k:Nat) (n:Int):api_Instr:=⟨13,k,n,[],[],0⟩
def Og (k to:Nat):api_Instr:=⟨14,k,0,[],[],to⟩
section
variable (o:api_Stmt→api_Instr) (eo:api_Stmt→List api_Op)
def mk:B→Nat→Nat→Nat→List api_Instr
  | .nil,_,_,_=>[]
  | .cons x a c r, p, k, out =>
    if x.Kind=11 then
      ([K9 (eo x) (p+1+ni a+Cq x)] ++ (mk a (p+1) k out ++ ((if 0 < x.Else then [Gs (p+1+ni a+Cq x+ni c)] else []) ++ mk c (p+1+ni a+Cq x) k out))) ++ mk r (p+(1+ni a+Cq x+ni c)) k out
    else if x.Kind=12 then
      (On k x.N :: (mk a (p+1) (k+1) (p+2+ni a) ++ [Og k (p+1)])) ++ mk r (p+(2+ni a)) k out
    else if x.Kind=13 then [Gs out] ++ mk r (p+1) k out
    else [o x] ++ mk r (p+1) k out
theorem O9 (x:api_Stmt) (j:api_Instr):(if 0 < x.Else then [j] else []).length=Cq x:=by unfold Cq;split <;> rfl
theorem Ct:∀ (b:B) (p k out:Nat),(mk o eo b p k out).length=ni b
  | .nil,_,_,_=>rfl
  | .cons x a c r, p, k, out => by
    have ha:=Ct a;have hc:=Ct c;have hr:=Ct r
    rw [mk,ni]
    split
    · simp only [List.length_append,O9,ha,hc,hr,List.length_singleton];omega
    · split
      · simp only [List.length_append,List.length_cons,ha,hr,List.length_nil];omega
      · split <;> simp only [List.length_append,hr,List.length_singleton]
structure OkS (R D p4 p5 p6:Int) (x:api_Stmt):Prop where
  cond:x.Kind=11→De (eo x) R=true
  one:x.Kind≠11→x.Kind≠12→x.Kind≠13→Cn (o x) R D p4 p5 p6=true∧(o x).To=0∧(o x).Kind≠11∧(o x).Kind≠12∧(o x).Kind≠13∧(o x).Kind≠14
  many:x.Kind=12→1≤x.N∧x.N≤8
theorem Qe:∀ (b:B) (p k out:Nat),b.good k→(∀ x∈b.flat,OkS o eo R D p4 p5 p6 x)→(k:Int)+(dp b:Int)≤D→p+ni b≤e→(0 < k→p+ni b≤out∧out≤e)→G R D p4 p5 p6 e (mk o eo b p k out) p k
  | .nil,p,k,out,_,_,_,_,_=>Jbr
  | .cons x a c r, p, k, out, hg, hx, hd, he, ho => by
    obtain ⟨g1,g2,g3,g4,g5,g6,g7,g8⟩:=hg
    have kx:=hx x (by simp [B.flat])
    have ka:∀ y∈a.flat,OkS o eo R D p4 p5 p6 y:=fun y hy=>hx y (by simp [B.flat,hy])
    have kc:∀ y∈c.flat,OkS o eo R D p4 p5 p6 y:=fun y hy=>hx y (by simp [B.flat,hy])
    have kr:∀ y∈r.flat,OkS o eo R D p4 p5 p6 y:=fun y hy=>hx y (by simp [B.flat,hy])
    rw [ni] at he ho
    rw [dp] at hd
    have dr:(k:Int)+(dp r:Int)≤D:=by omega
    rw [mk]
    by_cases h1:x.Kind=11
    · rw [if_pos h1] at he ho ⊢
      have q:inL x k=k:=by unfold inL;rw [if_neg (by omega)]
      rw [q] at g6 g7
      rw [if_neg (by omega)] at hd
      refine Mq (Mq (Tq ?_ (by simp [K9])) (Mq ?_ (Mq ?_ ?_))) ?_
      · refine ⟨?_, fun _ => ?_, fun _ w => absurd rfl w, fun w => by rcases w with w | w <;> cases w⟩
        · have := kx.cond h1
          simp [Cn,K9,fA,fB,fE,fF,this]
        · simp only [K9];omega
      · exact Qe a (p+1) k out g6 ka (by omega) (by omega) (fun w=>by have:=ho w;omega)
      · rw [Ct, List.length_singleton]
        split
        · rename_i he2
          refine Tq ⟨by simp [Cn,Gs,fA,fB,fE,fF],fun _=>?_,fun w=>absurd rfl w,fun w=>by rcases w with w | w <;> cases w⟩ (by simp [Gs])
          have:Cq x=1:=if_pos he2
          simp only [Gs];omega
        · exact Jbr
      · rw [Ct, List.length_singleton, O9]
        exact Qe c (p+1+ni a+Cq x) k out g7 kc (by omega) (by omega) (fun w=>by have:=ho w;omega)
      · simp only [List.length_append, Ct, O9, List.length_singleton]
        rw [show p+(1+(ni a+(Cq x+ni c)))=p+(1+ni a+Cq x+ni c) by omega]
        exact Qe r _ k out g8 kr dr (by omega) (fun w=>by have:=ho w;omega)
    · rw [if_neg h1] at he ho ⊢
      by_cases h2:x.Kind=12
      · rw [if_pos h2] at he ho ⊢
        rw [if_pos h2] at hd
        have q:inL x k=k+1:=by unfold inL;rw [if_pos h2]
        rw [q] at g6
        have hn:=kx.many h2
        refine Mq (JbA ?_ ?_ ?_ rfl rfl rfl rfl rfl) ?_
        · exact Qe a (p+1) (k+1) (p+2+ni a) g6 ka (by omega) (by omega) (fun _=>by omega)
        · refine ⟨?_, fun w => (by rcases w with w | w <;> cases w), fun _ _ _ => rfl, fun _ => Int.le_refl _⟩
          simp [Cn,On,fA,fB,fE,fF,inB,hn];refine decide_eq_true ?_;show (k:Int) < D;omega
        · refine ⟨?_, fun w => (by rcases w with w | w <;> cases w), fun _ _ w => absurd rfl w, fun _ => Int.le_refl _⟩
          simp [Cn,Og,fA,fB,fE,fF,inB];refine decide_eq_true ?_;show (k:Int) < D;omega
        · simp only [List.length_append, List.length_cons, Ct, List.length_nil]
          rw [show p+(ni a+(0+1)+1)=p+(2+ni a) by omega]
          exact Qe r _ k out g8 kr dr (by omega) (fun w=>by have:=ho w;omega)
      · rw [if_neg h2] at he ho ⊢
        by_cases h3:x.Kind=13
        · rw [if_pos h3]
          have hk:0 < k:=Nat.pos_of_ne_zero fun h=>g5 ⟨h3,h⟩
          have:=ho hk
          refine Mq (Tq ⟨by simp [Cn,Gs,fA,fB,fE,fF],fun _=>?_,fun w=>absurd rfl w,fun w=>by rcases w with w | w <;> cases w⟩ (by simp [Gs])) ?_
          · simp only [Gs];omega
          · exact Qe r _ k out g8 kr dr (by omega) (fun w=>by omega)
        · rw [if_neg h3]
          obtain ⟨f1,f2,f3,f4,f5,f6⟩:=kx.one h1 h2 h3
          refine Mq (Tq ⟨f1,fun w=>by rcases w with w | w <;> contradiction,fun _ _ _=>f2,fun w=>by rcases w with w | w <;> contradiction⟩ f6) ?_
          exact Qe r _ k out g8 kr dr (by omega) (fun w=>by have:=ho w;omega)
end
theorem Tm:(Bf []).length≤6:=by have:=Ay ((([]:List api_Op).length:Nat):Int);simpa [Bf] using this
theorem J9 {x:api_Instr} (hE:x.E=[]) (hF:x.F=[]):(Dh x).length≤36:=by
  unfold Dh
  rw [hE,hF]
  have:=Tm;have:=Ay x.Kind;have:=Ay x.A;have:=Ay x.B;have:=Ay x.To
  simp only [List.length_append];omega
theorem Ph {x:api_Instr} (hE:x.E.length≤40) (hF:x.F.length≤40):(Dh x).length≤996:=Mh hE hF
def wt (l:List api_Instr):Nat:=(l.flatMap Dh).length
theorem Oj (a b:List api_Instr):wt (a ++ b)=wt a+wt b:=by simp [wt]
theorem JaT (x:api_Instr) (b:List api_Instr):wt (x :: b)=(Dh x).length+wt b:=by simp [wt]
theorem Jb8:wt []=0:=rfl
theorem Oz (x:api_Instr):wt [x]=(Dh x).length:=by simp [wt]
theorem Ub (o:api_Stmt→api_Instr) (eo:api_Stmt→List api_Op):∀ (b:B) (p k out:Nat),(∀ x∈b.flat,(eo x).length≤40∧(o x).E.length≤40∧(o x).F.length≤40)→wt (mk o eo b p k out)≤1032 * b.size
  | .nil,_,_,_,_=>Nat.zero_le _
  | .cons x a c r, p, k, out, h => by
    have kx:=h x (by simp [B.flat])
    have ha:=fun p k out=>Ub o eo a p k out (fun y hy=>h y (by simp [B.flat,hy]))
    have hc:=fun p k out=>Ub o eo c p k out (fun y hy=>h y (by simp [B.flat,hy]))
    have hr:=fun p k out=>Ub o eo r p k out (fun y hy=>h y (by simp [B.flat,hy]))
    rw [mk,B.size]
    split
    · have h1 := ha (p + 1) k out
      have h2:=hc (p+1+ni a+Cq x) k out
      have h3:=hr (p+(1+ni a+Cq x+ni c)) k out
      have h4:(Dh (K9 (eo x) (p+1+ni a+Cq x))).length≤996:=Ph kx.1 (by simp [K9])
      have h5:(Dh (Gs (p+1+ni a+Cq x+ni c))).length≤36:=J9 rfl rfl
      have h6:wt (if 0 < x.Else then [Gs (p+1+ni a+Cq x+ni c)] else [])≤36:=by
        split
        · rw [Oz];exact h5
        · exact Nat.zero_le _
      simp only [Oj,Oz];omega
    · split
      · have h1 := ha (p + 1) (k + 1) (p + 2 + ni a)
        have h3:=hr (p+(2+ni a)) k out
        have h4:(Dh (On k x.N)).length≤36:=J9 rfl rfl
        have h5:(Dh (Og k (p+1))).length≤36:=J9 rfl rfl
        simp only [Oj,JaT,Jb8];omega
      · have h3 := hr (p + 1) k out
        split
        · have h5 : (Dh (Gs out)).length ≤ 36 := J9 rfl rfl
          simp only [Oj,Oz];omega
        · have h5 : (Dh (o x)).length ≤ 996 := Ph kx.2.1 kx.2.2
          simp only [Oj,Oz];omega
theorem Jp (o:api_Stmt→api_Instr) (eo:api_Stmt→List api_Op):∀ (b:B) (p k out:Nat),(∀ x∈b.flat,(eo x).length≤40∧(o x).E.length≤40∧(o x).F.length≤40)→∀ y∈mk o eo b p k out,y.E.length≤40∧y.F.length≤40
  | .nil,_,_,_,_,y,hy=>nomatch hy
  | .cons x a c r, p, k, out, h, y, hy => by
    have kx:=h x (by simp [B.flat])
    have ha:=fun p k out=>Jp o eo a p k out (fun y hy=>h y (by simp [B.flat,hy])) y
    have hc:=fun p k out=>Jp o eo c p k out (fun y hy=>h y (by simp [B.flat,hy])) y
    have hr:=fun p k out=>Jp o eo r p k out (fun y hy=>h y (by simp [B.flat,hy])) y
    rw [mk] at hy
    split at hy
    · simp only [List.mem_append, List.mem_singleton] at hy
      rcases hy with (rfl | hy | hy | hy) | hy
      · exact ⟨kx.1,by simp [K9]⟩
      · exact ha _ _ _ hy
      · split at hy
        · rw [List.mem_singleton] at hy;subst hy;simp [Gs]
        · cases hy
      · exact hc _ _ _ hy
      · exact hr _ _ _ hy
    · split at hy
      · simp only [List.mem_append, List.mem_cons, List.mem_singleton, List.not_mem_nil, or_false] at hy
        rcases hy with (rfl | hy | rfl) | hy
        · simp [On]
        · exact ha _ _ _ hy
        · simp [Og]
        · exact hr _ _ _ hy
      · split at hy
        · simp only [List.mem_append, List.mem_singleton] at hy
          rcases hy with rfl | hy
          · simp [Gs]
          · exact hr _ _ _ hy
        · simp only [List.mem_append, List.mem_singleton] at hy
          rcases hy with rfl | hy
          · exact kx.2
          · exact hr _ _ _ hy
theorem Iy:∀ b:B,ni b≤2 * b.size
  | .nil=>Nat.le_refl _
  | .cons x a c r => by
    have:=Iy a;have:=Iy c;have:=Iy r
    have:Cq x≤1:=by unfold Cq;split <;> omega
    rw [ni,B.size]
    split
    · omega
    · split <;> omega
end Go.MD.BINZ.R
namespace Go.MD.BINZ.R
open Go Go.MD Go.MD.BINZ
def opN (names:List Str) (x:api_Node):api_Op:=⟨x.Op,if x.Op=2 then Cd names x.Name 0 else x.N⟩
def post (names:List Str):T→List api_Op
  | .leaf x=>[opN names x]
  | .un x a=>post names a ++ [opN names x]
  | .bin x a b=>post names a ++ post names b ++ [opN names x]
theorem Ey (names:List Str):∀ t:T,(post names t).length=t.size
  | .leaf _=>rfl
  | .un _ a=>by simp [post,T.size,Ey names a]
  | .bin _ a b=>by simp [post,T.size,Ey names a,Ey names b] <;> omega
section
variable {l:List api_Node}
theorem Mo {N:Nat} {names:List Str} (hn:names.length≤100) (hN:101≤N) {i:Int} {x:api_Node} (hx:getI l i=some x) {out:List api_Op} (ho:out.length≤5000):Z5t N l i names out=some (out ++ [opN names x]):=by
  unfold Z5t Z5u opN
  rw [hx]
  simp only [Option.bind_some]
  by_cases e:x.Op=2
  · rw [if_pos e, if_pos e, C9 (by omega) (by omega)]
    simp only [Option.bind_some]
    rw [Az (by simp;omega) (by decide)];rfl
  · rw [if_neg e,if_neg e,Az (by simp;omega) (by decide)];rfl
theorem Gd (hl1:l.length≤1000) {names:List Str} (hn:names.length≤100):∀ (t:T) (N:Nat) (p q:List api_Node),l=p ++ (t.flat ++ q)→t.wk→l.length+206+t.depth≤N→Z5s N l (p.length:Int) names=some (post names t)
  | .leaf x, N, p, q, hl, ht, hN => by
    have h1:getI l (p.length:Int)=some x:=Iu hl
    have h0:ar x.Op=0:=ht
    obtain ⟨N,rfl⟩:∃ M,N=M+2:=⟨N - 2,by omega⟩
    rw [Z5s,Z5v,h1]
    simp only [Option.bind_some,Di]
    rw [if_neg (by omega),Mo hn (by omega) h1 (by simp)]
    rfl
  | .un x a, N, p, q, hl, ht, hN => by
    have h1:getI l (p.length:Int)=some x:=Iu hl
    have hd:=T.depth_le (T.un x a)
    have hp:p.length+(T.un x a).size≤l.length:=by rw [hl];simp [T.flat_len] <;> omega
    have hpl:=Ey names a
    simp only [T.depth,T.size] at hN hd hp
    obtain ⟨N,rfl⟩:∃ M,N=M+3:=⟨N - 3,by omega⟩
    have ih:=Gd hl1 hn a (N+2) _ _ (JaZ hl) ht.2 (by omega)
    have e:=It hl1 (by omega:l.length+5≤N+2) (JaZ hl) ht.2
    rw [List.length_append,List.length_singleton] at ih e
    have h0:=ht.1
    rw [Z5s,Z5v,h1]
    simp only [Option.bind_some,Di]
    rw [if_pos (by omega),Bd (j:=p.length) (n:=l.length) (by omega) (by omega),ih]
    simp only [Option.bind_some]
    rw [Az (by simp;omega) (by decide)]
    simp only [Option.bind_some]
    rw [e]
    simp only [Option.bind_some]
    rw [w01,Z5v,h1]
    simp only [Option.bind_some,Di]
    rw [if_neg (by omega),Mo hn (by omega) h1 (by simp;omega)]
    rfl
  | .bin x a b, N, p, q, hl, ht, hN => by
    have h1:getI l (p.length:Int)=some x:=Iu hl
    have hd:=T.depth_le (T.bin x a b)
    have hp:p.length+(T.bin x a b).size≤l.length:=by rw [hl];simp [T.flat_len] <;> omega
    have hpl:=Ey names a
    have hpl2:=Ey names b
    simp only [T.depth,T.size] at hN hd hp
    obtain ⟨N,rfl⟩:∃ M,N=M+4:=⟨N - 4,by omega⟩
    have ih:=Gd hl1 hn a (N+3) _ _ (JaB hl) ht.2.1 (by omega)
    have ih2:=Gd hl1 hn b (N+3) _ _ (JaJ hl) ht.2.2 (by omega)
    have e:=It hl1 (by omega:l.length+5≤N+3) (JaB hl) ht.2.1
    have e2:=It hl1 (by omega:l.length+5≤N+3) (JaJ hl) ht.2.2
    rw [List.length_append,List.length_singleton] at ih e
    rw [List.length_append,List.length_append,List.length_singleton,T.flat_len] at ih2 e2
    have h0:=ht.1
    rw [Z5s,Z5v,h1]
    simp only [Option.bind_some,Di]
    rw [if_pos (by omega),Bd (j:=p.length) (n:=l.length) (by omega) (by omega),ih]
    simp only [Option.bind_some]
    rw [Az (by simp;omega) (by decide)]
    simp only [Option.bind_some]
    rw [e]
    simp only [Option.bind_some]
    rw [w01,Z5v,h1]
    simp only [Option.bind_some,Di]
    rw [if_pos (by omega),ih2]
    simp only [Option.bind_some]
    rw [Az (by simp;omega) (by decide)]
    simp only [Option.bind_some]
    rw [e2]
    simp only [Option.bind_some]
    rw [w12,Z5v,h1]
    simp only [Option.bind_some,Di]
    rw [if_neg (by omega),Mo hn (by omega) h1 (by simp;omega)]
    simp [post]
end
def Gj (l:List api_Node) (names:List Str):Prop:=∀ x∈l,x.Op=2→x.Name∈names
theorem Ss {N:Nat} (hN:5000≤N) {l:List api_Node} {names:List Str} (hl:l.length≤60) (hn:names.length≤100) {kf:Option (List api_Op×Int)}:∀ (d j n:Nat),j+d=l.length→d < n→
    (Gj (l.drop j) names∧Z5g N kf l names n (j:Int)=kf)∨(¬ Gj (l.drop j) names∧Z5g N kf l names n (j:Int)=some ([],9)):=by
  intro d
  induction d with
  | zero =>
    intro j n hj hn'
    obtain ⟨n,rfl⟩:∃ m,n=m+1:=⟨n - 1,by omega⟩
    rw [Z5g,if_neg (by omega),List.drop_of_length_le (by omega)]
    exact .inl ⟨fun x hx=>(by cases hx),rfl⟩
  | succ d ih =>
    intro j n hj hn'
    obtain ⟨n,rfl⟩:∃ m,n=m+1:=⟨n - 1,by omega⟩
    have h1:j < l.length:=by omega
    have go:(l[j].Op=2→l[j].Name∈names)→(Gj (l.drop j) names∧Z5f (Z5g N kf l names n) (j:Int) false=kf)∨(¬ Gj (l.drop j) names∧Z5f (Z5g N kf l names n) (j:Int) false=some ([],9)):=by
      intro hs
      rw [Z5f,if_neg (by decide),Bd h1 (by omega),List.drop_eq_getElem_cons h1]
      rcases ih (j+1) n (by omega) (by omega) with ⟨h,e⟩ | ⟨h,e⟩
      · refine .inl ⟨fun x hx => ?_, e⟩
        rcases List.mem_cons.1 hx with rfl | hx
        · exact hs
        · exact h x hx
      · exact .inr ⟨fun h'=>h fun x hx=>h' x (.tail _ hx),e⟩
    rw [Z5g,if_pos (by omega),Aw rfl h1]
    simp only [Option.bind_some]
    by_cases e2:l[j].Op=2
    · rw [if_pos e2, C9 (by omega) (by omega)]
      simp only [Option.bind_some]
      have hi:=(Ci names l[j].Name 0).1
      by_cases hm:l[j].Name∈names
      · rw [decide_eq_false (by have:=hi.2 hm;omega)];exact go fun _=>hm
      · have : ¬ 0 ≤ Cd names l[j].Name 0 := fun h => hm (hi.1 h)
        rw [decide_eq_true (by omega),Z5f,if_pos rfl]
        refine .inr ⟨fun h=>hm (h l[j] ?_ e2),rfl⟩
        rw [List.drop_eq_getElem_cons h1];exact .head _
    · rw [if_neg e2];exact go fun h=>absurd h e2
section
variable {names:List Str}
theorem Jac {k:Int} (h:0≤ar k):(wN k:Int)=ar k:=by
  rcases Kb k with ⟨h1,h2⟩ | ⟨h1,h2⟩ | ⟨h1,h2⟩ | ⟨h1,h2⟩
  · rw [h1];unfold wN;rw [if_neg (by omega),if_neg (by omega)];rfl
  · rw [h1];unfold wN;rw [if_pos (by omega)];rfl
  · rw [h1];unfold wN;rw [if_neg (by omega),if_pos (by omega)];rfl
  · omega
theorem Ya {k:Int} {n:Nat} (h:ar k=(n:Int)):wN k=n:=by have:=Jac (k:=k) (by omega);omega
def hiT:T→Nat
  | .leaf _=>1
  | .un _ a=>hiT a
  | .bin _ a b=>max (hiT a) (1+hiT b)
theorem Jr:∀ t:T,1≤hiT t
  | .leaf _=>Nat.le_refl _
  | .un _ a=>Jr a
  | .bin _ a b=>by have:=Jr a;simp only [hiT];omega
theorem Jy:∀ (t:T) (r:List api_Op) (n h:Nat),t.wk→hts (post names t ++ r) n h=hts r (n+1) (max h (n+hiT t))
  | .leaf x, r, n, h, hw => by
    have hw':=Ya (n:=0) hw
    show (if n < wN x.Op then none else hts r (n - wN x.Op+1) (max h (n - wN x.Op+1)))=_
    rw [hw',if_neg (by omega)];rfl
  | .un x a, r, n, h, hw => by
    have hw':=Ya (n:=1) hw.1
    show hts ((post names a ++ [opN names x]) ++ r) n h=_
    rw [List.append_assoc,Jy a _ n h hw.2]
    show (if n+1 < wN x.Op then none else hts r (n+1 - wN x.Op+1) (max (max h (n+hiT a)) (n+1 - wN x.Op+1)))=_
    have:=Jr a
    rw [hw',if_neg (by omega),show n+1 - 1+1=n+1 by omega,show max (max h (n+hiT a)) (n+1)=max h (n+hiT a) by omega]
    rfl
  | .bin x a b, r, n, h, hw => by
    have hw':=Ya (n:=2) hw.1
    show hts ((post names a ++ post names b ++ [opN names x]) ++ r) n h=_
    rw [List.append_assoc,List.append_assoc,Jy a _ n h hw.2.1,Jy b _ _ _ hw.2.2]
    show (if n+1+1 < wN x.Op then none else hts r (n+1+1 - wN x.Op+1) (max (max (max h (n+hiT a)) (n+1+hiT b)) (n+1+1 - wN x.Op+1)))=_
    have:=Jr a
    have:=Jr b
    rw [hw',if_neg (by omega),show n+1+1 - 2+1=n+1 by omega,show max (max (max h (n+hiT a)) (n+1+hiT b)) (n+1)=max h (n+max (hiT a) (1+hiT b)) by omega]
    rfl
theorem JaC (many:Int) (hm:(names.length:Int)≤many):∀ (t:T),t.wk→(∀ x∈t.flat,Ku x=true)→Gj t.flat names→∀ y∈post names t,Nh many y=true
  := by
  have one:∀ x:api_Node,0≤ar x.Op→Ku x=true→(x.Op=2→x.Name∈names)→Nh many (opN names x)=true:=by
    intro x ha hx hv
    unfold Ku at hx
    simp only [Bool.and_eq_true,decide_eq_true_eq] at hx
    unfold Nh opN
    simp only
    by_cases e1:x.Op=1
    · rw [if_pos e1]
      rw [if_pos e1] at hx
      have:=hx.2
      simp at this
      have e2 : ¬ x.Op=2:=by omega
      simp [e2];omega
    · rw [if_neg e1]
      rw [if_neg e1] at hx
      by_cases e2:x.Op=2
      · rw [if_pos e2, if_pos e2]
        have h1:=(Ci names x.Name 0)
        have h2:=h1.2 (hv e2)
        have h3:=h1.1.2 (hv e2)
        simp;omega
      · rw [if_neg e2, if_neg e2]
        rw [if_neg e2] at hx
        have:=hx.2
        simp at this
        have:=Kb x.Op
        simp;omega
  intro t
  induction t with
  | leaf x =>
    intro hw hx hv y hy
    have:y=opN names x:=by simpa [post] using hy
    subst this
    have hw':ar x.Op=0:=hw
    exact one x (by omega) (hx x (.head _)) (hv x (.head _))
  | un x a ih =>
    intro hw hx hv y hy
    have hw1:=hw.1
    simp only [post,List.mem_append,List.mem_singleton] at hy
    rcases hy with hy | rfl
    · exact ih hw.2 (fun z hz=>hx z (.tail _ hz)) (fun z hz=>hv z (.tail _ hz)) y hy
    · exact one x (by omega) (hx x (.head _)) (hv x (.head _))
  | bin x a b iha ihb =>
    intro hw hx hv y hy
    have hw1:=hw.1
    simp only [post,List.mem_append,List.mem_singleton] at hy
    rcases hy with (hy | hy) | rfl
    · exact iha hw.2.1 (fun z hz=>hx z (.tail _ (List.mem_append_left _ hz))) (fun z hz=>hv z (.tail _ (List.mem_append_left _ hz))) y hy
    · exact ihb hw.2.2 (fun z hz=>hx z (.tail _ (List.mem_append_right _ hz))) (fun z hz=>hv z (.tail _ (List.mem_append_right _ hz))) y hy
    · exact one x (by omega) (hx x (.head _)) (hv x (.head _))
end
theorem Ta {l:List api_Node} {t:T} {names:List Str} (ht:RightE l t) (hv:Gj l names):De (post names t) (names.length:Int)=true:=by
  have hl:=congrArg List.length ht.flat
  rw [T.flat_len] at hl
  have h40:=ht.len
  have h:=Jy (names:=names) t [] 0 0 ht.wk
  rw [List.append_nil] at h
  have h2:=JaC (names:=names) _ (Int.le_refl _) t ht.wk (fun x hx=>ht.may x (by rw [ht.flat];exact hx)) (fun x hx=>hv x (by rw [ht.flat];exact hx))
  unfold De
  rw [h]
  simp only [hts,Bool.and_eq_true,decide_eq_true_eq,List.all_eq_true]
  exact ⟨⟨by rw [Ey];omega,trivial⟩,h2⟩
theorem Fw {N:Nat} (hN:5000≤N) {l:List api_Node} {names:List Str} (hl:l.length≤60) (hn:names.length≤100):∃ r,Z5d N l names=some r∧
    (((¬ ∃ t,RightE l t)∧r=([],8))∨(∃ t,RightE l t∧¬ Gj l names∧r=([],9))∨(∃ t,RightE l t∧Gj l names∧r=(post names t,0))):=by
  obtain ⟨c,e2,i2⟩:=Jz hN hl
  unfold Z5d
  rw [e2]
  simp only [Option.bind_some]
  by_cases hR:∃ t,RightE l t
  · rw [i2.2 hR]
    obtain ⟨t,ht⟩:=hR
    have hd:=ht.depth
    rw [if_pos rfl]
    have hs:=Gd (l:=l) (by omega) hn t N [] [] (Hc ht.flat) ht.wk (by omega)
    simp only [List.length_nil] at hs
    rw [show (0:Int)=((0:Nat):Int) from rfl]
    rcases Ss hN (l:=l) (names:=names) (kf:=Z5e N l names) hl hn l.length 0 N (by omega) (by omega) with ⟨q1,q2⟩ | ⟨q1,q2⟩
    · rw [List.drop_zero] at q1
      rw [q2,Z5e]
      have hs':Z5s N l 0 names=some (post names t):=hs
      exact ⟨(post names t,0),by rw [hs'];rfl,.inr (.inr ⟨t,ht,q1,rfl⟩)⟩
    · rw [List.drop_zero] at q1
      rw [q2]
      exact ⟨([],9),rfl,.inr (.inl ⟨t,ht,q1,rfl⟩)⟩
  · have hc:c=false:=by
      cases c with
      | false=>rfl
      | true=>exact absurd (i2.1 rfl) hR
    subst hc
    exact ⟨([],8),rfl,.inl ⟨hR,rfl⟩⟩
def Bl (names:List Str) (l:List api_Node):List api_Op:=((Z5d 1000001 l names).getD ([],0)).1
theorem Vq {N:Nat} (hN:5000≤N) {l:List api_Node} {names:List Str} (hl:l.length≤60) (hn:names.length≤100):Z5d N l names=Z5d 1000001 l names:=by
  obtain ⟨r,h,h2⟩:=Fw hN hl hn
  obtain ⟨q,g,g2⟩:=Fw (N:=1000001) (by decide) hl hn
  rw [h,g]
  congr 1
  rcases h2 with ⟨a,rfl⟩ | ⟨t,ht,a,rfl⟩ | ⟨t,ht,a,rfl⟩
  · rcases g2 with ⟨b, rfl⟩ | ⟨u, hu, b, rfl⟩ | ⟨u, hu, b, rfl⟩
    · rfl
    · exact absurd ⟨u,hu⟩ a
    · exact absurd ⟨u,hu⟩ a
  · rcases g2 with ⟨b, rfl⟩ | ⟨u, hu, b, rfl⟩ | ⟨u, hu, b, rfl⟩
    · exact absurd ⟨t,ht⟩ b
    · rfl
    · exact absurd b a
  · rcases g2 with ⟨b, rfl⟩ | ⟨u, hu, b, rfl⟩ | ⟨u, hu, b, rfl⟩
    · exact absurd ⟨t,ht⟩ b
    · exact absurd a b
    · have e := Gd (l := l) (by omega) hn t 5000 [] [] (Hc ht.flat) ht.wk (by have := ht.depth; omega)
      have e2:=Gd (l:=l) (by omega) hn u 5000 [] [] (Hc hu.flat) hu.wk (by have:=hu.depth;omega)
      rw [e] at e2
      injection e2 with e2
      rw [e2]
theorem Ir {N:Nat} (hN:5000≤N) {l:List api_Node} {names:List Str} (hl:l.length≤60) (hn:names.length≤100):∃ e,Z5d N l names=some (Bl names l,e):=by
  rw [Vq hN hl hn]
  obtain ⟨r,h,_⟩:=Fw (N:=1000001) (by decide) hl hn
  unfold Bl
  rw [h];exact ⟨r.2,rfl⟩
theorem Kt {l:List api_Node} {names:List Str} (hl:l.length≤60) (hn:names.length≤100):(Bl names l).length≤40:=by
  obtain ⟨r,h,h2⟩:=Fw (N:=1000001) (by decide) hl hn
  unfold Bl
  rw [h]
  rcases h2 with ⟨_,rfl⟩ | ⟨_,_,_,rfl⟩ | ⟨t,ht,hv,rfl⟩
  · exact Nat.zero_le _
  · exact Nat.zero_le _
  · show (post names t).length ≤ 40
    have hl:=congrArg List.length ht.flat
    rw [T.flat_len] at hl
    rw [Ey];have:=ht.len;omega
theorem Mr {names:List Str} (hn:names.length≤100):Bl names []=[]:=by
  obtain ⟨r,h,h2⟩:=Fw (N:=1000001) (by decide) (l:=[]) (names:=names) (by simp) hn
  unfold Bl
  rw [h]
  rcases h2 with ⟨_,rfl⟩ | ⟨_,_,_,rfl⟩ | ⟨t,ht,hv,rfl⟩
  · rfl
  · rfl
  · have hl := congrArg List.length ht.flat
    rw [T.flat_len] at hl
    have:=t.size_pos
    simp at hl;omega
theorem Fp {l:List api_Node} {names:List Str} (hn:names.length≤100) (h:Fc l=true) (hv:Gj l names):De (Bl names l) (names.length:Int)=true:=by
  have hR:∃ t,RightE l t:=by unfold Fc at h;simpa using h
  have h60:l.length≤60:=by obtain ⟨t,ht⟩:=hR;have:=ht.len;omega
  obtain ⟨r,h1,h2⟩:=Fw (N:=1000001) (by decide) h60 hn
  unfold Bl
  rw [h1]
  rcases h2 with ⟨h2,_⟩ | ⟨_,_,h2,_⟩ | ⟨t,ht,_,rfl⟩
  · exact absurd hR h2
  · exact absurd hv h2
  · exact Ta ht hv
end Go.MD.BINZ.R
namespace Go.MD.BINZ.R
open Go Go.MD Go.MD.BINZ
theorem Mn (ls:List (List api_Cell)) (i:Nat) (h:∀ l∈ls,l≠[]):lineN ls i 0=i:=by
  cases ls with
  | nil=>simp [lineN]
  | cons l r =>
    have:=h l (.head _)
    have h1:0 < l.length:=by
      rcases Nat.eq_zero_or_pos l.length with q | q
      · exact absurd (List.length_eq_zero_iff.1 q) this
      · exact q
    rw [lineN,if_pos h1]
theorem Ml:∀ (ls:List (List api_Cell)) (i a:Nat),(∀ l∈ls,l≠[])→(lineN ls i (a+1)=lineN ls i a+1)∨(a+1 < ls.flatten.length∧lineN ls i (a+1)=lineN ls i a)
  | [],i,a,_=>by left;simp only [lineN];omega
  | l :: r, i, a, h => by
    have hr:∀ l∈r,l≠[]:=fun x hx=>h x (.tail _ hx)
    simp only [lineN,List.flatten_cons,List.length_append]
    by_cases h1:a+1 < l.length
    · rw [if_pos h1,if_pos (by omega)];right;exact ⟨by omega,rfl⟩
    · rw [if_neg h1]
      by_cases h2:a < l.length
      · rw [if_pos h2,show a+1 - l.length=0 by omega,Mn r (i+1) hr];exact .inl rfl
      · rw [if_neg h2, show a + 1 - l.length = (a - l.length) + 1 by omega]
        rcases Ml r (i+1) (a - l.length) hr with q | ⟨q1,q2⟩
        · exact .inl q
        · exact .inr ⟨by omega,q2⟩
theorem Rh {ls:List (List api_Cell)} (h:∀ l∈ls,l≠[]):∀ (d j:Nat) (pv:Int),(j=0→pv = -1)→(∀ i,j=i+1→pv=(lineN ls 0 i:Int))→
    Hh (ls.flatten.length:Int) j pv ((List.range' j d).map fun a=>(lineN ls 0 a:Int))=true
  | 0,_,_,_,_=>rfl
  | d + 1, j, pv, h0, h1 => by
    rw [List.range'_succ,List.map_cons,Hh,Bool.and_eq_true]
    refine ⟨?_,Rh h d (j+1) _ (fun q=>by omega) (fun i q=>by rw [show j=i by omega])⟩
    simp only [Bool.or_eq_true,Bool.and_eq_true,decide_eq_true_eq]
    cases j with
    | zero=>rw [h0 rfl,Mn ls 0 h];left;rfl
    | succ j =>
      rw [h1 j rfl]
      rcases Ml ls 0 j h with q | ⟨q1,q2⟩
      · left;rw [q];omega
      · right;rw [q2];exact ⟨by omega,by omega,rfl⟩
theorem Xn {ls:List (List api_Cell)}:∀ {a b:Nat},a≤b→lineN ls 0 a≤lineN ls 0 b:=by
  intro a b h
  induction h with
  | refl=>exact Nat.le_refl _
  | step _ ih=>exact Nat.le_trans ih (Ma ls 0 _)
theorem Qi {s:Str} (h:Dj s=true):s≠[]:=by intro e;subst e;simp [Dj] at h
structure Kinds (x:api_Stmt):Prop where
  kind:1≤x.Kind∧x.Kind≤14
  reg:x.Kind=1∨x.Kind=2∨x.Kind=4→x.Reg≠[]
  noreg : ¬ (x.Kind=1∨x.Kind=2∨x.Kind=4)→x.Reg=[]
  e:x.Kind=1∨x.Kind=3∨x.Kind=4∨x.Kind=11∨x.Kind=14→Fc x.E=true
  noe : ¬ (x.Kind=1∨x.Kind=3∨x.Kind=4∨x.Kind=11∨x.Kind=14)→x.E=[]
  f:x.Kind=4→Fc x.F=true
  nof:x.Kind≠4→x.F=[]
  many:x.Kind=12→1≤x.N∧x.N≤8
theorem Pl {x:api_Stmt} (h:Dr x=true):Kinds x:=by
  simp only [Dr,Bool.and_eq_true,decide_eq_true_eq] at h
  obtain ⟨⟨hk,hn⟩,hr,_,he,hf⟩:=h
  have tt:∀ s:Str,Gl true s=true→s≠[]:=fun s hs=>Qi (by simpa [Gl] using hs)
  have tf:∀ s:Str,Gl false s=true→s=[]:=fun s hs=>by simpa [Gl] using hs
  have et:∀ l,Fy true l=true→Fc l=true:=fun l hs=>by simpa [Fy] using hs
  have ef:∀ l,Fy false l=true→l=[]:=fun l hs=>by simpa [Fy] using hs
  have cases14:x.Kind=1∨x.Kind=2∨x.Kind=3∨x.Kind=4∨x.Kind=5∨x.Kind=6∨x.Kind=7∨x.Kind=8∨x.Kind=9∨x.Kind=10∨x.Kind=11∨x.Kind=12∨x.Kind=13∨x.Kind=14:=by omega
  have c1:∀ k:Int,1≤k∧k≤14→decide ((114:UInt8)∈hS k)=decide (k=1∨k=2∨k=4):=by
    intro k hk
    have:k=1∨k=2∨k=3∨k=4∨k=5∨k=6∨k=7∨k=8∨k=9∨k=10∨k=11∨k=12∨k=13∨k=14:=by omega
    rcases this with rfl | rfl | rfl | rfl | rfl | rfl | rfl | rfl | rfl | rfl | rfl | rfl | rfl | rfl <;> decide
  have c2:∀ k:Int,1≤k∧k≤14→decide ((101:UInt8)∈hS k)=decide (k=1∨k=3∨k=4∨k=11∨k=14):=by
    intro k hk
    have:k=1∨k=2∨k=3∨k=4∨k=5∨k=6∨k=7∨k=8∨k=9∨k=10∨k=11∨k=12∨k=13∨k=14:=by omega
    rcases this with rfl | rfl | rfl | rfl | rfl | rfl | rfl | rfl | rfl | rfl | rfl | rfl | rfl | rfl <;> decide
  have c3:∀ k:Int,1≤k∧k≤14→decide ((102:UInt8)∈hS k)=decide (k=4):=by
    intro k hk
    have:k=1∨k=2∨k=3∨k=4∨k=5∨k=6∨k=7∨k=8∨k=9∨k=10∨k=11∨k=12∨k=13∨k=14:=by omega
    rcases this with rfl | rfl | rfl | rfl | rfl | rfl | rfl | rfl | rfl | rfl | rfl | rfl | rfl | rfl <;> decide
  rw [c1 _ ⟨hk.1,hk.2.1⟩] at hr
  rw [c2 _ ⟨hk.1,hk.2.1⟩] at he
  rw [c3 _ ⟨hk.1,hk.2.1⟩] at hf
  refine ⟨⟨hk.1,hk.2.1⟩,fun q=>tt _ ?_,fun q=>tf _ ?_,fun q=>et _ ?_,fun q=>ef _ ?_,fun q=>et _ ?_,fun q=>ef _ ?_,fun q=>?_⟩
  · rwa [decide_eq_true q] at hr
  · rwa [decide_eq_false q] at hr
  · rwa [decide_eq_true q] at he
  · rwa [decide_eq_false q] at he
  · rwa [decide_eq_true q] at hf
  · rwa [decide_eq_false q] at hf
  · rw [q] at hn
    rw [if_pos (by decide)] at hn
    simpa using hn
def P9 (p:api_Prog) (c:Int):Int:=(Z4d 1000001 p c).getD 0
def bOf (p:api_Prog) (x:api_Stmt):Int:=
  if x.Kind=2∨x.Kind=3∨x.Kind=4 then Cd ((Be p).map (·.Name)) x.Name 0
  else if x.Kind=5∨x.Kind=6 then P9 p (Cd ((Be p).map (·.Name)) x.Name 0)
  else if x.Kind=9∨x.Kind=10 then Cd (p.Locks.map (·.Name)) x.Name 0 else 0
def Ez (p:api_Prog) (G:List Str) (x:api_Stmt):api_Instr:=⟨if x.Kind=14 then 15 else x.Kind,max 0 (Cd G x.Reg 0),bOf p x,Bl G x.E,Bl G x.F,0⟩
theorem Ii {l:List api_Node} {G:List Str} (h:l.findSome? (Gi G)=none):Gj l G:=by
  intro x hx h2
  have:=Ep h x hx
  unfold Gi at this
  split at this
  · cases this
  · rename_i q
    rcases Classical.em (x.Name∈G) with w | w
    · exact w
    · exact absurd ⟨h2,w⟩ q
theorem Tb {l:List Str} {s:Str} (h:s∈l):inB (Cd l s 0) (l.length:Int)=true:=by
  have h1:=Ci l s 0
  have h2:=h1.2 h
  have h3:=h1.1.2 h
  simp only [inB,Bool.and_eq_true,decide_eq_true_eq];omega
def lnP (p:api_Prog):Int:=if p.Lines.flatten.length=0 then 0 else (lineN p.Lines 0 (p.Lines.flatten.length - 1):Int)+1
theorem JbU {p:api_Prog} (hp:SmallP p) {G:List Str} (hG:G.length≤4) (hGn:([]:Str) ∉ G) {x:api_Stmt} (hx:Dr x=true) (ha:Apt p G) (hb:Nb p G x=none) (h1:x.Kind≠11) (h2:x.Kind≠12) (h3:x.Kind≠13) (D:Int) :
    Cn (Ez p G x) (G.length:Int) D ((Be p).length:Int) (lnP p) (p.Locks.length:Int)=true:=by
  have K:=Pl hx
  have hC:=Cf hp
  rw [Om ha,Option.or_eq_none_iff,Option.or_eq_none_iff,Option.or_eq_none_iff] at hb
  obtain ⟨b1,b2,b3,b4⟩:=hb
  have vE:=Ii b3
  have vF:=Ii b4
  have hn:=N3 hx
  have hreg:x.Reg≠[]→x.Reg∈G:=fun q=>by
    unfold Ja7 at b1
    split at b1
    · cases b1
    · rename_i w
      rcases Classical.em (x.Reg∈G) with z | z
      · exact z
      · exact absurd ⟨q,z⟩ w
  have hname:x.Name≠[]→He p G x.Name∈Ky x.Kind:=fun q=>by
    unfold Jd at b2
    split at b2
    · cases b2
    · rename_i w
      rcases Classical.em (He p G x.Name∈Ky x.Kind) with z | z
      · exact z
      · exact absurd ⟨q,z⟩ w
  have hk:=K.kind
  have k15:(Ez p G x).Kind=if x.Kind=14 then 15 else x.Kind:=rfl
  have fe:fE (Ez p G x) (G.length:Int)=true:=by
    unfold fE
    by_cases q:x.Kind=1∨x.Kind=3∨x.Kind=4∨x.Kind=11∨x.Kind=14
    · rw [if_pos (by rw [k15]; split <;> omega)]
      exact Fp (by omega) (K.e q) vE
    · rw [if_neg (by rw [k15]; split <;> omega)]
      have:(Ez p G x).E=[]:=by show Bl G x.E=[];rw [K.noe q];exact Mr (by omega)
      rw [this];rfl
  have ff:fF (Ez p G x) (G.length:Int)=true:=by
    unfold fF
    by_cases q:x.Kind=4
    · rw [if_pos (by rw [k15]; split <;> omega)]
      exact Fp (by omega) (K.f q) vF
    · rw [if_neg (by rw [k15]; split <;> omega)]
      have:(Ez p G x).F=[]:=by show Bl G x.F=[];rw [K.nof q];exact Mr (by omega)
      rw [this];rfl
  have fa:fA (Ez p G x) (G.length:Int) D=true:=by
    unfold fA
    rw [if_neg (by rw [k15];split <;> omega)]
    by_cases q:x.Kind=1∨x.Kind=2∨x.Kind=4
    · rw [if_pos (by rw [k15]; split <;> omega)]
      have h:=Tb (hreg (K.reg q))
      show inB (max 0 (Cd G x.Reg 0)) _=true
      have:max 0 (Cd G x.Reg 0)=Cd G x.Reg 0:=by
        simp only [inB,Bool.and_eq_true,decide_eq_true_eq] at h;omega
      rw [this];exact h
    · rw [if_neg (by rw [k15]; split <;> omega)]
      have:=Ih hGn 0
      refine decide_eq_true ?_
      show max 0 (Cd G x.Reg 0)=0
      rw [K.noreg q];omega
  have fb:fB (Ez p G x) ((Be p).length:Int) (lnP p) (p.Locks.length:Int)=true:=by
    unfold fB
    have hB:(Ez p G x).B=bOf p x:=rfl
    rw [hB]
    unfold bOf
    by_cases q1:x.Kind=2∨x.Kind=3∨x.Kind=4
    · rw [if_pos (by rw [k15]; split <;> omega), if_pos q1]
      have hm:=hname (fun e=>(hn.1 e) (by omega))
      have:He p G x.Name=1∨He p G x.Name=2:=by
        unfold Ky at hm
        rw [if_neg (by omega),if_neg (by omega)] at hm
        simpa using hm
      have:=Ym.1 this
      rw [← Da] at this
      have:=Tb this
      rwa [List.length_map] at this
    · rw [if_neg (by rw [k15]; split <;> omega), if_neg q1]
      by_cases q2:x.Kind=5∨x.Kind=6
      · rw [if_pos (by rw [k15]; split <;> omega), if_pos q2]
        have hm:=hname (fun e=>(hn.1 e) (by omega))
        have:He p G x.Name=1:=by
          unfold Ky at hm
          rw [if_pos q2] at hm
          simpa using hm
        have hA:=Jbw.1 this
        rw [Da]
        obtain ⟨a,e1,e2⟩:∃ a:Nat,Cd (A1 p ++ A2 p) x.Name 0=(a:Int)∧a < p.Lines.flatten.length:=by
          have h1:=Ci (A1 p) x.Name 0
          have h2:=h1.2 hA
          have e:(A1 p).length=p.Lines.flatten.length:=by unfold A1;rw [List.length_map]
          refine ⟨(Cd (A1 p) x.Name 0).toNat,?_,by omega⟩
          rw [Jq,if_pos hA];omega
        rw [e1]
        have hlen:(Be p).length=p.Lines.flatten.length+p.Vols.length:=by simp [Be]
        unfold P9 lnP
        rw [Iq (N:=1000001) (by decide) hp (by omega),if_neg (by omega),Option.getD_some]
        have:=Xn (ls:=p.Lines) (show a≤p.Lines.flatten.length - 1 by omega)
        simp only [inB,Bool.and_eq_true,decide_eq_true_eq];omega
      · rw [if_neg (by rw [k15]; split <;> omega), if_neg q2]
        by_cases q3:x.Kind=9∨x.Kind=10
        · rw [if_pos (by rw [k15]; split <;> omega), if_pos q3]
          have hm:=hname (fun e=>(hn.1 e) (by omega))
          have:He p G x.Name=3:=by
            unfold Ky at hm
            rw [if_neg q2,if_pos q3] at hm
            simpa using hm
          have:=Tb ((Jbk ha).1 this)
          unfold K1 at this
          rwa [List.length_map] at this
        · rw [if_neg (by rw [k15]; split <;> omega), if_neg (by rw [k15]; split <;> omega), if_neg q3]
          rfl
  unfold Cn
  rw [fa,fb,fe,ff]
  simp only [Bool.and_true,Bool.and_eq_true,decide_eq_true_eq]
  rw [k15];split <;> omega
end Go.MD.BINZ.R
namespace Go.MD.BINZ.R
open Go Go.MD Go.MD.BINZ
theorem Mw {x:api_Stmt} (h:0 < x.Else):Cq x=1:=if_pos h
theorem Of {x:api_Stmt} (h : ¬ 0 < x.Else):Cq x=0:=if_neg h
theorem Ug:∀ (f:Nat) (b:B),OKB b→b.size+2≤f→Z7k f b.flat=some (ni b:Int):=by
  intro f
  induction f with
  | zero=>intro b _ h;omega
  | succ f ih =>
    intro b hb hf
    cases b with
    | nil=>rw [Z7k,if_pos (by simp [B.flat])];rfl
    | cons x a c r =>
      obtain ⟨h1,h2,w2,w3,s1,s2,s3⟩:=Ov hb rfl
      have hsz:=hb.size
      simp only [B.size] at hf hsz
      have na:=Iy a;have nc:=Iy c;have nr:=Iy r
      have ea:=ih a hb.a (by omega)
      have ec:=ih c hb.c (by omega)
      have er:=ih r hb.r (by omega)
      have el:Cq x≤1:=by unfold Cq;split <;> omega
      generalize (B.cons x a c r).flat=l at h1 h2 s1 s2 s3
      have j2:∀ v:Nat,v≤200→Z7m (Z7k f) l x (v:Int)=some ((v+ni r:Nat):Int):=by
        intro v hv
        rw [Z7m,w2,w3,s3]
        simp only [Option.bind_some]
        rw [er]
        simp only [Option.bind_some]
        rw [w64 (by omega) (by omega)] <;> (congr 1 <;> omega)
      have j1:∀ v:Nat,v≤200→Z7l (Z7k f) l x (v:Int)=some (((if x.Kind=12 then 2+ni a else v)+ni r:Nat):Int):=by
        intro v hv
        rw [Z7l]
        by_cases k:x.Kind=12
        · rw [if_pos k, if_pos k, w2, s1]
          simp only [Option.bind_some]
          rw [ea]
          simp only [Option.bind_some]
          rw [w64 (by omega) (by omega),show (2:Int)+(ni a:Int)=((2+ni a:Nat):Int) by omega]
          exact j2 _ (by omega)
        · rw [if_neg k,if_neg k];exact j2 v hv
      rw [Z7k,if_neg (by omega),h2]
      simp only [Option.bind_some]
      rw [ni]
      by_cases k:x.Kind=11
      · rw [if_pos k, if_pos k, w2, s1]
        simp only [Option.bind_some]
        rw [ea]
        simp only [Option.bind_some]
        rw [w3,s2]
        simp only [Option.bind_some]
        rw [ec]
        simp only [Option.bind_some]
        have k2 : ¬ x.Kind=12:=by omega
        rw [w64 (n:=1+(ni a:Int)) (by omega) (by omega),w64 (n:=1+(ni a:Int)+(ni c:Int)) (by omega) (by omega)]
        by_cases e:0 < x.Else
        · rw [if_pos e, w64 (by omega) (by omega), show (1 : Int) + (ni a : Int) + (ni c : Int) + 1 = ((1 + ni a + ni c + 1 : Nat) : Int) by omega, j1 _ (by omega), if_neg k2, Mw e]
          congr 1 <;> omega
        · rw [if_neg e, show (1 : Int) + (ni a : Int) + (ni c : Int) = ((1 + ni a + ni c : Nat) : Int) by omega, j1 _ (by omega), if_neg k2, Of e]
          congr 1 <;> omega
      · rw [if_neg k,if_neg k,show (1:Int)=((1:Nat):Int) from rfl,j1 1 (by omega)]
theorem Tr:∀ (b:B) (p:Nat),b.good p→dp b≤b.depth
  | .nil,_,_=>Nat.le_refl _
  | .cons x a c r, p, hg => by
    obtain ⟨_,_,g3,g4,_,g6,g7,g8⟩:=hg
    have:=Tr a _ g6;have:=Tr c _ g7;have:=Tr r _ g8
    rw [dp,B.depth]
    by_cases q:Mp x
    · rw [if_pos q];split <;> omega
    · have k : ¬ x.Kind = 12 := fun h => q (.inr h)
      have e1:=g3 q
      have e2:=g4 (fun h=>q (.inl h))
      subst e1;subst e2
      rw [if_neg q,if_neg k];simp only [dp];omega
theorem OKB.dp {b:B} (h:OKB b):R.dp b≤b.depth:=by
  obtain ⟨p,hg⟩:=h.good
  exact Tr b p hg
theorem Jcu:∀ (f:Nat) (b:B),OKB b→b.size+2≤f→Z74 f b.flat=some (dp b:Int):=by
  intro f
  induction f with
  | zero=>intro b _ h;omega
  | succ f ih =>
    intro b hb hf
    cases b with
    | nil=>rw [Z74,if_pos (by simp [B.flat])];rfl
    | cons x a c r =>
      obtain ⟨h1,h2,w2,w3,s1,s2,s3⟩:=Ov hb rfl
      have hsz:=hb.size
      simp only [B.size] at hf hsz
      have da:=hb.a.dp;have dc:=hb.c.dp;have dr:=hb.r.dp
      have da':=hb.a.depth;have dc':=hb.c.depth
      have ea:=ih a hb.a (by omega)
      have ec:=ih c hb.c (by omega)
      have er:=ih r hb.r (by omega)
      generalize (B.cons x a c r).flat=l at h1 h2 s1 s2 s3
      have j1:∀ v:Nat,Z75 (Z74 f) l x (v:Int)=some ((max v (dp r):Nat):Int):=by
        intro v
        rw [Z75,w2,w3,s3]
        simp only [Option.bind_some]
        rw [er]
        simp only [Option.bind_some] <;> (congr 1 <;> omega)
      rw [Z74,if_neg (by omega),h2]
      simp only [Option.bind_some]
      rw [w2,s1]
      simp only [Option.bind_some]
      rw [ea]
      simp only [Option.bind_some]
      rw [w3,s2]
      simp only [Option.bind_some]
      rw [ec]
      simp only [Option.bind_some]
      rw [dp,show max (dp a:Int) (dp c:Int)=((max (dp a) (dp c):Nat):Int) by omega]
      by_cases k:x.Kind=12
      · rw [if_pos k, if_pos k, w64 (by omega) (by omega), show ((max (dp a) (dp c) : Nat) : Int) + 1 = ((max (dp a) (dp c) + 1 : Nat) : Int) by omega]
        exact j1 _
      · rw [if_neg k,if_neg k];exact j1 _
theorem Jb9 {N:Nat} (hN:5000≤N) {p:api_Prog} (hp:SmallP p) (c:Int):Z4d N p c=some (P9 p c):=by
  unfold P9
  by_cases h:c < 0∨((Be p).length:Int)≤c
  · rw [Mm hN hp h,Mm (N:=1000001) (by decide) hp h];rfl
  · obtain ⟨a, rfl⟩ : ∃ a : Nat, c = (a : Int) := ⟨c.toNat, by omega⟩
    rw [Iq hN hp (a:=a) (by omega),Iq (N:=1000001) (by decide) hp (a:=a) (by omega)];rfl
theorem JbT {N:Nat} (hN:5000≤N) {p:api_Prog} (hp:SmallP p) {G:List Str} (hG:G.length≤100) {x:api_Stmt} (hx:Ec x):Z6a N (leadlineref09_Env.mk p G) x=some (Ez p G x):=by
  have hC:=Cf hp
  have hL:=hp.locks
  obtain ⟨e1,m1⟩:=Ir hN hx.1 hG
  obtain ⟨e2,m2⟩:=Ir hN hx.2 hG
  unfold Z6a
  dsimp only
  rw [C9 (by omega) (by omega)]
  simp only [Option.bind_some]
  rw [Gf hN hp]
  simp only [Option.bind_some]
  rw [C9 (by simp;omega) (by simp;omega)]
  simp only [Option.bind_some]
  rw [m1]
  simp only [Option.bind_some]
  rw [m2]
  simp only [Option.bind_some]
  have j1:∀ k b:Int,Z6b (Cd G x.Reg 0) (Bl G x.E,e1) (Bl G x.F,e2) k b=some (api_Instr.mk k (max 0 (Cd G x.Reg 0)) b (Bl G x.E) (Bl G x.F) 0):=fun _ _=>rfl
  unfold Ez bOf
  by_cases k2:x.Kind=2
  · rw [if_pos k2,Z6c,if_pos (by simpa using k2),j1,if_neg (by omega),if_pos (.inl k2)]
  · rw [if_neg k2]
    by_cases k3:x.Kind=3
    · rw [if_pos k3,Z6c,if_pos (by simpa using k3),j1,if_neg (by omega),if_pos (.inr (.inl k3))]
    · rw [if_neg k3, Z6c]
      by_cases k4:x.Kind=4
      · rw [if_pos (by simpa using k4),j1,if_neg (by omega),if_pos (.inr (.inr k4))]
      · rw [if_neg (by simpa using k4), if_neg (show ¬ (x.Kind = 2 ∨ x.Kind = 3 ∨ x.Kind = 4) by omega)]
        have j3:∀ b,b=decide (x.Kind=5∨x.Kind=6)→Z6d N (Z6b (Cd G x.Reg 0) (Bl G x.E,e1) (Bl G x.F,e2)) (leadlineref09_Env.mk p G) x (Cd ((Be p).map (·.Name)) x.Name 0) b =
            some (api_Instr.mk (if x.Kind=14 then 15 else x.Kind) (max 0 (Cd G x.Reg 0)) (if x.Kind=5∨x.Kind=6 then P9 p (Cd ((Be p).map (·.Name)) x.Name 0) else if x.Kind=9∨x.Kind=10 then Cd (p.Locks.map (·.Name)) x.Name 0 else 0) (Bl G x.E) (Bl G x.F) 0):=by
          intro b hb
          rw [Z6d]
          by_cases q:x.Kind=5∨x.Kind=6
          · rw [if_pos (by rw [hb]; exact decide_eq_true q), Jb9 hN hp]
            simp only [Option.bind_some]
            rw [j1,if_neg (by omega),if_pos q]
          · rw [if_neg (by rw [hb]; simpa using q), if_neg q]
            have j4:∀ b,b=decide (x.Kind=9∨x.Kind=10)→Z6e N (Z6b (Cd G x.Reg 0) (Bl G x.E,e1) (Bl G x.F,e2)) (leadlineref09_Env.mk p G) x b =
                some (api_Instr.mk (if x.Kind=14 then 15 else x.Kind) (max 0 (Cd G x.Reg 0)) (if x.Kind=9∨x.Kind=10 then Cd (p.Locks.map (·.Name)) x.Name 0 else 0) (Bl G x.E) (Bl G x.F) 0):=by
              intro b hb
              rw [Z6e]
              by_cases q:x.Kind=9∨x.Kind=10
              · rw [if_pos (by rw [hb]; exact decide_eq_true q), Ji hN hp]
                simp only [Option.bind_some]
                rw [C9 (by simp;omega) (by simp;omega)]
                simp only [Option.bind_some]
                rw [j1,if_neg (by omega),if_pos q]
              · rw [if_neg (by rw [hb]; simpa using q), if_neg q]
                by_cases z:x.Kind=14
                · rw [if_pos z,if_pos z,j1]
                · rw [if_neg z,if_neg z,j1]
            by_cases z:x.Kind=9
            · rw [if_pos z];exact j4 _ (by simp [z])
            · rw [if_neg z];exact j4 _ (by simp [z])
        by_cases z:x.Kind=5
        · rw [if_pos z];exact j3 _ (by simp [z])
        · rw [if_neg z];exact j3 _ (by simp [z])
theorem Jav {p:api_Prog} (hp:SmallP p) {G:List Str} (hG:G.length≤100):∀ (f:Nat) (b:B) (q k out:Nat),OKB b→(∀ x∈b.flat,Ec x)→b.size+5002≤f→q+2 * b.size≤2000→k+b.size≤2000→out≤4000→
    Z66 f (leadlineref09_Env.mk p G) b.flat (q:Int) (k:Int) (out:Int)=some (mk (Ez p G) (fun x=>Bl G x.E) b q k out):=by
  intro f
  induction f with
  | zero=>intro b q k out _ _ h;omega
  | succ f ih =>
    intro b q k out hb hs hf hq hk ho
    cases b with
    | nil=>rw [Z66,if_pos (by simp [B.flat])];rfl
    | cons x a c r =>
      obtain ⟨h1,h2,w2,w3,s1,s2,s3⟩:=Ov hb rfl
      have hsz:=hb.size
      simp only [B.size] at hf hsz hq hk
      have kx:=hs x (by simp [B.flat])
      have ka:∀ y∈a.flat,Ec y:=fun y hy=>hs y (by simp [B.flat,hy])
      have kc:∀ y∈c.flat,Ec y:=fun y hy=>hs y (by simp [B.flat,hy])
      have kr:∀ y∈r.flat,Ec y:=fun y hy=>hs y (by simp [B.flat,hy])
      have na:=Iy a;have nc:=Iy c;have nr:=Iy r
      have el:Cq x≤1:=by unfold Cq;split <;> omega
      have za:=Ug f a hb.a (by omega)
      have zc:=Ug f c hb.c (by omega)
      generalize (B.cons x a c r).flat=l at h1 h2 s1 s2 s3
      -- He comes behind
      have j1:∀ v:List api_Instr,v.length≤2+2 * (a.size+c.size)→Z67 (Z66 f) (leadlineref09_Env.mk p G) l (q:Int) (k:Int) (out:Int) x v=some (v ++ mk (Ez p G) (fun x=>Bl G x.E) r (q+v.length) k out):=by
        intro v hv
        rw [Z67,w2,w3,s3]
        simp only [Option.bind_some]
        rw [w64 (by omega) (by omega),show (q:Int)+(v.length:Int)=((q+v.length:Nat):Int) by omega,ih r (q+v.length) k out hb.r kr (by omega) (by omega) (by omega) ho]
        simp only [Option.bind_some]
        rw [Az (by rw [Ct];omega) (by decide)];rfl
      rw [Z66,if_neg (by omega),h2]
      simp only [Option.bind_some]
      rw [w2,s1]
      simp only [Option.bind_some]
      rw [w3,s2]
      simp only [Option.bind_some]
      rw [mk]
      by_cases k1:x.Kind=11
      · rw [if_pos k1, if_pos k1]
        obtain ⟨e1,m1⟩:=Ir (N:=f) (by omega) kx.1 hG
        rw [m1]
        simp only [Option.bind_some]
        rw [za]
        simp only [Option.bind_some]
        rw [w64 (n:=(q:Int)+1) (by omega) (by omega),w64 (n:=(q:Int)+1+(ni a:Int)) (by omega) (by omega)]
        -- the rest of an if
        have j2:∀ to:Nat,to=q+1+ni a+Cq x→Z68 (Z66 f) f (Z67 (Z66 f) (leadlineref09_Env.mk p G) l (q:Int) (k:Int) (out:Int) x) (leadlineref09_Env.mk p G) (q:Int) (k:Int) (out:Int) x a.flat c.flat (Bl G x.E,e1) (to:Int) =
            some (([K9 (Bl G x.E) to] ++ (mk (Ez p G) (fun x=>Bl G x.E) a (q+1) k out ++ ((if 0 < x.Else then [Gs (to+ni c)] else []) ++ mk (Ez p G) (fun x=>Bl G x.E) c to k out))) ++ mk (Ez p G) (fun x=>Bl G x.E) r (q+(1+ni a+Cq x+ni c)) k out):=by
          intro to hto
          rw [Z68,Az (by simp) (by decide)]
          simp only [Option.bind_some]
          rw [w64 (n:=(q:Int)+1) (by omega) (by omega),show (q:Int)+1=((q+1:Nat):Int) by omega,ih a (q+1) k out hb.a ka (by omega) (by omega) (by omega) ho]
          simp only [Option.bind_some]
          rw [Az (by simp only [List.nil_append,List.length_singleton,Ct];omega) (by decide)]
          simp only [Option.bind_some]
          have j3:∀ v:List api_Instr,v.length=1+ni a+Cq x→Z69 (Z66 f) (Z67 (Z66 f) (leadlineref09_Env.mk p G) l (q:Int) (k:Int) (out:Int) x) (leadlineref09_Env.mk p G) (k:Int) (out:Int) c.flat (to:Int) v =
              some ((v ++ mk (Ez p G) (fun x=>Bl G x.E) c to k out) ++ mk (Ez p G) (fun x=>Bl G x.E) r (q+(1+ni a+Cq x+ni c)) k out):=by
            intro v hv
            rw [Z69,ih c to k out hb.c kc (by omega) (by omega) (by omega) ho]
            simp only [Option.bind_some]
            rw [Az (by rw [Ct];omega) (by decide)]
            simp only [Option.bind_some]
            rw [j1 _ (by rw [List.length_append,Ct];omega),List.length_append,Ct,hv]
          by_cases e:0 < x.Else
          · have e2 := Mw e
            rw [if_pos e,if_pos e,zc]
            simp only [Option.bind_some]
            rw [w64 (by omega) (by omega),show (to:Int)+(ni c:Int)=((to+ni c:Nat):Int) by omega,Az (by simp only [List.nil_append,List.length_append,List.length_singleton,Ct];omega) (by decide)]
            simp only [Option.bind_some]
            rw [j3 _ (by simp only [List.nil_append,List.length_append,List.length_singleton,Ct];omega)]
            simp only [List.nil_append,List.append_assoc]
            rfl
          · have e2 := Of e
            rw [if_neg e,if_neg e,j3 _ (by simp only [List.nil_append,List.length_append,List.length_singleton,Ct];omega)]
            simp only [List.nil_append,List.append_assoc]
            rfl
        by_cases e:0 < x.Else
        · have e2 := Mw e
          rw [if_pos e,w64 (by omega) (by omega),show (q:Int)+1+(ni a:Int)+1=((q+1+ni a+Cq x:Nat):Int) by omega]
          exact j2 _ rfl
        · have e2 := Of e
          rw [if_neg e,show (q:Int)+1+(ni a:Int)=((q+1+ni a+Cq x:Nat):Int) by omega]
          exact j2 _ rfl
      · rw [if_neg k1, if_neg k1]
        by_cases k2:x.Kind=12
        · rw [if_pos k2, if_pos k2, za]
          simp only [Option.bind_some]
          rw [Az (by simp) (by decide)]
          simp only [Option.bind_some]
          rw [w64 (n:=(q:Int)+1) (by omega) (by omega),w64 (n:=(k:Int)+1) (by omega) (by omega),w64 (n:=(q:Int)+2) (by omega) (by omega),w64 (n:=(q:Int)+2+(ni a:Int)) (by omega) (by omega),
            show (q:Int)+1=((q+1:Nat):Int) by omega,show (k:Int)+1=((k+1:Nat):Int) by omega,show (q:Int)+2+(ni a:Int)=((q+2+ni a:Nat):Int) by omega,
            ih a (q+1) (k+1) (q+2+ni a) hb.a ka (by omega) (by omega) (by omega) (by omega)]
          simp only [Option.bind_some]
          rw [Az (by simp only [List.nil_append,List.length_singleton,Ct];omega) (by decide)]
          simp only [Option.bind_some]
          rw [Az (by simp only [List.nil_append,List.length_append,List.length_singleton,Ct];omega) (by decide)]
          simp only [Option.bind_some]
          rw [j1 _ (by simp only [List.nil_append,List.length_append,List.length_singleton,Ct];omega)]
          simp only [List.nil_append,List.length_append,List.length_singleton,Ct]
          rw [show q+(1+ni a+1)=q+(2+ni a) by omega]
          rfl
        · rw [if_neg k2, if_neg k2]
          by_cases k3:x.Kind=13
          · rw [if_pos k3, if_pos k3, Az (by simp) (by decide)]
            simp only [Option.bind_some]
            rw [j1 _ (by simp only [List.nil_append,List.length_singleton];omega)]
            rfl
          · rw [if_neg k3, if_neg k3, JbT (by omega) hp hG kx]
            simp only [Option.bind_some]
            rw [Az (by simp) (by decide)]
            simp only [Option.bind_some]
            rw [j1 _ (by simp only [List.nil_append,List.length_singleton];omega)]
            rfl
theorem Vn {N:Nat} (hN:6000≤N) {p:api_Prog} (hp:SmallP p) {t:api_Thread} (hG:t.Regs.length≤100) {b:B} (hb:RB t.Body b) (hs:∀ x∈t.Body,Ec x) :
    Z7n N p t=some (api_Code.mk (t.Regs.length:Int) (dp b:Int) (mk (Ez p t.Regs) (fun x=>Bl t.Regs x.E) b 0 0 0)):=by
  have h40:=hb.ok.size
  unfold Z7n
  rw [hb.flat,Jcu N b hb.ok (by omega)]
  simp only [Option.bind_some]
  rw [show (0:Int)=((0:Nat):Int) from rfl,Jav hp hG N b 0 0 0 hb.ok (by rw [← hb.flat];exact hs) (by omega) (by omega) (by omega) (by omega)]
  rfl
end Go.MD.BINZ.R
namespace Go.MD.BINZ.R
open Go Go.MD Go.MD.BINZ
structure OKP (p:api_Prog):Prop where
  pb:PB p
  big:Re p=false
  apt:∀ t∈D9 p,Apt p t.Regs
  bad:∀ t∈D9 p,∀ x∈t.Body,Nb p t.Regs x=none
  claims:∀ c∈p.Claims,∀ x∈c.E,Gi (A1 p) x=none
theorem Jat {p:api_Prog} {a:Int} (h:Kx p=some (0,a)):OKP p:=by
  unfold Kx at h
  split at h
  · rename_i hp
    split at h
    · injection h with h;injection h with h _;cases h
    · rename_i hb
      have hb':Re p=false:=by simpa using hb
      cases h1:(D9 p).findSome? Lj with
      | some v=>rw [h1] at h;simp [out] at h
      | none =>
        rw [h1] at h
        cases h2:Hy (Hq p) [] with
        | some v=>rw [h2] at h;simp [out] at h
        | none =>
          rw [h2] at h
          cases h3:(D9 p).findSome? (Qj p) with
          | some v=>rw [h3] at h;simp [out] at h
          | none =>
            rw [h3] at h
            cases h4:(D9 p).findSome? (N1 p) with
            | some v=>rw [h4] at h;simp [out] at h
            | none =>
              rw [h4] at h
              cases h5:p.Claims.findSome? (Mg p) with
              | some v=>rw [h5] at h;simp [out] at h
              | none =>
                refine ⟨Nq.1 hp,hb',fun t ht=>?_,fun t ht x hx=>?_,fun c hc x hx=>?_⟩
                · have := Ep h3 t ht
                  unfold Qj at this
                  split at this
                  · cases this
                  · rename_i z;exact Yj h2 (by simpa using z)
                · exact Ep (Ep h4 t ht) x hx
                · exact Ep (Ep h5 c hc) x hx
  · injection h with h;injection h with h _;cases h
structure CodeOk (p:api_Prog) (c:api_Code):Prop where
  right:Gy c ((Be p).length:Int) (lnP p) (p.Locks.length:Int)=true
  len:c.L.length≤80
  ops:∀ x∈c.L,x.E.length≤40∧x.F.length≤40
  bytes:(Bn c).length≤42000
theorem Qw {c:api_Code} (h:wt c.L≤41280):(Bn c).length≤42000:=by
  unfold Bn
  have:=Ay c.Regs;have:=Ay c.Counts;have:=Ay (c.L.length:Int)
  unfold wt at h
  simp only [List.length_append];omega
theorem Nw {N:Nat} (hN:6000≤N) {p:api_Prog} (hp:SmallP p) (ho:OKP p) {t:api_Thread} (ht:t∈D9 p):∃ c,Z7n N p t=some c∧CodeOk p c:=by
  obtain ⟨_,hT⟩:=Jl hp
  have hs:=hT t ht
  have hr4:t.Regs.length≤4:=by
    have:=ho.big
    unfold Re at this
    simp only [Bool.or_eq_false_iff,Bool.not_eq_false',Bool.and_eq_true] at this
    have:=List.all_eq_true.1 this.1.2 t ht
    unfold Yg at this
    simp only [Bool.not_eq_true',decide_eq_false_iff_not] at this
    omega
  obtain ⟨_,hn,b,hb⟩:=Gn (ho.pb.thread t ht)
  have hnil:([]:Str) ∉ t.Regs:=fun q=>Qi (hn _ q) rfl
  have h40:=hb.ok.size
  have hdp:=hb.ok.dp
  have hd12:=hb.depth
  have hlt:∀ x∈b.flat,(Bl t.Regs x.E).length≤40∧(Ez p t.Regs x).E.length≤40∧(Ez p t.Regs x).F.length≤40:=fun x hx=>by
    have h:=hs.small x (by rw [hb.flat];exact hx)
    exact ⟨Kt h.1 (by omega),Kt h.1 (by omega),Kt h.2 (by omega)⟩
  refine ⟨_,Vn hN hp (by omega) hb hs.small,?_,?_,?_,?_⟩
  · refine JbS ?_ ⟨by show (0 : Int) ≤ (t.Regs.length : Int); omega, by show (t.Regs.length : Int) ≤ 4; omega⟩ ⟨by show (0 : Int) ≤ (dp b : Int); omega, by show (dp b : Int) ≤ 12; omega⟩
    show G (t.Regs.length:Int) (dp b:Int) _ _ _ (mk (Ez p t.Regs) (fun x=>Bl t.Regs x.E) b 0 0 0).length (mk (Ez p t.Regs) (fun x=>Bl t.Regs x.E) b 0 0 0) 0 0
    refine Qe _ _ b 0 0 0 hb.good (fun x hx=>?_) (by omega) (by rw [Ct];omega) (fun h=>absurd h (by decide))
    have hx':x∈t.Body:=by rw [hb.flat];exact hx
    have hf:=hb.fits x hx'
    have K:=Pl hf
    have hbad:=ho.bad t ht x hx'
    refine ⟨fun k=>?_,fun k1 k2 k3=>⟨JbU hp hr4 hnil hf (ho.apt t ht) hbad k1 k2 k3 _,rfl,?_⟩,K.many⟩
    · rw [Om (ho.apt t ht), Option.or_eq_none_iff, Option.or_eq_none_iff, Option.or_eq_none_iff] at hbad
      exact Fp (by omega) (K.e (by omega)) (Ii hbad.2.2.1)
    · have hk : (Ez p t.Regs x).Kind = if x.Kind = 14 then 15 else x.Kind := rfl
      have:=K.kind
      rw [hk]
      split <;> omega
  · show (mk _ _ b 0 0 0).length ≤ 80
    rw [Ct];have:=Iy b;omega
  · exact Jp _ _ b 0 0 0 hlt
  · refine Qw ?_
    have:=Ub (Ez p t.Regs) (fun x=>Bl t.Regs x.E) b 0 0 0 hlt
    show wt (mk _ _ b 0 0 0)≤41280
    omega
theorem Wg {p:api_Prog}:CodeOk p (api_Code.mk 0 0 []):=by
  refine ⟨?_,Nat.zero_le _,fun x hx=>(nomatch hx),Qw (Nat.zero_le _)⟩
  unfold Gy
  simp
theorem Jc0 {N:Nat} (hN:5000≤N) {p:api_Prog} (hp:SmallP p) {k:List Int→Option (api_Unit×Int)} {v:List Int} (hv:v.length=(Be p).length):∀ (d j m:Nat),j+d=v.length→d < m→
    Z70 N k p v m ((List.range j).map fun a=>(lineN p.Lines 0 a:Int)) (j:Int)=k ((List.range v.length).map fun a=>(lineN p.Lines 0 a:Int)):=by
  have hC:=Cf hp
  intro d
  induction d with
  | zero =>
    intro j m hj hm
    obtain ⟨m,rfl⟩:∃ q,m=q+1:=⟨m - 1,by omega⟩
    rw [Z70,if_neg (by omega),show j=v.length by omega]
  | succ d ih =>
    intro j m hj hm
    obtain ⟨m,rfl⟩:∃ q,m=q+1:=⟨m - 1,by omega⟩
    rw [Z70,if_pos (by omega),Iq hN hp (a:=j) (by omega)]
    simp only [Option.bind_some]
    rw [Az (by simp;omega) (by decide)]
    simp only [Option.bind_some]
    rw [Bd (n:=v.length) (by omega) (by omega)]
    have e:((List.range j).map fun a=>(lineN p.Lines 0 a:Int)) ++ [(lineN p.Lines 0 j:Int)]=(List.range (j+1)).map fun a=>(lineN p.Lines 0 a:Int):=by rw [List.range_succ,List.map_append];rfl
    rw [e]
    exact ih (j+1) m (by omega) (by omega)
theorem Jcn {N:Nat} {p:api_Prog} (hl:p.Threads.length≤1000) {k:List api_Code→Option (api_Unit×Int)} {Q:api_Code→Prop} (hq:∀ t∈p.Threads,∃ c,Z7n N p t=some c∧Q c):∀ (d j m:Nat) (out:List api_Code),j+d=p.Threads.length→d < m→out.length=j→(∀ c∈out,Q c)→
    ∃ r,Z71 N k p m out (j:Int)=k r∧r.length=p.Threads.length∧∀ c∈r,Q c:=by
  intro d
  induction d with
  | zero =>
    intro j m out hj hm ho hQ
    obtain ⟨m,rfl⟩:∃ q,m=q+1:=⟨m - 1,by omega⟩
    rw [Z71,if_neg (by omega)]
    exact ⟨out,rfl,by omega,hQ⟩
  | succ d ih =>
    intro j m out hj hm ho hQ
    obtain ⟨m,rfl⟩:∃ q,m=q+1:=⟨m - 1,by omega⟩
    have h1:j < p.Threads.length:=by omega
    obtain ⟨c,hc,hc2⟩:=hq _ (List.getElem_mem h1)
    rw [Z71,if_pos (by omega),Aw rfl h1]
    simp only [Option.bind_some]
    rw [hc]
    simp only [Option.bind_some]
    rw [Az (by simp;omega) (by decide)]
    simp only [Option.bind_some]
    rw [Bd h1 (by omega)]
    refine ih (j+1) m _ (by omega) (by omega) (by simp;omega) (fun x hx=>?_)
    rcases List.mem_append.1 hx with h | h
    · exact hQ x h
    · rw [List.mem_singleton] at h;subst h;exact hc2
theorem JcV {N:Nat} (hN:5000≤N) {p:api_Prog} (hp:SmallP p) (ho:OKP p) {k:List (List api_Op)→Option (api_Unit×Int)}:∀ (d j m:Nat) (out:List (List api_Op)),j+d=p.Claims.length→d < m→out.length=j→(∀ c∈out,De c (p.Lines.flatten.length:Int)=true)→
    ∃ r,Z72 N k p (p.Lines.flatten.length:Int) m out (j:Int)=k r∧r.length=p.Claims.length∧∀ c∈r,De c (p.Lines.flatten.length:Int)=true:=by
  have hC:=Cf hp
  have hCl:=hp.claims
  have hlen:(Be p).length=p.Lines.flatten.length+p.Vols.length:=by simp [Be]
  have hA1:(A1 p).length=p.Lines.flatten.length:=by unfold A1;rw [List.length_map]
  intro d
  induction d with
  | zero =>
    intro j m out hj hm ho' hQ
    obtain ⟨m,rfl⟩:∃ q,m=q+1:=⟨m - 1,by omega⟩
    rw [Z72,if_neg (by omega)]
    exact ⟨out,rfl,by omega,hQ⟩
  | succ d ih =>
    intro j m out hj hm ho' hQ
    obtain ⟨m,rfl⟩:∃ q,m=q+1:=⟨m - 1,by omega⟩
    have h1:j < p.Claims.length:=by omega
    have hmem:=List.getElem_mem h1
    rw [Z72,if_pos (by omega),Aw rfl h1]
    simp only [Option.bind_some]
    rw [Gf hN hp]
    simp only [Option.bind_some]
    rw [Eg (by omega) (by omega) (by simp only [List.length_map];omega)]
    simp only [Option.bind_some]
    have hst:((List.map (fun x:api_Cell=>x.Name) (Be p)).take (p.Lines.flatten.length:Int).toNat).drop (0:Int).toNat=A1 p:=by
      rw [Da,Int.toNat_natCast,show (0:Int).toNat=0 from rfl,List.drop_zero,List.take_left' (by simp only [A1,List.length_map])]
    rw [hst]
    have hE:=hp.claim _ hmem
    obtain ⟨e,he⟩:=Ir hN hE (names:=A1 p) (by omega)
    rw [he]
    simp only [Option.bind_some]
    rw [Az (by simp;omega) (by decide)]
    simp only [Option.bind_some]
    rw [Bd h1 (by omega)]
    refine ih (j+1) m _ (by omega) (by omega) (by simp;omega) (fun x hx=>?_)
    rcases List.mem_append.1 hx with h | h
    · exact hQ x h
    · rw [List.mem_singleton] at h
      subst h
      have hcB:=ho.pb.claims _ hmem
      unfold Hj at hcB
      rw [Bool.and_eq_true] at hcB
      have hv:Gj (p.Claims[j]).E (A1 p):=Ii (List.findSome?_eq_none_iff.2 (ho.claims _ hmem))
      have:=Fp (names:=A1 p) (by omega) hcB.2 hv
      rwa [hA1] at this
theorem Qa {l:List Int}:(Bm l).length≤6+6 * l.length:=by
  unfold Bm
  have h1:=Ay (l.length:Int)
  have h2:(l.flatMap Ap).length≤6 * l.length:=flat_len (fun x _=>Ay x)
  rw [List.length_append];omega
theorem JaS {N:Nat} (hN:6000≤N) {p:api_Prog} (hp:SmallP p) (ho:OKP p):∃ u,Z6v N p (p.Lines.flatten.length:Int) ((Be p).map (·.N))=some (u,0)∧Em u=true∧Cy u∧(Dw u).length < 250000:=by
  have hC:=Cf hp
  have hlen:(Be p).length=p.Lines.flatten.length+p.Vols.length:=by simp [Be]
  have hbig:=ho.big
  unfold Re at hbig
  simp only [Bool.or_eq_false_iff,Bool.not_eq_false',Bool.and_eq_true,decide_eq_false_iff_not,not_or,Nat.not_lt] at hbig
  obtain ⟨⟨hnar,_⟩,g1,g2,g3,g4,g5,g6⟩:=hbig
  have hne:∀ l∈p.Lines,l≠[]:=fun l hl=>by
    have:=ho.pb.line l hl
    unfold Lb at this
    rw [Bool.and_eq_true] at this
    intro e;subst e;simp at this
  have h16:p.Lines.flatten.length≤4 * p.Lines.length:=by
    have key:∀ ls:List (List api_Cell),(∀ l∈ls,l.length≤4)→ls.flatten.length≤4 * ls.length:=by
      intro ls
      induction ls with
      | nil=>intro _;simp
      | cons a r ih =>
        intro h
        have h1:=h a (.head _)
        have h2:=ih (fun l hl=>h l (.tail _ hl))
        rw [List.flatten_cons,List.length_append,List.length_cons];omega
    refine key _ fun l hl=>?_
    have:=List.all_eq_true.1 hnar l hl
    unfold Mu at this
    simp only [Bool.not_eq_true',decide_eq_false_iff_not] at this
    omega
  have h20:(Be p).length≤20:=by omega
  have hfl:((Be p).map (·.N)).length=(Be p).length:=List.length_map _
  rw [Z6v]
  have e3:=Jc0 (N:=N) (by omega) hp (k:=Z6w N p (p.Lines.flatten.length:Int) ((Be p).map (·.N))) hfl ((Be p).map (·.N)).length 0 N (by omega) (by omega)
  rw [show (List.range 0).map (fun a=>(lineN p.Lines 0 a:Int))=[] from rfl,show ((0:Nat):Int)=0 from rfl] at e3
  rw [e3,Z6w,hfl]
  generalize hL:(List.range (Be p).length).map (fun a=>(lineN p.Lines 0 a:Int))=lines
  have hLl:lines.length=(Be p).length:=by rw [← hL,List.length_map,List.length_range]
  obtain ⟨ts,e5,ht1,ht2⟩:=Jcn (N:=N) (p:=p) (by omega) (k:=Z6x N p (p.Lines.flatten.length:Int) ((Be p).map (·.N)) lines) (Q:=CodeOk p) (fun t ht=>Nw hN hp ho (List.mem_append_left _ ht)) p.Threads.length 0 N [] (by omega) (by omega) rfl (fun c hc=>nomatch hc)
  rw [show ((0:Nat):Int)=0 from rfl] at e5
  rw [e5,Z6x]
  have fin:∀ c:api_Code,CodeOk p c→∃ u,Z6y N p (p.Lines.flatten.length:Int) ((Be p).map (·.N)) lines ts c.Regs c.Counts c.L=some (u,0)∧Em u=true∧Cy u∧(Dw u).length < 250000:=by
    intro c hc
    obtain ⟨cs,e8,hc1,hc2⟩:=JcV (N:=N) (by omega) hp ho (k:=Z6z p (p.Lines.flatten.length:Int) ((Be p).map (·.N)) lines ts c.Regs c.Counts c.L) p.Claims.length 0 N [] (by omega) (by omega) rfl (fun c hc=>nomatch hc)
    rw [show ((0:Nat):Int)=0 from rfl] at e8
    rw [Z6y,e8,Z6z]
    refine ⟨_,rfl,?_,?_,?_⟩
    · have hln:lnI (api_Unit.mk lines (p.Lines.flatten.length:Int) ((Be p).map (·.N)) (p.Locks.length:Int) ts (api_Code.mk c.Regs c.Counts c.L) cs)=lnP p:=by
        unfold lnI lnP
        dsimp only
        by_cases z:p.Lines.flatten.length=0
        · rw [if_neg (by omega),if_pos z]
        · rw [if_pos (by omega), if_neg z, show ((p.Lines.flatten.length : Int) - 1).toNat = p.Lines.flatten.length - 1 by omega, ← hL, List.getElem?_map, List.getElem?_range (by omega)]
          have hlt:=Qm p.Lines 0 (p.Lines.flatten.length - 1) (by omega)
          show IntKind.i64.wrap ((lineN p.Lines 0 (p.Lines.flatten.length - 1):Int)+1)=_
          rw [w64 (by omega) (by omega)]
      unfold Em
      simp only [Bool.and_eq_true]
      refine ⟨?_,?_,?_,?_,?_,?_⟩
      · unfold Vp
        simp only [Bool.not_eq_true',Bool.or_eq_false_iff,decide_eq_false_iff_not]
        omega
      · rw [← hL]
        have:=Rh hne (Be p).length 0 (-1) (fun _=>rfl) (fun i q=>by omega)
        rw [← List.range_eq_range'] at this
        exact this
      · rw [List.all_eq_true]
        intro n hn
        obtain ⟨x,hx,rfl⟩:=List.mem_map.1 hn
        have hcell:cellB 4294967296 x=true:=by
          rcases List.mem_append.1 hx with h | h
          · obtain ⟨l, hl, hxl⟩ := List.mem_flatten.1 h
            have:=ho.pb.line l hl
            unfold Lb at this
            rw [Bool.and_eq_true] at this
            exact List.all_eq_true.1 this.2 x hxl
          · exact ho.pb.vols x h
        unfold cellB at hcell
        unfold okF
        simp only [Bool.and_eq_true,Bool.not_eq_true',Bool.or_eq_false_iff,decide_eq_false_iff_not] at hcell ⊢
        exact ⟨hcell.1.1.2,hcell.1.2⟩
      · rw [List.all_eq_true]
        intro t ht
        have:=(ht2 t ht).right
        unfold cB
        rw [hln]
        show Gy t (lines.length:Int) (lnP p) (p.Locks.length:Int)=true
        rw [hLl];exact this
      · have := hc.right
        unfold cB
        rw [hln]
        show Gy c (lines.length:Int) (lnP p) (p.Locks.length:Int)=true
        rw [hLl];exact this
      · rw [List.all_eq_true];exact hc2
    · have sm : ∀ c : api_Code, CodeOk p c → small c := fun c h => ⟨by have := h.len; omega, fun x hx => by have := h.ops x hx; omega⟩
      refine ⟨by show lines.length≤300000;omega,by show ((Be p).map (·.N)).length≤300000;omega,by show ts.length≤300000;omega,by show cs.length≤300000;omega,fun c h=>sm c (ht2 c h),sm c hc,fun l hl=>?_⟩
      have:=Jo (hc2 l hl);omega
    · have b1 : (Bm lines).length ≤ 126 := by have := Qa (l := lines); omega
      have b2:(Bm ((Be p).map (·.N))).length≤126:=by have:=Qa (l:=(Be p).map (·.N));omega
      have b3:(ts.flatMap Bn).length≤42000 * ts.length:=flat_len (fun x hx=>(ht2 x hx).bytes)
      have b4:(cs.flatMap Bf).length≤486 * cs.length:=flat_len (fun x hx=>Er (Jo (hc2 x hx)))
      have b5:=hc.bytes
      have b5':(Bn (api_Code.mk c.Regs c.Counts c.L)).length≤42000:=b5
      unfold Dw
      dsimp only
      have p1:=Ay (p.Lines.flatten.length:Int);have p2:=Ay (p.Locks.length:Int);have p3:=Ay (ts.length:Int);have p4:=Ay (cs.length:Int)
      simp only [List.length_append]
      omega
  by_cases z:0 < (p.Recover.length:Int)
  · have h0 : 0 < p.Recover.length := by omega
    rw [if_pos z,show (0:Int)=((0:Nat):Int) from rfl,Aw rfl h0]
    simp only [Option.bind_some]
    obtain ⟨c,hc,hc2⟩:=Nw hN hp ho (t:=p.Recover[0]) (List.mem_append_right _ (List.getElem_mem h0))
    rw [hc]
    exact fin c hc2
  · rw [if_neg z]
    exact fin (api_Code.mk 0 0 []) Wg
theorem Vd {p:api_Prog} (hp:SmallP p):∃ u e,Z6u 1000001 p=some (u,e)∧(e=0→Em u=true∧Cy u∧(Dw u).length < 250000):=by
  unfold Z6u
  rw [Wc hp]
  obtain ⟨⟨e,a⟩,h⟩:=Rj (p:=p)
  rw [h]
  simp only [Option.bind_some]
  by_cases z:e=0
  · subst z
    rw [if_neg (by decide),Hu (N:=1000001) (by decide) hp]
    simp only [Option.bind_some]
    rw [Ps (N:=1000001) (by decide) hp]
    simp only [Option.bind_some]
    obtain ⟨u,h1,h2⟩:=JaS (N:=1000001) (by decide) hp (Jat h)
    exact ⟨u,0,h1,fun _=>h2⟩
  · rw [if_pos z]
    exact ⟨_,e,rfl,fun q=>absurd q z⟩
end Go.MD.BINZ.R
namespace Go.MD.BINZ.R
open Go Go.MD Go.MD.BINZ
theorem Jcf (n:Int):0≤Sp .i64 n 65535∧Sp .i64 n 65535≤65535:=by
  unfold Sp
  have h:(BitVec.ofInt IntKind.i64.bits n &&& BitVec.ofInt IntKind.i64.bits 65535).toNat≤65535:=by
    rw [BitVec.toNat_and]
    refine Nat.le_trans Nat.and_le_right ?_
    decide
  rw [w64 (by omega) (by omega)]
  omega
theorem Cuts0 (p1:api_Prog) (p4:Int):Z23 1000001 p1 p4=some true:=by
  unfold Z23
  obtain ⟨p,hp,hs⟩:=Jd9 p1
  rw [hp]
  simp only [Option.bind_some]
  obtain ⟨u,e,h1,h2⟩:=Vd hs
  rw [h1]
  simp only [Option.bind_some]
  by_cases z:e=0
  · obtain ⟨k1, k2, k3⟩ := h2 z
    have hpos:0 < (Dw u).length:=List.length_pos_iff.2 (Mz u k2.1)
    rw [if_neg (by simp [z]),N2 (by decide) k2,if_pos k1]
    simp only [Option.bind_some]
    rw [Ja6 (by simp;exact Mz u k2.1)]
    simp only [Option.bind_some]
    have hm:=Jcf p4
    generalize Sp .i64 p4 65535=m at hm
    obtain ⟨k,rfl⟩:∃ k:Nat,m=(k:Int):=⟨m.toNat,by omega⟩
    have hr:Xj (k:Int) ((Dw u).length:Int)=some ((k % (Dw u).length:Nat):Int):=by
      unfold Xj
      rw [if_neg (by omega)]
      congr 1
    rw [hr]
    simp only [Option.bind_some]
    have hk:k % (Dw u).length < (Dw u).length:=Nat.mod_lt _ hpos
    rw [Eg (by omega) (by omega) (by omega),Int.toNat_natCast,show (0:Int).toNat=0 from rfl,List.drop_zero]
    simp only [Option.bind_some]
    obtain ⟨v,hv⟩:=Tk (N:=1000001) (by decide) k1 k2 (by omega) hk
    rw [hv]
    simp only [Option.bind_some]
    obtain ⟨b,hb⟩:∃ b,Gk ([(IntK.mk (IntKind.u8.wrap p4))]:List (IntK .u8))=[b]:=⟨_,rfl⟩
    rw [hb,Ik (by simp;omega)]
    simp only [Option.bind_some]
    obtain ⟨w,hw⟩:=Qv (N:=1000001) (by decide) k1 k2 k3 b
    rw [hw]
    simp only [Option.bind_some,decide_true,Bool.and_self]
    rw [if_pos trivial,Jap];rfl
  · rw [if_pos z,Jap];rfl
end Go.MD.BINZ.R
namespace Go.MD.BINZ
open Go Go.MD
theorem Nm (p1:api_Prog) (p4:Int):Z23 1000001 p1 p4=some true:=R.Cuts0 p1 p4
end Go.MD.BINZ
