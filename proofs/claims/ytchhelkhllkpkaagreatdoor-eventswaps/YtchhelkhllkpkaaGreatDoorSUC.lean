/- What the document makes of a program. No condition: plain lemmas. -/
import Derived.Test.YtchhelkhllkpkaaGreatDoorSUB
import Derived.Test.YtchhelkhllkpkaaGreatDoorSWTO
import Derived.Test.YtchhelkhllkpkaaGreatDoorLM
import Derived.Test.YtchhelkhllkpkaaGreatDoorSWQ5
set_option linter.unusedSectionVars false
namespace Go.MD.SWAPS.R
open Go Go.MD Go.MD.SWAPS
open Go.IntKind (i64)
variable {R D p4 p5 p6:Int} {e:Nat}
theorem Ld {α:Type} {M1 M2:List α} {i:Nat} {x:α} (h:(M1 ++ M2)[i]? = some x):(i < M1.length∧M1[i]? = some x)∨(M1.length≤i∧M2[i - M1.length]? = some x):=by
  rcases Nat.lt_or_ge i M1.length with q | q
  · rw [kzy q] at h;exact .inl ⟨q,h⟩
  · rw [kwk q] at h;exact .inr ⟨q,h⟩
theorem Jc3 {α:Type} {M:List α} {i:Nat} {x:α} (h:M[i]? = some x):i < M.length:=(kxn.1 h).1
structure G1 (R D p4 p5 p6:Int) (e p k:Nat) (x:api_Instr):Prop where
  fields:Ck x R D p4 p5 p6=true
  jump:x.Kind=11∨x.Kind=12→(p:Int) < x.To∧x.To≤(e:Int)
  none:x.Kind≠11→x.Kind≠12→x.Kind≠14→x.To=0
  loop:x.Kind=13∨x.Kind=14→(k:Int)≤x.A
structure G (R D p4 p5 p6:Int) (e:Nat) (M:List api_Instr) (p k:Nat):Prop where
  one:∀ i x,M[i]? = some x→G1 R D p4 p5 p6 e (p+i) k x
  again:∀ i x,M[i]? = some x→x.Kind=14→∃ s,x.To=((p+s+1:Nat):Int)∧s < i∧(∃ y,M[s]? = some y∧y.Kind=13∧y.A=x.A)∧∀ t y,s < t→t < i→M[t]? = some y→y.Kind=13→y.A≠x.A
  nest:∀ i j x y,j < i→M[i]? = some x→M[j]? = some y→x.Kind=14→y.Kind=14→x.To≤y.To∨((p+j+1:Nat):Int) < x.To
theorem Jev {p k:Nat}:G R D p4 p5 p6 e [] p k:=⟨fun i x h=>(by simp at h),fun i x h=>(by simp at h),fun i j x y _ h=>(by simp at h)⟩
theorem Qy {M1 M2:List api_Instr} {p k:Nat} (h1:G R D p4 p5 p6 e M1 p k) (h2:G R D p4 p5 p6 e M2 (p+M1.length) k):G R D p4 p5 p6 e (M1 ++ M2) p k:=by
  refine ⟨fun i x h=>?_,fun i x h hk=>?_,fun i j x y hij hx hy kx ky=>?_⟩
  · rcases Ld h with ⟨_, h⟩ | ⟨q, h⟩
    · exact h1.one i x h
    · have := h2.one _ x h
      rwa [show p+M1.length+(i - M1.length)=p+i by omega] at this
  · rcases Ld h with ⟨q, h⟩ | ⟨q, h⟩
    · obtain ⟨s, a, b, ⟨y, c1, c2⟩, d⟩ := h1.again i x h hk
      refine ⟨s,a,b,⟨y,by rw [kzy (by omega)];exact c1,c2⟩,fun t y u v w=>d t y u v ?_⟩
      rwa [kzy (by omega)] at w
    · obtain ⟨s, a, b, ⟨y, c1, c2⟩, d⟩ := h2.again _ x h hk
      refine ⟨M1.length+s,by rw [a];congr 1;omega,by omega,⟨y,by rw [kwk (by omega),show M1.length+s - M1.length=s by omega];exact c1,c2⟩,fun t y u v w=>d (t - M1.length) y (by omega) (by omega) ?_⟩
      rwa [kwk (by omega)] at w
  · rcases Ld hx with ⟨q, hx⟩ | ⟨q, hx⟩
    · rcases Ld hy with ⟨r, hy⟩ | ⟨r, hy⟩
      · exact h1.nest i j x y hij hx hy kx ky
      · omega
    · rcases Ld hy with ⟨r, hy⟩ | ⟨r, hy⟩
      · obtain ⟨s, a, _⟩ := h2.again _ x hx kx
        right;rw [a];omega
      · rcases h2.nest _ _ x y (by omega) hx hy kx ky with h | h
        · exact .inl h
        · right;rw [show p+M1.length+(j - M1.length)+1=p+j+1 by omega] at h;exact h
theorem JaR {x:api_Instr} {p k:Nat} (h:G1 R D p4 p5 p6 e p k x) (hk:x.Kind≠14):G R D p4 p5 p6 e [x] p k:=by
  have e1:∀ i y,[x][i]? = some y→i=0∧y=x:=fun i y h=>by
    have:=Jc3 h
    simp only [kxm] at this
    obtain rfl:i=0:=by omega
    simp at h;exact ⟨rfl,h.symm⟩
  refine ⟨fun i y h'=>?_,fun i y h' q=>?_,fun i j y z hij hy=>?_⟩
  · obtain ⟨rfl,rfl⟩:=e1 i y h';exact h
  · obtain ⟨rfl,rfl⟩:=e1 i y h';exact absurd q hk
  · have:=(e1 i y hy).1;omega
theorem Jhy {M:List api_Instr} {p k:Nat} (h:G R D p4 p5 p6 e M p (k+1)):G R D p4 p5 p6 e M p k:=
  ⟨fun i x q=>let g:=h.one i x q;⟨g.fields,g.jump,g.none,fun w=>by have:=g.loop w;omega⟩,h.again,h.nest⟩
theorem Jf1 {M:List api_Instr} {c g:api_Instr} {p k:Nat} (h:G R D p4 p5 p6 e M (p+1) (k+1)) (hc:G1 R D p4 p5 p6 e p k c) (hg:G1 R D p4 p5 p6 e (p+1+M.length) k g)
    (c1:c.Kind=13) (c2:c.A=(k:Int)) (g1:g.Kind=14) (g2:g.A=(k:Int)) (g3:g.To=((p+1:Nat):Int)):G R D p4 p5 p6 e (c :: (M ++ [g])) p k:=by
  have look:∀ i x,(c :: (M ++ [g]))[i]? = some x→(i=0∧x=c)∨(∃ j,i=j+1∧j < M.length∧M[j]? = some x)∨(i=M.length+1∧x=g):=by
    intro i x hx
    cases i with
    | zero=>simp at hx;exact .inl ⟨rfl,hx.symm⟩
    | succ j =>
      rw [List.getElem?_cons_succ] at hx
      rcases Ld hx with ⟨q,hx⟩ | ⟨q,hx⟩
      · exact .inr (.inl ⟨j,rfl,q,hx⟩)
      · have := Jc3 hx
        simp only [kxm] at this
        rw [show j - M.length=0 by omega] at hx
        simp at hx
        exact .inr (.inr ⟨by omega,hx.symm⟩)
  have h':=Jhy h
  refine ⟨fun i x hx=>?_,fun i x hx hk=>?_,fun i j x y hij hx hy kx ky=>?_⟩
  · rcases look i x hx with ⟨rfl, rfl⟩ | ⟨j, rfl, _, hx⟩ | ⟨rfl, rfl⟩
    · exact hc
    · have := h'.one j x hx
      rwa [show p+1+j=p+(j+1) by omega] at this
    · rwa [show p+1+M.length=p+(M.length+1) by omega] at hg
  · rcases look i x hx with ⟨rfl, rfl⟩ | ⟨j, rfl, hj, hx⟩ | ⟨rfl, rfl⟩
    · omega
    · obtain ⟨s, a, b, ⟨y, d1, d2⟩, d⟩ := h.again j x hx hk
      refine ⟨s+1,by rw [a];congr 1;omega,by omega,⟨y,by rw [List.getElem?_cons_succ,kzy (by omega)];exact d1,d2⟩,fun t y u v w ky=>?_⟩
      rcases look t y w with ⟨rfl,rfl⟩ | ⟨t',rfl,_,w⟩ | ⟨rfl,rfl⟩
      · omega
      · exact d t' y (by omega) (by omega) w ky
      · omega
    · refine ⟨0, by rw [g3], by omega, ⟨c, by simp, c1, by rw [c2, g2]⟩, fun t y u v w ky => ?_⟩
      rcases look t y w with ⟨rfl,rfl⟩ | ⟨t',rfl,_,w⟩ | ⟨rfl,rfl⟩
      · omega
      · have:=(h.one t' y w).loop (.inl ky);omega
      · omega
  · rcases look i x hx with ⟨rfl, rfl⟩ | ⟨i', rfl, hi, hx⟩ | ⟨rfl, rfl⟩
    · omega
    · rcases look j y hy with ⟨rfl, rfl⟩ | ⟨j', rfl, _, hy⟩ | ⟨rfl, rfl⟩
      · omega
      · rcases h.nest i' j' x y (by omega) hx hy kx ky with q | q
        · exact .inl q
        · right;rw [show p+1+j'+1=p+(j'+1)+1 by omega] at q;exact q
      · omega
    · rcases look j y hy with ⟨rfl, rfl⟩ | ⟨j', rfl, _, hy⟩ | ⟨rfl, rfl⟩
      · omega
      · obtain ⟨s, a, _⟩ := h.again j' y hy ky
        left;rw [g3,a];omega
      · omega
theorem JfH {p:api_Code} (h:G p.Regs p.Counts p4 p5 p6 p.L.length p.L 0 0) (hR:0≤p.Regs∧p.Regs≤4) (hC:0≤p.Counts∧p.Counts≤12):Df p p4 p5 p6=true:=by
  unfold Df
  simp only [kxc,kyc,kym,decide_eq_false_iff_not,kxp]
  refine ⟨by omega,fun i hi=>?_,fun i hi=>?_⟩
  · unfold Uo
    cases hx:p.L[i]? with
    | none=>rfl
    | some x =>
      have g:=h.one i x hx
      simp only [g.fields,kyf]
      unfold toB
      by_cases k1:x.Kind=11∨x.Kind=12
      · rw [if_pos k1]
        have:=g.jump k1
        rw [kxs] at this
        simp only [kxc,decide_eq_true_eq];exact this
      · rw [if_neg k1]
        by_cases k2:x.Kind=14
        · obtain ⟨s, a, b, ⟨y, c1, c2, c3⟩, d⟩ := h.again i x hx k2
          rw [if_pos k2,if_neg (by omega),show (x.To - 1).toNat=s by omega,c1]
          simp only [c2,c3,decide_true,kyf,kyc,kzz,kxc,decide_eq_true_eq,not_and]
          intro z hz kz
          obtain ⟨t,ht,rfl⟩:=List.mem_iff_getElem.1 hz
          have ht':=ht
          simp only [kzo,kyg] at ht'
          have e1:((p.L.take i).drop x.To.toNat)[t]=p.L[x.To.toNat+t]'(by omega):=by rw [List.getElem_drop,List.getElem_take]
          rw [e1] at kz ⊢
          exact d (x.To.toNat+t) _ (by omega) (by omega) (kxq (by omega)) kz
        · rw [if_neg k2]
          simp only [decide_eq_true_eq];exact g.none (fun q=>k1 (.inl q)) (fun q=>k1 (.inr q)) k2
  · unfold Jaw
    cases hx:Ko p.L i with
    | false=>rfl
    | true =>
      simp only [kyl,kzk,kxp]
      intro j hj
      obtain ⟨hj1,hj2⟩:=kwa.1 hj
      have hji:=kzl.1 hj1
      unfold Ko at hx hj2
      unfold g14
      cases ex:p.L[i]? with
      | none=>rfl
      | some x =>
        cases ey:p.L[j]? with
        | none=>rfl
        | some y =>
          rw [ex] at hx;rw [ey] at hj2
          simp only [decide_eq_true_eq] at hx hj2
          have:=h.nest i j x y hji ex ey hx hj2
          simp only [kyc,kwi,decide_eq_false_iff_not]
          omega
end Go.MD.SWAPS.R
namespace Go.MD.SWAPS.R
open Go Go.MD Go.MD.SWAPS
open Go.IntKind (i64)
variable {R D p4 p5 p6:Int} {e:Nat}
def Dp (x:api_Stmt):Nat:=if 0 < x.Else then 1 else 0
def ni:B→Nat
  | .nil=>0
  | .cons x a c r=>(if x.Kind=11 then 1+ni a+Dp x+ni c else if x.Kind=12 then 2+ni a else 1)+ni r
def dp:B→Nat
  | .nil=>0
  | .cons x a c r=>max (max (dp a) (dp c)+(if x.Kind=12 then 1 else 0)) (dp r)
def Sd (E:List api_Op) (to:Nat):api_Instr:=⟨12,0,0,E,[],to⟩
def Iu (to:Nat):api_Instr:=⟨11,0,0,[],[],to⟩
def iCount (k:Nat) (n:Int):api_Instr:=⟨13,k,n,[],[],0⟩
def Ox (k to:Nat):api_Instr:=⟨14,k,0,[],[],to⟩
section
variable (o:api_Stmt→api_Instr) (eo:api_Stmt→List api_Op)
def mk:B→Nat→Nat→Nat→List api_Instr
  | .nil,_,_,_=>[]
  | .cons x a c r, p, k, out =>
    if x.Kind=11 then
      ([Sd (eo x) (p+1+ni a+Dp x)] ++ (mk a (p+1) k out ++ ((if 0 < x.Else then [Iu (p+1+ni a+Dp x+ni c)] else []) ++ mk c (p+1+ni a+Dp x) k out))) ++ mk r (p+(1+ni a+Dp x+ni c)) k out
    else if x.Kind=12 then
      (iCount k x.N :: (mk a (p+1) (k+1) (p+2+ni a) ++ [Ox k (p+1)])) ++ mk r (p+(2+ni a)) k out
    else if x.Kind=13 then [Iu out] ++ mk r (p+1) k out
    else [o x] ++ mk r (p+1) k out
theorem Nr (x:api_Stmt) (j:api_Instr):(if 0 < x.Else then [j] else []).length=Dp x:=by unfold Dp;split <;> rfl
theorem Ct:∀ (b:B) (p k out:Nat),(mk o eo b p k out).length=ni b
  | .nil,_,_,_=>rfl
  | .cons x a c r, p, k, out => by
    have ha:=Ct a;have hc:=Ct c;have hr:=Ct r
    rw [mk,ni]
    split
    · simp only [kxk,Nr,ha,hc,hr,kxm];omega
    · split
      · simp only [kxk,kxz,ha,hr,kzb];omega
      · split <;> simp only [kxk,hr,kxm]
structure OkS (R D p4 p5 p6:Int) (x:api_Stmt):Prop where
  cond:x.Kind=11→Cg (eo x) R=true
  one:x.Kind≠11→x.Kind≠12→x.Kind≠13→Ck (o x) R D p4 p5 p6=true∧(o x).To=0∧(o x).Kind≠11∧(o x).Kind≠12∧(o x).Kind≠13∧(o x).Kind≠14
  many:x.Kind=12→1≤x.N∧x.N≤8
theorem Wd:∀ (b:B) (p k out:Nat),b.good k→(∀ x∈b.flat,OkS o eo R D p4 p5 p6 x)→(k:Int)+(dp b:Int)≤D→p+ni b≤e→(0 < k→p+ni b≤out∧out≤e)→G R D p4 p5 p6 e (mk o eo b p k out) p k
  | .nil,p,k,out,_,_,_,_,_=>Jev
  | .cons x a c r, p, k, out, hg, hx, hd, he, ho => by
    obtain ⟨g1,g2,g3,g4,g5,g6,g7,g8⟩:=hg
    have kx:=hx x (by simp [B.flat])
    have ka:∀ y∈a.flat,OkS o eo R D p4 p5 p6 y:=fun y hy=>hx y (by simp [B.flat,hy])
    have kc:∀ y∈c.flat,OkS o eo R D p4 p5 p6 y:=fun y hy=>hx y (by simp [B.flat,hy])
    have kr:∀ y∈r.flat,OkS o eo R D p4 p5 p6 y:=fun y hy=>hx y (by simp [B.flat,hy])
    rw [ni] at he ho
    rw [dp] at hd
    have dr:(k:Int)+(dp r:Int)≤D:=by omega
    rw [mk]
    by_cases h1:x.Kind=11
    · rw [if_pos h1] at he ho ⊢
      have q:inL x k=k:=by unfold inL;rw [if_neg (by omega)]
      rw [q] at g6 g7
      rw [if_neg (by omega)] at hd
      refine Qy (Qy (JaR ?_ (by simp [Sd])) (Qy ?_ (Qy ?_ ?_))) ?_
      · refine ⟨?_, fun _ => ?_, fun _ w => absurd rfl w, fun w => by rcases w with w | w <;> cases w⟩
        · have := kx.cond h1
          simp [Ck,Sd,fA,fB,fE,fF,this]
        · simp only [Sd];omega
      · exact Wd a (p+1) k out g6 ka (by omega) (by omega) (fun w=>by have:=ho w;omega)
      · rw [Ct, kxm]
        split
        · rename_i he2
          refine JaR ⟨by simp [Ck,Iu,fA,fB,fE,fF],fun _=>?_,fun w=>absurd rfl w,fun w=>by rcases w with w | w <;> cases w⟩ (by simp [Iu])
          have:Dp x=1:=if_pos he2
          simp only [Iu];omega
        · exact Jev
      · rw [Ct, kxm, Nr]
        exact Wd c (p+1+ni a+Dp x) k out g7 kc (by omega) (by omega) (fun w=>by have:=ho w;omega)
      · simp only [kxk, Ct, Nr, kxm]
        rw [show p+(1+(ni a+(Dp x+ni c)))=p+(1+ni a+Dp x+ni c) by omega]
        exact Wd r _ k out g8 kr dr (by omega) (fun w=>by have:=ho w;omega)
    · rw [if_neg h1] at he ho ⊢
      by_cases h2:x.Kind=12
      · rw [if_pos h2] at he ho ⊢
        rw [if_pos h2] at hd
        have q:inL x k=k+1:=by unfold inL;rw [if_pos h2]
        rw [q] at g6
        have hn:=kx.many h2
        refine Qy (Jf1 ?_ ?_ ?_ rfl rfl rfl rfl rfl) ?_
        · exact Wd a (p+1) (k+1) (p+2+ni a) g6 ka (by omega) (by omega) (fun _=>by omega)
        · refine ⟨?_, fun w => (by rcases w with w | w <;> cases w), fun _ _ _ => rfl, fun _ => Int.le_refl _⟩
          simp [Ck,iCount,fA,fB,fE,fF,inB,hn];refine decide_eq_true ?_;show (k:Int) < D;omega
        · refine ⟨?_, fun w => (by rcases w with w | w <;> cases w), fun _ _ w => absurd rfl w, fun _ => Int.le_refl _⟩
          simp [Ck,Ox,fA,fB,fE,fF,inB];refine decide_eq_true ?_;show (k:Int) < D;omega
        · simp only [kxk, kxz, Ct, kzb]
          rw [show p+(ni a+(0+1)+1)=p+(2+ni a) by omega]
          exact Wd r _ k out g8 kr dr (by omega) (fun w=>by have:=ho w;omega)
      · rw [if_neg h2] at he ho ⊢
        by_cases h3:x.Kind=13
        · rw [if_pos h3]
          have hk:0 < k:=Nat.pos_of_ne_zero fun h=>g5 ⟨h3,h⟩
          have:=ho hk
          refine Qy (JaR ⟨by simp [Ck,Iu,fA,fB,fE,fF],fun _=>?_,fun w=>absurd rfl w,fun w=>by rcases w with w | w <;> cases w⟩ (by simp [Iu])) ?_
          · simp only [Iu];omega
          · exact Wd r _ k out g8 kr dr (by omega) (fun w=>by omega)
        · rw [if_neg h3]
          obtain ⟨f1,f2,f3,f4,f5,f6⟩:=kx.one h1 h2 h3
          refine Qy (JaR ⟨f1,fun w=>by rcases w with w | w <;> contradiction,fun _ _ _=>f2,fun w=>by rcases w with w | w <;> contradiction⟩ f6) ?_
          exact Wd r _ k out g8 kr dr (by omega) (fun w=>by have:=ho w;omega)
end
structure AG (l:List api_Instr) (p:Nat):Prop where
  rng:∀ x∈l,x.Kind=14→(p:Int)+1≤x.To∧x.To≤((p+l.length:Nat):Int)
  one:l.Pairwise fun x y=>x.Kind=14→y.Kind=14→x.To≠y.To
theorem Jc5 {p:Nat}:AG [] p:=⟨fun x hx=>(nomatch hx),.nil⟩
theorem Vb {x:api_Instr} {p:Nat} (h:x.Kind≠14):AG [x] p:=⟨fun y hy hk=>by rw [kxo] at hy;subst hy;exact absurd hk h,kwl _ _⟩
theorem Mk {a b:List api_Instr} {p:Nat} (ha:AG a p) (hb:AG b (p+a.length)):AG (a ++ b) p:=by
  refine ⟨fun x hx hk=>?_,kyu.2 ⟨ha.one,hb.one,fun x hx y hy hk hk2=>?_⟩⟩
  · rcases kxi.1 hx with h | h
    · have := ha.rng x h hk
      rw [kxk];omega
    · have := hb.rng x h hk
      rw [kxk];omega
  · have := ha.rng x hx hk
    have:=hb.rng y hy hk2
    omega
theorem Jeg {a:List api_Instr} {p k:Nat} {n:Int} (ha:AG a (p+1)):AG (iCount k n :: (a ++ [Ox k (p+1)])) p:=by
  refine ⟨fun x hx hk=>?_,kxy.2 ⟨fun y _ hk=>absurd hk (by simp [iCount]),kyu.2 ⟨ha.one,kwl _ _,fun x hx y hy hk _=>?_⟩⟩⟩
  · rcases kxg.1 hx with rfl | hx
    · exact absurd hk (by simp [iCount])
    · rcases kxi.1 hx with h | h
      · have := ha.rng x h hk
        simp only [kxz,kxk];omega
      · rw [kxo] at h; subst h
        simp only [Ox,kxz,kxk];omega
  · rw [kxo] at hy; subst hy
    have:=ha.rng x hx hk
    simp only [Ox];omega
theorem Pl (o:api_Stmt→api_Instr) (eo:api_Stmt→List api_Op):∀ (b:B) (p k out:Nat),(∀ x∈b.flat,x.Kind≠11→x.Kind≠12→x.Kind≠13→(o x).Kind≠14)→AG (mk o eo b p k out) p
  | .nil,p,k,out,_=>Jc5
  | .cons x a c r, p, k, out, hx => by
    have ka:∀ y∈a.flat,y.Kind≠11→y.Kind≠12→y.Kind≠13→(o y).Kind≠14:=fun y hy=>hx y (by simp [B.flat,hy])
    have kc:∀ y∈c.flat,y.Kind≠11→y.Kind≠12→y.Kind≠13→(o y).Kind≠14:=fun y hy=>hx y (by simp [B.flat,hy])
    have kr:∀ y∈r.flat,y.Kind≠11→y.Kind≠12→y.Kind≠13→(o y).Kind≠14:=fun y hy=>hx y (by simp [B.flat,hy])
    rw [mk]
    split
    · refine Mk (Mk (Vb (by simp [Sd])) (Mk (Pl o eo a (p + 1) k out ka) (Mk ?_ ?_))) ?_
      · rw [Ct, kxm]
        split
        · exact Vb (by simp [Iu])
        · exact Jc5
      · rw [Ct, kxm, Nr]
        exact Pl o eo c _ k out kc
      · simp only [kxk, Ct, Nr, kxm]
        rw [show p+(1+(ni a+(Dp x+ni c)))=p+(1+ni a+Dp x+ni c) by omega]
        exact Pl o eo r _ k out kr
    · split
      · refine Mk (Jeg (Pl o eo a (p + 1) (k + 1) _ ka)) ?_
        simp only [kxk,kxz,Ct,kzb]
        rw [show p+(ni a+(0+1)+1)=p+(2+ni a) by omega]
        exact Pl o eo r _ k out kr
      · split
        · exact Mk (Vb (by simp [Iu])) (Pl o eo r _ k out kr)
        · exact Mk (Vb (hx x (by simp [B.flat]) (by assumption) (by assumption) (by assumption))) (Pl o eo r _ k out kr)
theorem N4 (o:api_Stmt→api_Instr) (eo:api_Stmt→List api_Op):∀ (b:B) (p k out:Nat),(∀ x∈b.flat,(eo x).length≤40∧(o x).E.length≤40∧(o x).F.length≤40)→∀ y∈mk o eo b p k out,y.E.length≤40∧y.F.length≤40
  | .nil,_,_,_,_,y,hy=>nomatch hy
  | .cons x a c r, p, k, out, h, y, hy => by
    have kx:=h x (by simp [B.flat])
    have ha:=fun p k out=>N4 o eo a p k out (fun y hy=>h y (by simp [B.flat,hy])) y
    have hc:=fun p k out=>N4 o eo c p k out (fun y hy=>h y (by simp [B.flat,hy])) y
    have hr:=fun p k out=>N4 o eo r p k out (fun y hy=>h y (by simp [B.flat,hy])) y
    rw [mk] at hy
    split at hy
    · simp only [kxi, kxo] at hy
      rcases hy with (rfl | hy | hy | hy) | hy
      · exact ⟨kx.1,by simp [Sd]⟩
      · exact ha _ _ _ hy
      · split at hy
        · rw [kxo] at hy;subst hy;simp [Iu]
        · cases hy
      · exact hc _ _ _ hy
      · exact hr _ _ _ hy
    · split at hy
      · simp only [kxi, kxg, kxo, kxu, or_false] at hy
        rcases hy with (rfl | hy | rfl) | hy
        · simp [iCount]
        · exact ha _ _ _ hy
        · simp [Ox]
        · exact hr _ _ _ hy
      · split at hy
        · simp only [kxi, kxo] at hy
          rcases hy with rfl | hy
          · simp [Iu]
          · exact hr _ _ _ hy
        · simp only [kxi, kxo] at hy
          rcases hy with rfl | hy
          · exact kx.2
          · exact hr _ _ _ hy
theorem Mc:∀ b:B,ni b≤2 * b.size
  | .nil=>kxb _
  | .cons x a c r => by
    have:=Mc a;have:=Mc c;have:=Mc r
    have:Dp x≤1:=by unfold Dp;split <;> omega
    rw [ni,B.size]
    split
    · omega
    · split <;> omega
end Go.MD.SWAPS.R
namespace Go.MD.SWAPS.R
open Go Go.MD Go.MD.SWAPS
open Go.IntKind (i64)
def opN (names:List Str) (x:api_Node):api_Op:=⟨x.Op,if x.Op=2 then Cq names x.Name 0 else x.N⟩
def post (names:List Str):T→List api_Op
  | .leaf x=>[opN names x]
  | .un x a=>post names a ++ [opN names x]
  | .bin x a b=>post names a ++ post names b ++ [opN names x]
theorem Gu (names:List Str):∀ t:T,(post names t).length=t.size
  | .leaf _=>rfl
  | .un _ a=>by simp [post,T.size,Gu names a]
  | .bin _ a b=>by simp [post,T.size,Gu names a,Gu names b] <;> omega
section
variable {l:List api_Node}
theorem Q9 {N:Nat} {names:List Str} (hn:names.length≤100) (hN:101≤N) {i:Int} {x:api_Node} (hx:getI l i=some x) {out:List api_Op} (ho:out.length≤5000):Z52 N l i names out=some (out ++ [opN names x]):=by
  unfold Z52 Z53 opN
  rw [hx]
  simp only [kxa]
  by_cases e:x.Op=2
  · rw [if_pos e, if_pos e, Do (by omega) (by omega)]
    simp only [kxa]
    rw [Ax (by simp;omega) (by decide)];rfl
  · rw [if_neg e,if_neg e,Ax (by simp;omega) (by decide)];rfl
theorem Iz (hl1:l.length≤1000) {names:List Str} (hn:names.length≤100):∀ (t:T) (N:Nat) (p q:List api_Node),l=p ++ (t.flat ++ q)→t.wk→l.length+206+t.depth≤N→Z51 N l (p.length:Int) names=some (post names t)
  | .leaf x, N, p, q, hl, ht, hN => by
    have h1:getI l (p.length:Int)=some x:=Ky hl
    have h0:ar x.Op=0:=ht
    obtain ⟨N,rfl⟩:∃ M,N=M+2:=⟨N - 2,by omega⟩
    rw [Z51,Z54,h1]
    simp only [kxa,Eg]
    rw [if_neg (by omega),Q9 hn (by omega) h1 (by simp)]
    rfl
  | .un x a, N, p, q, hl, ht, hN => by
    have h1:getI l (p.length:Int)=some x:=Ky hl
    have hd:=T.depth_le (T.un x a)
    have hp:p.length+(T.un x a).size≤l.length:=by rw [hl];simp [T.flat_len] <;> omega
    have hpl:=Gu names a
    simp only [T.depth,T.size] at hN hd hp
    obtain ⟨N,rfl⟩:∃ M,N=M+3:=⟨N - 3,by omega⟩
    have ih:=Iz hl1 hn a (N+2) _ _ (Jd8 hl) ht.2 (by omega)
    have e:=Lp hl1 (by omega:l.length+5≤N+2) (Jd8 hl) ht.2
    rw [kxk,kxm] at ih e
    have h0:=ht.1
    rw [Z51,Z54,h1]
    simp only [kxa,Eg]
    rw [if_pos (by omega),Bf (j:=p.length) (n:=l.length) (by omega) (by omega),ih]
    simp only [kxa]
    rw [Ax (by simp;omega) (by decide)]
    simp only [kxa]
    rw [e]
    simp only [kxa]
    rw [w01,Z54,h1]
    simp only [kxa,Eg]
    rw [if_neg (by omega),Q9 hn (by omega) h1 (by simp;omega)]
    rfl
  | .bin x a b, N, p, q, hl, ht, hN => by
    have h1:getI l (p.length:Int)=some x:=Ky hl
    have hd:=T.depth_le (T.bin x a b)
    have hp:p.length+(T.bin x a b).size≤l.length:=by rw [hl];simp [T.flat_len] <;> omega
    have hpl:=Gu names a
    have hpl2:=Gu names b
    simp only [T.depth,T.size] at hN hd hp
    obtain ⟨N,rfl⟩:∃ M,N=M+4:=⟨N - 4,by omega⟩
    have ih:=Iz hl1 hn a (N+3) _ _ (Jec hl) ht.2.1 (by omega)
    have ih2:=Iz hl1 hn b (N+3) _ _ (Jen hl) ht.2.2 (by omega)
    have e:=Lp hl1 (by omega:l.length+5≤N+3) (Jec hl) ht.2.1
    have e2:=Lp hl1 (by omega:l.length+5≤N+3) (Jen hl) ht.2.2
    rw [kxk,kxm] at ih e
    rw [kxk,kxk,kxm,T.flat_len] at ih2 e2
    have h0:=ht.1
    rw [Z51,Z54,h1]
    simp only [kxa,Eg]
    rw [if_pos (by omega),Bf (j:=p.length) (n:=l.length) (by omega) (by omega),ih]
    simp only [kxa]
    rw [Ax (by simp;omega) (by decide)]
    simp only [kxa]
    rw [e]
    simp only [kxa]
    rw [w01,Z54,h1]
    simp only [kxa,Eg]
    rw [if_pos (by omega),ih2]
    simp only [kxa]
    rw [Ax (by simp;omega) (by decide)]
    simp only [kxa]
    rw [e2]
    simp only [kxa]
    rw [w12,Z54,h1]
    simp only [kxa,Eg]
    rw [if_neg (by omega),Q9 hn (by omega) h1 (by simp;omega)]
    simp [post]
end
def Ie (l:List api_Node) (names:List Str):Prop:=∀ x∈l,x.Op=2→x.Name∈names
theorem Yw {N:Nat} (hN:5000≤N) {l:List api_Node} {names:List Str} (hl:l.length≤60) (hn:names.length≤100) {kf:Option (List api_Op×Int)}:∀ (d j n:Nat),j+d=l.length→d < n→
    (Ie (l.drop j) names∧Z4o N kf l names n (j:Int)=kf)∨(¬ Ie (l.drop j) names∧Z4o N kf l names n (j:Int)=some ([],9)):=by
  intro d
  induction d with
  | zero =>
    intro j n hj hn'
    obtain ⟨n,rfl⟩:∃ m,n=m+1:=⟨n - 1,by omega⟩
    rw [Z4o,if_neg (by omega),kxh (by omega)]
    exact .inl ⟨fun x hx=>(by cases hx),rfl⟩
  | succ d ih =>
    intro j n hj hn'
    obtain ⟨n,rfl⟩:∃ m,n=m+1:=⟨n - 1,by omega⟩
    have h1:j < l.length:=by omega
    have go:(l[j].Op=2→l[j].Name∈names)→(Ie (l.drop j) names∧Z4n (Z4o N kf l names n) (j:Int) false=kf)∨(¬ Ie (l.drop j) names∧Z4n (Z4o N kf l names n) (j:Int) false=some ([],9)):=by
      intro hs
      rw [Z4n,if_neg (by decide),Bf h1 (by omega),kxe h1]
      rcases ih (j+1) n (by omega) (by omega) with ⟨h,e⟩ | ⟨h,e⟩
      · refine .inl ⟨fun x hx => ?_, e⟩
        rcases kxg.1 hx with rfl | hx
        · exact hs
        · exact h x hx
      · exact .inr ⟨fun h'=>h fun x hx=>h' x (.tail _ hx),e⟩
    rw [Z4o,if_pos (by omega),Al rfl h1]
    simp only [kxa]
    by_cases e2:l[j].Op=2
    · rw [if_pos e2, Do (by omega) (by omega)]
      simp only [kxa]
      have hi:=(Cx names l[j].Name 0).1
      by_cases hm:l[j].Name∈names
      · rw [decide_eq_false (by have:=hi.2 hm;omega)];exact go fun _=>hm
      · have : ¬ 0 ≤ Cq names l[j].Name 0 := fun h => hm (hi.1 h)
        rw [decide_eq_true (by omega),Z4n,if_pos rfl]
        refine .inr ⟨fun h=>hm (h l[j] ?_ e2),rfl⟩
        rw [kxe h1];exact .head _
    · rw [if_neg e2];exact go fun h=>absurd h e2
section
variable {names:List Str}
theorem JcY {k:Int} (h:0≤ar k):(wN k:Int)=ar k:=by
  rcases Nu k with ⟨h1,h2⟩ | ⟨h1,h2⟩ | ⟨h1,h2⟩ | ⟨h1,h2⟩
  · rw [h1];unfold wN;rw [if_neg (by omega),if_neg (by omega)];rfl
  · rw [h1];unfold wN;rw [if_pos (by omega)];rfl
  · rw [h1];unfold wN;rw [if_neg (by omega),if_pos (by omega)];rfl
  · omega
theorem JcE {k:Int} {n:Nat} (h:ar k=(n:Int)):wN k=n:=by have:=JcY (k:=k) (by omega);omega
def hiT:T→Nat
  | .leaf _=>1
  | .un _ a=>hiT a
  | .bin _ a b=>max (hiT a) (1+hiT b)
theorem Nq:∀ t:T,1≤hiT t
  | .leaf _=>kxb _
  | .un _ a=>Nq a
  | .bin _ a b=>by have:=Nq a;simp only [hiT];omega
theorem Nm:∀ (t:T) (r:List api_Op) (n h:Nat),t.wk→hts (post names t ++ r) n h=hts r (n+1) (max h (n+hiT t))
  | .leaf x, r, n, h, hw => by
    have hw':=JcE (n:=0) hw
    show (if n < wN x.Op then none else hts r (n - wN x.Op+1) (max h (n - wN x.Op+1)))=_
    rw [hw',if_neg (by omega)];rfl
  | .un x a, r, n, h, hw => by
    have hw':=JcE (n:=1) hw.1
    show hts ((post names a ++ [opN names x]) ++ r) n h=_
    rw [kxw,Nm a _ n h hw.2]
    show (if n+1 < wN x.Op then none else hts r (n+1 - wN x.Op+1) (max (max h (n+hiT a)) (n+1 - wN x.Op+1)))=_
    have:=Nq a
    rw [hw',if_neg (by omega),show n+1 - 1+1=n+1 by omega,show max (max h (n+hiT a)) (n+1)=max h (n+hiT a) by omega]
    rfl
  | .bin x a b, r, n, h, hw => by
    have hw':=JcE (n:=2) hw.1
    show hts ((post names a ++ post names b ++ [opN names x]) ++ r) n h=_
    rw [kxw,kxw,Nm a _ n h hw.2.1,Nm b _ _ _ hw.2.2]
    show (if n+1+1 < wN x.Op then none else hts r (n+1+1 - wN x.Op+1) (max (max (max h (n+hiT a)) (n+1+hiT b)) (n+1+1 - wN x.Op+1)))=_
    have:=Nq a
    have:=Nq b
    rw [hw',if_neg (by omega),show n+1+1 - 2+1=n+1 by omega,show max (max (max h (n+hiT a)) (n+1+hiT b)) (n+1)=max h (n+max (hiT a) (1+hiT b)) by omega]
    rfl
theorem Jdl (many:Int) (hm:(names.length:Int)≤many):∀ (t:T),t.wk→(∀ x∈t.flat,Oc x=true)→Ie t.flat names→∀ y∈post names t,Rh many y=true
  := by
  have one:∀ x:api_Node,0≤ar x.Op→Oc x=true→(x.Op=2→x.Name∈names)→Rh many (opN names x)=true:=by
    intro x ha hx hv
    unfold Oc at hx
    simp only [kxc,decide_eq_true_eq] at hx
    unfold Rh opN
    simp only
    by_cases e1:x.Op=1
    · rw [if_pos e1]
      rw [if_pos e1] at hx
      have:=hx.2
      simp at this
      have e2 : ¬ x.Op=2:=by omega
      simp [e2];omega
    · rw [if_neg e1]
      rw [if_neg e1] at hx
      by_cases e2:x.Op=2
      · rw [if_pos e2, if_pos e2]
        have h1:=(Cx names x.Name 0)
        have h2:=h1.2 (hv e2)
        have h3:=h1.1.2 (hv e2)
        simp;omega
      · rw [if_neg e2, if_neg e2]
        rw [if_neg e2] at hx
        have:=hx.2
        simp at this
        have:=Nu x.Op
        simp;omega
  intro t
  induction t with
  | leaf x =>
    intro hw hx hv y hy
    have:y=opN names x:=by simpa [post] using hy
    subst this
    have hw':ar x.Op=0:=hw
    exact one x (by omega) (hx x (.head _)) (hv x (.head _))
  | un x a ih =>
    intro hw hx hv y hy
    have hw1:=hw.1
    simp only [post,kxi,kxo] at hy
    rcases hy with hy | rfl
    · exact ih hw.2 (fun z hz=>hx z (.tail _ hz)) (fun z hz=>hv z (.tail _ hz)) y hy
    · exact one x (by omega) (hx x (.head _)) (hv x (.head _))
  | bin x a b iha ihb =>
    intro hw hx hv y hy
    have hw1:=hw.1
    simp only [post,kxi,kxo] at hy
    rcases hy with (hy | hy) | rfl
    · exact iha hw.2.1 (fun z hz=>hx z (.tail _ (kyn _ hz))) (fun z hz=>hv z (.tail _ (kyn _ hz))) y hy
    · exact ihb hw.2.2 (fun z hz=>hx z (.tail _ (kzd _ hz))) (fun z hz=>hv z (.tail _ (kzd _ hz))) y hy
    · exact one x (by omega) (hx x (.head _)) (hv x (.head _))
end
theorem Yp {l:List api_Node} {t:T} {names:List Str} (ht:RightE l t) (hv:Ie l names):Cg (post names t) (names.length:Int)=true:=by
  have hl:=congrArg List.length ht.flat
  rw [T.flat_len] at hl
  have h40:=ht.len
  have h:=Nm (names:=names) t [] 0 0 ht.wk
  rw [kze] at h
  have h2:=Jdl (names:=names) _ (Int.le_refl _) t ht.wk (fun x hx=>ht.may x (by rw [ht.flat];exact hx)) (fun x hx=>hv x (by rw [ht.flat];exact hx))
  unfold Cg
  rw [h]
  simp only [hts,kxc,decide_eq_true_eq,kxp]
  exact ⟨⟨by rw [Gu];omega,trivial⟩,h2⟩
theorem Hy {N:Nat} (hN:5000≤N) {l:List api_Node} {names:List Str} (hl:l.length≤60) (hn:names.length≤100):∃ r,Z4l N l names=some r∧
    (((¬ ∃ t,RightE l t)∧r=([],8))∨(∃ t,RightE l t∧¬ Ie l names∧r=([],9))∨(∃ t,RightE l t∧Ie l names∧r=(post names t,0))):=by
  obtain ⟨c,e2,i2⟩:=Nb hN hl
  unfold Z4l
  rw [e2]
  simp only [kxa]
  by_cases hR:∃ t,RightE l t
  · rw [i2.2 hR]
    obtain ⟨t,ht⟩:=hR
    have hd:=ht.depth
    rw [if_pos rfl]
    have hs:=Iz (l:=l) (by omega) hn t N [] [] (Jc ht.flat) ht.wk (by omega)
    simp only [kzb] at hs
    rw [show (0:Int)=((0:Nat):Int) from rfl]
    rcases Yw hN (l:=l) (names:=names) (kf:=Z4m N l names) hl hn l.length 0 N (by omega) (by omega) with ⟨q1,q2⟩ | ⟨q1,q2⟩
    · rw [kxf] at q1
      rw [q2,Z4m]
      have hs':Z51 N l 0 names=some (post names t):=hs
      exact ⟨(post names t,0),by rw [hs'];rfl,.inr (.inr ⟨t,ht,q1,rfl⟩)⟩
    · rw [kxf] at q1
      rw [q2]
      exact ⟨([],9),rfl,.inr (.inl ⟨t,ht,q1,rfl⟩)⟩
  · have hc:c=false:=by
      cases c with
      | false=>rfl
      | true=>exact absurd (i2.1 rfl) hR
    subst hc
    exact ⟨([],8),rfl,.inl ⟨hR,rfl⟩⟩
def Bp (names:List Str) (l:List api_Node):List api_Op:=((Z4l 1000001 l names).getD ([],0)).1
theorem Jbz {N:Nat} (hN:5000≤N) {l:List api_Node} {names:List Str} (hl:l.length≤60) (hn:names.length≤100):Z4l N l names=Z4l 1000001 l names:=by
  obtain ⟨r,h,h2⟩:=Hy hN hl hn
  obtain ⟨q,g,g2⟩:=Hy (N:=1000001) (by decide) hl hn
  rw [h,g]
  congr 1
  rcases h2 with ⟨a,rfl⟩ | ⟨t,ht,a,rfl⟩ | ⟨t,ht,a,rfl⟩
  · rcases g2 with ⟨b, rfl⟩ | ⟨u, hu, b, rfl⟩ | ⟨u, hu, b, rfl⟩
    · rfl
    · exact absurd ⟨u,hu⟩ a
    · exact absurd ⟨u,hu⟩ a
  · rcases g2 with ⟨b, rfl⟩ | ⟨u, hu, b, rfl⟩ | ⟨u, hu, b, rfl⟩
    · exact absurd ⟨t,ht⟩ b
    · rfl
    · exact absurd b a
  · rcases g2 with ⟨b, rfl⟩ | ⟨u, hu, b, rfl⟩ | ⟨u, hu, b, rfl⟩
    · exact absurd ⟨t,ht⟩ b
    · exact absurd a b
    · have e := Iz (l := l) (by omega) hn t 5000 [] [] (Jc ht.flat) ht.wk (by have := ht.depth; omega)
      have e2:=Iz (l:=l) (by omega) hn u 5000 [] [] (Jc hu.flat) hu.wk (by have:=hu.depth;omega)
      rw [e] at e2
      injection e2 with e2
      rw [e2]
theorem Lm {N:Nat} (hN:5000≤N) {l:List api_Node} {names:List Str} (hl:l.length≤60) (hn:names.length≤100):∃ e,Z4l N l names=some (Bp names l,e):=by
  rw [Jbz hN hl hn]
  obtain ⟨r,h,_⟩:=Hy (N:=1000001) (by decide) hl hn
  unfold Bp
  rw [h];exact ⟨r.2,rfl⟩
theorem N7 {l:List api_Node} {names:List Str} (hl:l.length≤60) (hn:names.length≤100):(Bp names l).length≤40:=by
  obtain ⟨r,h,h2⟩:=Hy (N:=1000001) (by decide) hl hn
  unfold Bp
  rw [h]
  rcases h2 with ⟨_,rfl⟩ | ⟨_,_,_,rfl⟩ | ⟨t,ht,hv,rfl⟩
  · exact kxt _
  · exact kxt _
  · show (post names t).length ≤ 40
    have hl:=congrArg List.length ht.flat
    rw [T.flat_len] at hl
    rw [Gu];have:=ht.len;omega
theorem Rt {names:List Str} (hn:names.length≤100):Bp names []=[]:=by
  obtain ⟨r,h,h2⟩:=Hy (N:=1000001) (by decide) (l:=[]) (names:=names) (by simp) hn
  unfold Bp
  rw [h]
  rcases h2 with ⟨_,rfl⟩ | ⟨_,_,_,rfl⟩ | ⟨t,ht,hv,rfl⟩
  · rfl
  · rfl
  · have hl := congrArg List.length ht.flat
    rw [T.flat_len] at hl
    have:=t.size_pos
    simp at hl;omega
theorem Hq {l:List api_Node} {names:List Str} (hn:names.length≤100) (h:Gw l=true) (hv:Ie l names):Cg (Bp names l) (names.length:Int)=true:=by
  have hR:∃ t,RightE l t:=by unfold Gw at h;simpa using h
  have h60:l.length≤60:=by obtain ⟨t,ht⟩:=hR;have:=ht.len;omega
  obtain ⟨r,h1,h2⟩:=Hy (N:=1000001) (by decide) h60 hn
  unfold Bp
  rw [h1]
  rcases h2 with ⟨h2,_⟩ | ⟨_,_,h2,_⟩ | ⟨t,ht,_,rfl⟩
  · exact absurd hR h2
  · exact absurd hv h2
  · exact Yp ht hv
end Go.MD.SWAPS.R
namespace Go.MD.SWAPS.R
open Go Go.MD Go.MD.SWAPS
open Go.IntKind (i64)
theorem Qa (ls:List (List api_Cell)) (i:Nat) (h:∀ l∈ls,l≠[]):lineN ls i 0=i:=by
  cases ls with
  | nil=>simp [lineN]
  | cons l r =>
    have:=h l (.head _)
    have h1:0 < l.length:=by
      rcases kyz l.length with q | q
      · exact absurd (kwh.1 q) this
      · exact q
    rw [lineN,if_pos h1]
theorem Qu:∀ (ls:List (List api_Cell)) (i a:Nat),(∀ l∈ls,l≠[])→(lineN ls i (a+1)=lineN ls i a+1)∨(a+1 < ls.flatten.length∧lineN ls i (a+1)=lineN ls i a)
  | [],i,a,_=>by left;simp only [lineN];omega
  | l :: r, i, a, h => by
    have hr:∀ l∈r,l≠[]:=fun x hx=>h x (.tail _ hx)
    simp only [lineN,kzq,kxk]
    by_cases h1:a+1 < l.length
    · rw [if_pos h1,if_pos (by omega)];right;exact ⟨by omega,rfl⟩
    · rw [if_neg h1]
      by_cases h2:a < l.length
      · rw [if_pos h2,show a+1 - l.length=0 by omega,Qa r (i+1) hr];exact .inl rfl
      · rw [if_neg h2, show a + 1 - l.length = (a - l.length) + 1 by omega]
        rcases Qu r (i+1) (a - l.length) hr with q | ⟨q1,q2⟩
        · exact .inl q
        · exact .inr ⟨by omega,q2⟩
theorem Xu {ls:List (List api_Cell)} (h:∀ l∈ls,l≠[]):∀ (d j:Nat) (pv:Int),(j=0→pv = -1)→(∀ i,j=i+1→pv=(lineN ls 0 i:Int))→
    Ir (ls.flatten.length:Int) j pv ((List.range' j d).map fun a=>(lineN ls 0 a:Int))=true
  | 0,_,_,_,_=>rfl
  | d + 1, j, pv, h0, h1 => by
    rw [kzw,kyt,Ir,kxc]
    refine ⟨?_,Xu h d (j+1) _ (fun q=>by omega) (fun i q=>by rw [show j=i by omega])⟩
    simp only [kyb,kxc,decide_eq_true_eq]
    cases j with
    | zero=>rw [h0 rfl,Qa ls 0 h];left;rfl
    | succ j =>
      rw [h1 j rfl]
      rcases Qu ls 0 j h with q | ⟨q1,q2⟩
      · left;rw [q];omega
      · right;rw [q2];exact ⟨by omega,by omega,rfl⟩
theorem Jcx {ls:List (List api_Cell)}:∀ {a b:Nat},a≤b→lineN ls 0 a≤lineN ls 0 b:=by
  intro a b h
  induction h with
  | refl=>exact kxb _
  | step _ ih=>exact kwb ih (Ro ls 0 _)
theorem Wm {s:Str} (h:Ej s=true):s≠[]:=by intro e;subst e;simp [Ej] at h
structure Kinds (x:api_Stmt):Prop where
  kind:1≤x.Kind∧x.Kind≤14
  reg:x.Kind=1∨x.Kind=2∨x.Kind=4→x.Reg≠[]
  noreg : ¬ (x.Kind=1∨x.Kind=2∨x.Kind=4)→x.Reg=[]
  e:x.Kind=1∨x.Kind=3∨x.Kind=4∨x.Kind=11∨x.Kind=14→Gw x.E=true
  noe : ¬ (x.Kind=1∨x.Kind=3∨x.Kind=4∨x.Kind=11∨x.Kind=14)→x.E=[]
  f:x.Kind=4→Gw x.F=true
  nof:x.Kind≠4→x.F=[]
  many:x.Kind=12→1≤x.N∧x.N≤8
theorem Qc {x:api_Stmt} (h:Eo x=true):Kinds x:=by
  simp only [Eo,kxc,decide_eq_true_eq] at h
  obtain ⟨⟨hk,hn⟩,hr,_,he,hf⟩:=h
  have tt:∀ s:Str,Il true s=true→s≠[]:=fun s hs=>Wm (by simpa [Il] using hs)
  have tf:∀ s:Str,Il false s=true→s=[]:=fun s hs=>by simpa [Il] using hs
  have et:∀ l,Ic true l=true→Gw l=true:=fun l hs=>by simpa [Ic] using hs
  have ef:∀ l,Ic false l=true→l=[]:=fun l hs=>by simpa [Ic] using hs
  have cases14:x.Kind=1∨x.Kind=2∨x.Kind=3∨x.Kind=4∨x.Kind=5∨x.Kind=6∨x.Kind=7∨x.Kind=8∨x.Kind=9∨x.Kind=10∨x.Kind=11∨x.Kind=12∨x.Kind=13∨x.Kind=14:=by omega
  have c1:∀ k:Int,1≤k∧k≤14→decide ((114:UInt8)∈hS k)=decide (k=1∨k=2∨k=4):=by
    intro k hk
    have:k=1∨k=2∨k=3∨k=4∨k=5∨k=6∨k=7∨k=8∨k=9∨k=10∨k=11∨k=12∨k=13∨k=14:=by omega
    rcases this with rfl | rfl | rfl | rfl | rfl | rfl | rfl | rfl | rfl | rfl | rfl | rfl | rfl | rfl <;> decide
  have c2:∀ k:Int,1≤k∧k≤14→decide ((101:UInt8)∈hS k)=decide (k=1∨k=3∨k=4∨k=11∨k=14):=by
    intro k hk
    have:k=1∨k=2∨k=3∨k=4∨k=5∨k=6∨k=7∨k=8∨k=9∨k=10∨k=11∨k=12∨k=13∨k=14:=by omega
    rcases this with rfl | rfl | rfl | rfl | rfl | rfl | rfl | rfl | rfl | rfl | rfl | rfl | rfl | rfl <;> decide
  have c3:∀ k:Int,1≤k∧k≤14→decide ((102:UInt8)∈hS k)=decide (k=4):=by
    intro k hk
    have:k=1∨k=2∨k=3∨k=4∨k=5∨k=6∨k=7∨k=8∨k=9∨k=10∨k=11∨k=12∨k=13∨k=14:=by omega
    rcases this with rfl | rfl | rfl | rfl | rfl | rfl | rfl | rfl | rfl | rfl | rfl | rfl | rfl | rfl <;> decide
  rw [c1 _ ⟨hk.1,hk.2.1⟩] at hr
  rw [c2 _ ⟨hk.1,hk.2.1⟩] at he
  rw [c3 _ ⟨hk.1,hk.2.1⟩] at hf
  refine ⟨⟨hk.1,hk.2.1⟩,fun q=>tt _ ?_,fun q=>tf _ ?_,fun q=>et _ ?_,fun q=>ef _ ?_,fun q=>et _ ?_,fun q=>ef _ ?_,fun q=>?_⟩
  · rwa [decide_eq_true q] at hr
  · rwa [decide_eq_false q] at hr
  · rwa [decide_eq_true q] at he
  · rwa [decide_eq_false q] at he
  · rwa [decide_eq_true q] at hf
  · rwa [decide_eq_false q] at hf
  · rw [q] at hn
    rw [if_pos (by decide)] at hn
    simpa using hn
def Xc (p:api_Prog) (c:Int):Int:=(Z3l 1000001 p c).getD 0
def bOf (p:api_Prog) (x:api_Stmt):Int:=
  if x.Kind=2∨x.Kind=3∨x.Kind=4 then Cq ((Bd p).map (·.Name)) x.Name 0
  else if x.Kind=5∨x.Kind=6 then Xc p (Cq ((Bd p).map (·.Name)) x.Name 0)
  else if x.Kind=9∨x.Kind=10 then Cq (p.Locks.map (·.Name)) x.Name 0 else 0
def Gv (p:api_Prog) (G:List Str) (x:api_Stmt):api_Instr:=⟨if x.Kind=14 then 15 else x.Kind,max 0 (Cq G x.Reg 0),bOf p x,Bp G x.E,Bp G x.F,0⟩
theorem La {l:List api_Node} {G:List Str} (h:l.findSome? (H7 G)=none):Ie l G:=by
  intro x hx h2
  have:=Gi h x hx
  unfold H7 at this
  split at this
  · cases this
  · rename_i q
    rcases Classical.em (x.Name∈G) with w | w
    · exact w
    · exact absurd ⟨h2,w⟩ q
theorem Ye {l:List Str} {s:Str} (h:s∈l):inB (Cq l s 0) (l.length:Int)=true:=by
  have h1:=Cx l s 0
  have h2:=h1.2 h
  have h3:=h1.1.2 h
  simp only [inB,kxc,decide_eq_true_eq];omega
def lnP (p:api_Prog):Int:=if p.Lines.flatten.length=0 then 0 else (lineN p.Lines 0 (p.Lines.flatten.length - 1):Int)+1
theorem Jfx {p:api_Prog} (hp:SmallP p) {G:List Str} (hG:G.length≤4) (hGn:([]:Str) ∉ G) {x:api_Stmt} (hx:Eo x=true) (ha:Apt p G) (hb:Sf p G x=none) (h1:x.Kind≠11) (h2:x.Kind≠12) (h3:x.Kind≠13) (D:Int) :
    Ck (Gv p G x) (G.length:Int) D ((Bd p).length:Int) (lnP p) (p.Locks.length:Int)=true:=by
  have K:=Qc hx
  have hC:=Cv hp
  rw [Un ha,kzf,kzf,kzf] at hb
  obtain ⟨b1,b2,b3,b4⟩:=hb
  have vE:=La b3
  have vF:=La b4
  have hn:=Tv hx
  have hreg:x.Reg≠[]→x.Reg∈G:=fun q=>by
    unfold JdN at b1
    split at b1
    · cases b1
    · rename_i w
      rcases Classical.em (x.Reg∈G) with z | z
      · exact z
      · exact absurd ⟨q,z⟩ w
  have hname:x.Name≠[]→Jb p G x.Name∈On x.Kind:=fun q=>by
    unfold Mb at b2
    split at b2
    · cases b2
    · rename_i w
      rcases Classical.em (Jb p G x.Name∈On x.Kind) with z | z
      · exact z
      · exact absurd ⟨q,z⟩ w
  have hk:=K.kind
  have k15:(Gv p G x).Kind=if x.Kind=14 then 15 else x.Kind:=rfl
  have fe:fE (Gv p G x) (G.length:Int)=true:=by
    unfold fE
    by_cases q:x.Kind=1∨x.Kind=3∨x.Kind=4∨x.Kind=11∨x.Kind=14
    · rw [if_pos (by rw [k15]; split <;> omega)]
      exact Hq (by omega) (K.e q) vE
    · rw [if_neg (by rw [k15]; split <;> omega)]
      have:(Gv p G x).E=[]:=by show Bp G x.E=[];rw [K.noe q];exact Rt (by omega)
      rw [this];rfl
  have ff:fF (Gv p G x) (G.length:Int)=true:=by
    unfold fF
    by_cases q:x.Kind=4
    · rw [if_pos (by rw [k15]; split <;> omega)]
      exact Hq (by omega) (K.f q) vF
    · rw [if_neg (by rw [k15]; split <;> omega)]
      have:(Gv p G x).F=[]:=by show Bp G x.F=[];rw [K.nof q];exact Rt (by omega)
      rw [this];rfl
  have fa:fA (Gv p G x) (G.length:Int) D=true:=by
    unfold fA
    rw [if_neg (by rw [k15];split <;> omega)]
    by_cases q:x.Kind=1∨x.Kind=2∨x.Kind=4
    · rw [if_pos (by rw [k15]; split <;> omega)]
      have h:=Ye (hreg (K.reg q))
      show inB (max 0 (Cq G x.Reg 0)) _=true
      have:max 0 (Cq G x.Reg 0)=Cq G x.Reg 0:=by
        simp only [inB,kxc,decide_eq_true_eq] at h;omega
      rw [this];exact h
    · rw [if_neg (by rw [k15]; split <;> omega)]
      have:=Lv hGn 0
      refine decide_eq_true ?_
      show max 0 (Cq G x.Reg 0)=0
      rw [K.noreg q];omega
  have fb:fB (Gv p G x) ((Bd p).length:Int) (lnP p) (p.Locks.length:Int)=true:=by
    unfold fB
    have hB:(Gv p G x).B=bOf p x:=rfl
    rw [hB]
    unfold bOf
    by_cases q1:x.Kind=2∨x.Kind=3∨x.Kind=4
    · rw [if_pos (by rw [k15]; split <;> omega), if_pos q1]
      have hm:=hname (fun e=>(hn.1 e) (by omega))
      have:Jb p G x.Name=1∨Jb p G x.Name=2:=by
        unfold On at hm
        rw [if_neg (by omega),if_neg (by omega)] at hm
        simpa using hm
      have:=Jdg.1 this
      rw [← Dz] at this
      have:=Ye this
      rwa [kxx] at this
    · rw [if_neg (by rw [k15]; split <;> omega), if_neg q1]
      by_cases q2:x.Kind=5∨x.Kind=6
      · rw [if_pos (by rw [k15]; split <;> omega), if_pos q2]
        have hm:=hname (fun e=>(hn.1 e) (by omega))
        have:Jb p G x.Name=1:=by
          unfold On at hm
          rw [if_pos q2] at hm
          simpa using hm
        have hA:=JeD.1 this
        rw [Dz]
        obtain ⟨a,e1,e2⟩:∃ a:Nat,Cq (A1 p ++ A2 p) x.Name 0=(a:Int)∧a < p.Lines.flatten.length:=by
          have h1:=Cx (A1 p) x.Name 0
          have h2:=h1.2 hA
          have e:(A1 p).length=p.Lines.flatten.length:=by unfold A1;rw [kxx]
          refine ⟨(Cq (A1 p) x.Name 0).toNat,?_,by omega⟩
          rw [Ny,if_pos hA];omega
        rw [e1]
        have hlen:(Bd p).length=p.Lines.flatten.length+p.Vols.length:=by simp [Bd]
        unfold Xc lnP
        rw [Lo (N:=1000001) (by decide) hp (by omega),if_neg (by omega),kzr]
        have:=Jcx (ls:=p.Lines) (show a≤p.Lines.flatten.length - 1 by omega)
        simp only [inB,kxc,decide_eq_true_eq];omega
      · rw [if_neg (by rw [k15]; split <;> omega), if_neg q2]
        by_cases q3:x.Kind=9∨x.Kind=10
        · rw [if_pos (by rw [k15]; split <;> omega), if_pos q3]
          have hm:=hname (fun e=>(hn.1 e) (by omega))
          have:Jb p G x.Name=3:=by
            unfold On at hm
            rw [if_neg q2,if_pos q3] at hm
            simpa using hm
          have:=Ye ((JeG ha).1 this)
          unfold K1 at this
          rwa [kxx] at this
        · rw [if_neg (by rw [k15]; split <;> omega), if_neg (by rw [k15]; split <;> omega), if_neg q3]
          rfl
  unfold Ck
  rw [fa,fb,fe,ff]
  simp only [kyy,kxc,decide_eq_true_eq]
  rw [k15];split <;> omega
end Go.MD.SWAPS.R
namespace Go.MD.SWAPS.R
open Go Go.MD Go.MD.SWAPS
open Go.IntKind (i64)
theorem Qb {x:api_Stmt} (h:0 < x.Else):Dp x=1:=if_pos h
theorem Um {x:api_Stmt} (h : ¬ 0 < x.Else):Dp x=0:=if_neg h
theorem Jbe:∀ (f:Nat) (b:B),OKB b→b.size+2≤f→Z6i f b.flat=some (ni b:Int):=by
  intro f
  induction f with
  | zero=>intro b _ h;omega
  | succ f ih =>
    intro b hb hf
    cases b with
    | nil=>rw [Z6i,if_pos (by simp [B.flat])];rfl
    | cons x a c r =>
      obtain ⟨h1,h2,w2,w3,s1,s2,s3⟩:=Uj hb rfl
      have hsz:=hb.size
      simp only [B.size] at hf hsz
      have na:=Mc a;have nc:=Mc c;have nr:=Mc r
      have ea:=ih a hb.a (by omega)
      have ec:=ih c hb.c (by omega)
      have er:=ih r hb.r (by omega)
      have el:Dp x≤1:=by unfold Dp;split <;> omega
      generalize (B.cons x a c r).flat=l at h1 h2 s1 s2 s3
      have j2:∀ v:Nat,v≤200→Z6k (Z6i f) l x (v:Int)=some ((v+ni r:Nat):Int):=by
        intro v hv
        rw [Z6k,w2,w3,s3]
        simp only [kxa]
        rw [er]
        simp only [kxa]
        rw [w64 (by omega) (by omega)] <;> (congr 1 <;> omega)
      have j1:∀ v:Nat,v≤200→Z6j (Z6i f) l x (v:Int)=some (((if x.Kind=12 then 2+ni a else v)+ni r:Nat):Int):=by
        intro v hv
        rw [Z6j]
        by_cases k:x.Kind=12
        · rw [if_pos k, if_pos k, w2, s1]
          simp only [kxa]
          rw [ea]
          simp only [kxa]
          rw [w64 (by omega) (by omega),show (2:Int)+(ni a:Int)=((2+ni a:Nat):Int) by omega]
          exact j2 _ (by omega)
        · rw [if_neg k,if_neg k];exact j2 v hv
      rw [Z6i,if_neg (by omega),h2]
      simp only [kxa]
      rw [ni]
      by_cases k:x.Kind=11
      · rw [if_pos k, if_pos k, w2, s1]
        simp only [kxa]
        rw [ea]
        simp only [kxa]
        rw [w3,s2]
        simp only [kxa]
        rw [ec]
        simp only [kxa]
        have k2 : ¬ x.Kind=12:=by omega
        rw [w64 (n:=1+(ni a:Int)) (by omega) (by omega),w64 (n:=1+(ni a:Int)+(ni c:Int)) (by omega) (by omega)]
        by_cases e:0 < x.Else
        · rw [if_pos e, w64 (by omega) (by omega), show (1 : Int) + (ni a : Int) + (ni c : Int) + 1 = ((1 + ni a + ni c + 1 : Nat) : Int) by omega, j1 _ (by omega), if_neg k2, Qb e]
          congr 1 <;> omega
        · rw [if_neg e, show (1 : Int) + (ni a : Int) + (ni c : Int) = ((1 + ni a + ni c : Nat) : Int) by omega, j1 _ (by omega), if_neg k2, Um e]
          congr 1 <;> omega
      · rw [if_neg k,if_neg k,show (1:Int)=((1:Nat):Int) from rfl,j1 1 (by omega)]
theorem Ja6:∀ (b:B) (p:Nat),b.good p→dp b≤b.depth
  | .nil,_,_=>kxb _
  | .cons x a c r, p, hg => by
    obtain ⟨_,_,g3,g4,_,g6,g7,g8⟩:=hg
    have:=Ja6 a _ g6;have:=Ja6 c _ g7;have:=Ja6 r _ g8
    rw [dp,B.depth]
    by_cases q:Qo x
    · rw [if_pos q];split <;> omega
    · have k : ¬ x.Kind = 12 := fun h => q (.inr h)
      have e1:=g3 q
      have e2:=g4 (fun h=>q (.inl h))
      subst e1;subst e2
      rw [if_neg q,if_neg k];simp only [dp];omega
theorem OKB.dp {b:B} (h:OKB b):R.dp b≤b.depth:=by
  obtain ⟨p,hg⟩:=h.good
  exact Ja6 b p hg
theorem JgL:∀ (f:Nat) (b:B),OKB b→b.size+2≤f→Z67 f b.flat=some (dp b:Int):=by
  intro f
  induction f with
  | zero=>intro b _ h;omega
  | succ f ih =>
    intro b hb hf
    cases b with
    | nil=>rw [Z67,if_pos (by simp [B.flat])];rfl
    | cons x a c r =>
      obtain ⟨h1,h2,w2,w3,s1,s2,s3⟩:=Uj hb rfl
      have hsz:=hb.size
      simp only [B.size] at hf hsz
      have da:=hb.a.dp;have dc:=hb.c.dp;have dr:=hb.r.dp
      have da':=hb.a.depth;have dc':=hb.c.depth
      have ea:=ih a hb.a (by omega)
      have ec:=ih c hb.c (by omega)
      have er:=ih r hb.r (by omega)
      generalize (B.cons x a c r).flat=l at h1 h2 s1 s2 s3
      have j1:∀ v:Nat,Z68 (Z67 f) l x (v:Int)=some ((max v (dp r):Nat):Int):=by
        intro v
        rw [Z68,w2,w3,s3]
        simp only [kxa]
        rw [er]
        simp only [kxa] <;> (congr 1 <;> omega)
      rw [Z67,if_neg (by omega),h2]
      simp only [kxa]
      rw [w2,s1]
      simp only [kxa]
      rw [ea]
      simp only [kxa]
      rw [w3,s2]
      simp only [kxa]
      rw [ec]
      simp only [kxa]
      rw [dp,show max (dp a:Int) (dp c:Int)=((max (dp a) (dp c):Nat):Int) by omega]
      by_cases k:x.Kind=12
      · rw [if_pos k, if_pos k, w64 (by omega) (by omega), show ((max (dp a) (dp c) : Nat) : Int) + 1 = ((max (dp a) (dp c) + 1 : Nat) : Int) by omega]
        exact j1 _
      · rw [if_neg k,if_neg k];exact j1 _
theorem Jf5 {N:Nat} (hN:5000≤N) {p:api_Prog} (hp:SmallP p) (c:Int):Z3l N p c=some (Xc p c):=by
  unfold Xc
  by_cases h:c < 0∨((Bd p).length:Int)≤c
  · rw [Qq hN hp h,Qq (N:=1000001) (by decide) hp h];rfl
  · obtain ⟨a, rfl⟩ : ∃ a : Nat, c = (a : Int) := ⟨c.toNat, by omega⟩
    rw [Lo hN hp (a:=a) (by omega),Lo (N:=1000001) (by decide) hp (a:=a) (by omega)];rfl
theorem JfC {N:Nat} (hN:5000≤N) {p:api_Prog} (hp:SmallP p) {G:List Str} (hG:G.length≤100) {x:api_Stmt} (hx:Fe x):Z5j N (leadlineref09_Env.mk p G) x=some (Gv p G x):=by
  have hC:=Cv hp
  have hL:=hp.locks
  obtain ⟨e1,m1⟩:=Lm hN hx.1 hG
  obtain ⟨e2,m2⟩:=Lm hN hx.2 hG
  unfold Z5j
  dsimp only
  rw [Do (by omega) (by omega)]
  simp only [kxa]
  rw [H6 hN hp]
  simp only [kxa]
  rw [Do (by simp;omega) (by simp;omega)]
  simp only [kxa]
  rw [m1]
  simp only [kxa]
  rw [m2]
  simp only [kxa]
  have j1:∀ k b:Int,Z5k (Cq G x.Reg 0) (Bp G x.E,e1) (Bp G x.F,e2) k b=some (api_Instr.mk k (max 0 (Cq G x.Reg 0)) b (Bp G x.E) (Bp G x.F) 0):=fun _ _=>rfl
  unfold Gv bOf
  by_cases k2:x.Kind=2
  · rw [if_pos k2,Z5l,if_pos (by simpa using k2),j1,if_neg (by omega),if_pos (.inl k2)]
  · rw [if_neg k2]
    by_cases k3:x.Kind=3
    · rw [if_pos k3,Z5l,if_pos (by simpa using k3),j1,if_neg (by omega),if_pos (.inr (.inl k3))]
    · rw [if_neg k3, Z5l]
      by_cases k4:x.Kind=4
      · rw [if_pos (by simpa using k4),j1,if_neg (by omega),if_pos (.inr (.inr k4))]
      · rw [if_neg (by simpa using k4), if_neg (show ¬ (x.Kind = 2 ∨ x.Kind = 3 ∨ x.Kind = 4) by omega)]
        have j3:∀ b,b=decide (x.Kind=5∨x.Kind=6)→Z5m N (Z5k (Cq G x.Reg 0) (Bp G x.E,e1) (Bp G x.F,e2)) (leadlineref09_Env.mk p G) x (Cq ((Bd p).map (·.Name)) x.Name 0) b =
            some (api_Instr.mk (if x.Kind=14 then 15 else x.Kind) (max 0 (Cq G x.Reg 0)) (if x.Kind=5∨x.Kind=6 then Xc p (Cq ((Bd p).map (·.Name)) x.Name 0) else if x.Kind=9∨x.Kind=10 then Cq (p.Locks.map (·.Name)) x.Name 0 else 0) (Bp G x.E) (Bp G x.F) 0):=by
          intro b hb
          rw [Z5m]
          by_cases q:x.Kind=5∨x.Kind=6
          · rw [if_pos (by rw [hb]; exact decide_eq_true q), Jf5 hN hp]
            simp only [kxa]
            rw [j1,if_neg (by omega),if_pos q]
          · rw [if_neg (by rw [hb]; simpa using q), if_neg q]
            have j4:∀ b,b=decide (x.Kind=9∨x.Kind=10)→Z5n N (Z5k (Cq G x.Reg 0) (Bp G x.E,e1) (Bp G x.F,e2)) (leadlineref09_Env.mk p G) x b =
                some (api_Instr.mk (if x.Kind=14 then 15 else x.Kind) (max 0 (Cq G x.Reg 0)) (if x.Kind=9∨x.Kind=10 then Cq (p.Locks.map (·.Name)) x.Name 0 else 0) (Bp G x.E) (Bp G x.F) 0):=by
              intro b hb
              rw [Z5n]
              by_cases q:x.Kind=9∨x.Kind=10
              · rw [if_pos (by rw [hb]; exact decide_eq_true q), Mr hN hp]
                simp only [kxa]
                rw [Do (by simp;omega) (by simp;omega)]
                simp only [kxa]
                rw [j1,if_neg (by omega),if_pos q]
              · rw [if_neg (by rw [hb]; simpa using q), if_neg q]
                by_cases z:x.Kind=14
                · rw [if_pos z,if_pos z,j1]
                · rw [if_neg z,if_neg z,j1]
            by_cases z:x.Kind=9
            · rw [if_pos z];exact j4 _ (by simp [z])
            · rw [if_neg z];exact j4 _ (by simp [z])
        by_cases z:x.Kind=5
        · rw [if_pos z];exact j3 _ (by simp [z])
        · rw [if_neg z];exact j3 _ (by simp [z])
theorem Jd7 {p:api_Prog} (hp:SmallP p) {G:List Str} (hG:G.length≤100):∀ (f:Nat) (b:B) (q k out:Nat),OKB b→(∀ x∈b.flat,Fe x)→b.size+5002≤f→q+2 * b.size≤2000→k+b.size≤2000→out≤4000→
    Z5f f (leadlineref09_Env.mk p G) b.flat (q:Int) (k:Int) (out:Int)=some (mk (Gv p G) (fun x=>Bp G x.E) b q k out):=by
  intro f
  induction f with
  | zero=>intro b q k out _ _ h;omega
  | succ f ih =>
    intro b q k out hb hs hf hq hk ho
    cases b with
    | nil=>rw [Z5f,if_pos (by simp [B.flat])];rfl
    | cons x a c r =>
      obtain ⟨h1,h2,w2,w3,s1,s2,s3⟩:=Uj hb rfl
      have hsz:=hb.size
      simp only [B.size] at hf hsz hq hk
      have kx:=hs x (by simp [B.flat])
      have ka:∀ y∈a.flat,Fe y:=fun y hy=>hs y (by simp [B.flat,hy])
      have kc:∀ y∈c.flat,Fe y:=fun y hy=>hs y (by simp [B.flat,hy])
      have kr:∀ y∈r.flat,Fe y:=fun y hy=>hs y (by simp [B.flat,hy])
      have na:=Mc a;have nc:=Mc c;have nr:=Mc r
      have el:Dp x≤1:=by unfold Dp;split <;> omega
      have za:=Jbe f a hb.a (by omega)
      have zc:=Jbe f c hb.c (by omega)
      generalize (B.cons x a c r).flat=l at h1 h2 s1 s2 s3
      -- Jb comes behind
      have j1:∀ v:List api_Instr,v.length≤2+2 * (a.size+c.size)→Z5g (Z5f f) (leadlineref09_Env.mk p G) l (q:Int) (k:Int) (out:Int) x v=some (v ++ mk (Gv p G) (fun x=>Bp G x.E) r (q+v.length) k out):=by
        intro v hv
        rw [Z5g,w2,w3,s3]
        simp only [kxa]
        rw [w64 (by omega) (by omega),show (q:Int)+(v.length:Int)=((q+v.length:Nat):Int) by omega,ih r (q+v.length) k out hb.r kr (by omega) (by omega) (by omega) ho]
        simp only [kxa]
        rw [Ax (by rw [Ct];omega) (by decide)];rfl
      rw [Z5f,if_neg (by omega),h2]
      simp only [kxa]
      rw [w2,s1]
      simp only [kxa]
      rw [w3,s2]
      simp only [kxa]
      rw [mk]
      by_cases k1:x.Kind=11
      · rw [if_pos k1, if_pos k1]
        obtain ⟨e1,m1⟩:=Lm (N:=f) (by omega) kx.1 hG
        rw [m1]
        simp only [kxa]
        rw [za]
        simp only [kxa]
        rw [w64 (n:=(q:Int)+1) (by omega) (by omega),w64 (n:=(q:Int)+1+(ni a:Int)) (by omega) (by omega)]
        -- the rest of an if
        have j2:∀ to:Nat,to=q+1+ni a+Dp x→Z5h (Z5f f) f (Z5g (Z5f f) (leadlineref09_Env.mk p G) l (q:Int) (k:Int) (out:Int) x) (leadlineref09_Env.mk p G) (q:Int) (k:Int) (out:Int) x a.flat c.flat (Bp G x.E,e1) (to:Int) =
            some (([Sd (Bp G x.E) to] ++ (mk (Gv p G) (fun x=>Bp G x.E) a (q+1) k out ++ ((if 0 < x.Else then [Iu (to+ni c)] else []) ++ mk (Gv p G) (fun x=>Bp G x.E) c to k out))) ++ mk (Gv p G) (fun x=>Bp G x.E) r (q+(1+ni a+Dp x+ni c)) k out):=by
          intro to hto
          rw [Z5h,Ax (by simp) (by decide)]
          simp only [kxa]
          rw [w64 (n:=(q:Int)+1) (by omega) (by omega),show (q:Int)+1=((q+1:Nat):Int) by omega,ih a (q+1) k out hb.a ka (by omega) (by omega) (by omega) ho]
          simp only [kxa]
          rw [Ax (by simp only [kxl,kxm,Ct];omega) (by decide)]
          simp only [kxa]
          have j3:∀ v:List api_Instr,v.length=1+ni a+Dp x→Z5i (Z5f f) (Z5g (Z5f f) (leadlineref09_Env.mk p G) l (q:Int) (k:Int) (out:Int) x) (leadlineref09_Env.mk p G) (k:Int) (out:Int) c.flat (to:Int) v =
              some ((v ++ mk (Gv p G) (fun x=>Bp G x.E) c to k out) ++ mk (Gv p G) (fun x=>Bp G x.E) r (q+(1+ni a+Dp x+ni c)) k out):=by
            intro v hv
            rw [Z5i,ih c to k out hb.c kc (by omega) (by omega) (by omega) ho]
            simp only [kxa]
            rw [Ax (by rw [Ct];omega) (by decide)]
            simp only [kxa]
            rw [j1 _ (by rw [kxk,Ct];omega),kxk,Ct,hv]
          by_cases e:0 < x.Else
          · have e2 := Qb e
            rw [if_pos e,if_pos e,zc]
            simp only [kxa]
            rw [w64 (by omega) (by omega),show (to:Int)+(ni c:Int)=((to+ni c:Nat):Int) by omega,Ax (by simp only [kxl,kxk,kxm,Ct];omega) (by decide)]
            simp only [kxa]
            rw [j3 _ (by simp only [kxl,kxk,kxm,Ct];omega)]
            simp only [kxl,kxw]
            rfl
          · have e2 := Um e
            rw [if_neg e,if_neg e,j3 _ (by simp only [kxl,kxk,kxm,Ct];omega)]
            simp only [kxl,kxw]
            rfl
        by_cases e:0 < x.Else
        · have e2 := Qb e
          rw [if_pos e,w64 (by omega) (by omega),show (q:Int)+1+(ni a:Int)+1=((q+1+ni a+Dp x:Nat):Int) by omega]
          exact j2 _ rfl
        · have e2 := Um e
          rw [if_neg e,show (q:Int)+1+(ni a:Int)=((q+1+ni a+Dp x:Nat):Int) by omega]
          exact j2 _ rfl
      · rw [if_neg k1, if_neg k1]
        by_cases k2:x.Kind=12
        · rw [if_pos k2, if_pos k2, za]
          simp only [kxa]
          rw [Ax (by simp) (by decide)]
          simp only [kxa]
          rw [w64 (n:=(q:Int)+1) (by omega) (by omega),w64 (n:=(k:Int)+1) (by omega) (by omega),w64 (n:=(q:Int)+2) (by omega) (by omega),w64 (n:=(q:Int)+2+(ni a:Int)) (by omega) (by omega),
            show (q:Int)+1=((q+1:Nat):Int) by omega,show (k:Int)+1=((k+1:Nat):Int) by omega,show (q:Int)+2+(ni a:Int)=((q+2+ni a:Nat):Int) by omega,
            ih a (q+1) (k+1) (q+2+ni a) hb.a ka (by omega) (by omega) (by omega) (by omega)]
          simp only [kxa]
          rw [Ax (by simp only [kxl,kxm,Ct];omega) (by decide)]
          simp only [kxa]
          rw [Ax (by simp only [kxl,kxk,kxm,Ct];omega) (by decide)]
          simp only [kxa]
          rw [j1 _ (by simp only [kxl,kxk,kxm,Ct];omega)]
          simp only [kxl,kxk,kxm,Ct]
          rw [show q+(1+ni a+1)=q+(2+ni a) by omega]
          rfl
        · rw [if_neg k2, if_neg k2]
          by_cases k3:x.Kind=13
          · rw [if_pos k3, if_pos k3, Ax (by simp) (by decide)]
            simp only [kxa]
            rw [j1 _ (by simp only [kxl,kxm];omega)]
            rfl
          · rw [if_neg k3, if_neg k3, JfC (by omega) hp hG kx]
            simp only [kxa]
            rw [Ax (by simp) (by decide)]
            simp only [kxa]
            rw [j1 _ (by simp only [kxl,kxm];omega)]
            rfl
theorem Jbl {N:Nat} (hN:6000≤N) {p:api_Prog} (hp:SmallP p) {t:api_Thread} (hG:t.Regs.length≤100) {b:B} (hb:RB t.Body b) (hs:∀ x∈t.Body,Fe x) :
    Z6l N p t=some (api_Code.mk (t.Regs.length:Int) (dp b:Int) (mk (Gv p t.Regs) (fun x=>Bp t.Regs x.E) b 0 0 0)):=by
  have h40:=hb.ok.size
  unfold Z6l
  rw [hb.flat,JgL N b hb.ok (by omega)]
  simp only [kxa]
  rw [show (0:Int)=((0:Nat):Int) from rfl,Jd7 hp hG N b 0 0 0 hb.ok (by rw [← hb.flat];exact hs) (by omega) (by omega) (by omega) (by omega)]
  rfl
end Go.MD.SWAPS.R
namespace Go.MD.SWAPS.R
open Go Go.MD Go.MD.SWAPS
open Go.IntKind (i64)
structure OKP (p:api_Prog):Prop where
  pb:PB p
  big:Vz p=false
  apt:∀ t∈Fb p,Apt p t.Regs
  bad:∀ t∈Fb p,∀ x∈t.Body,Sf p t.Regs x=none
  claims:∀ c∈p.Claims,∀ x∈c.E,H7 (A1 p) x=none
theorem JcF {p:api_Prog} {a:Int} (h:Oa p=some (0,a)):OKP p:=by
  unfold Oa at h
  split at h
  · rename_i hp
    split at h
    · injection h with h;injection h with h _;cases h
    · rename_i hb
      have hb':Vz p=false:=by simpa using hb
      cases h1:(Fb p).findSome? Oz with
      | some v=>rw [h1] at h;simp [out] at h
      | none =>
        rw [h1] at h
        cases h2:Ke (Jh p) [] with
        | some v=>rw [h2] at h;simp [out] at h
        | none =>
          rw [h2] at h
          cases h3:(Fb p).findSome? (W9 p) with
          | some v=>rw [h3] at h;simp [out] at h
          | none =>
            rw [h3] at h
            cases h4:(Fb p).findSome? (Tk p) with
            | some v=>rw [h4] at h;simp [out] at h
            | none =>
              rw [h4] at h
              cases h5:p.Claims.findSome? (Qv p) with
              | some v=>rw [h5] at h;simp [out] at h
              | none =>
                refine ⟨Ua.1 hp,hb',fun t ht=>?_,fun t ht x hx=>?_,fun c hc x hx=>?_⟩
                · have := Gi h3 t ht
                  unfold W9 at this
                  split at this
                  · cases this
                  · rename_i z;exact Jcu h2 (by simpa using z)
                · exact Gi (Gi h4 t ht) x hx
                · exact Gi (Gi h5 c hc) x hx
  · injection h with h;injection h with h _;cases h
structure CodeOk (p:api_Prog) (c:api_Code):Prop where
  right:Df c ((Bd p).length:Int) (lnP p) (p.Locks.length:Int)=true
  len:c.L.length≤80
  ops:∀ x∈c.L,x.E.length≤40∧x.F.length≤40
  one:c.L.Pairwise fun x y=>x.Kind=14→y.Kind=14→x.To≠y.To
theorem Tc {N:Nat} (hN:6000≤N) {p:api_Prog} (hp:SmallP p) (ho:OKP p) {t:api_Thread} (ht:t∈Fb p):∃ c,Z6l N p t=some c∧CodeOk p c:=by
  obtain ⟨_,hT⟩:=My hp
  have hs:=hT t ht
  have hr4:t.Regs.length≤4:=by
    have:=ho.big
    unfold Vz at this
    simp only [kym,Bool.not_eq_false',kxc] at this
    have:=kxp.1 this.1.2 t ht
    unfold Jcy at this
    simp only [kyc,decide_eq_false_iff_not] at this
    omega
  obtain ⟨_,hn,b,hb⟩:=Im (ho.pb.thread t ht)
  have hnil:([]:Str) ∉ t.Regs:=fun q=>Wm (hn _ q) rfl
  have h40:=hb.ok.size
  have hdp:=hb.ok.dp
  have hd12:=hb.depth
  have hlt:∀ x∈b.flat,(Bp t.Regs x.E).length≤40∧(Gv p t.Regs x).E.length≤40∧(Gv p t.Regs x).F.length≤40:=fun x hx=>by
    have h:=hs.small x (by rw [hb.flat];exact hx)
    exact ⟨N7 h.1 (by omega),N7 h.1 (by omega),N7 h.2 (by omega)⟩
  refine ⟨_,Jbl hN hp (by omega) hb hs.small,?_,?_,?_,?_⟩
  · refine JfH ?_ ⟨by show (0 : Int) ≤ (t.Regs.length : Int); omega, by show (t.Regs.length : Int) ≤ 4; omega⟩ ⟨by show (0 : Int) ≤ (dp b : Int); omega, by show (dp b : Int) ≤ 12; omega⟩
    show G (t.Regs.length:Int) (dp b:Int) _ _ _ (mk (Gv p t.Regs) (fun x=>Bp t.Regs x.E) b 0 0 0).length (mk (Gv p t.Regs) (fun x=>Bp t.Regs x.E) b 0 0 0) 0 0
    refine Wd _ _ b 0 0 0 hb.good (fun x hx=>?_) (by omega) (by rw [Ct];omega) (fun h=>absurd h (by decide))
    have hx':x∈t.Body:=by rw [hb.flat];exact hx
    have hf:=hb.fits x hx'
    have K:=Qc hf
    have hbad:=ho.bad t ht x hx'
    refine ⟨fun k=>?_,fun k1 k2 k3=>⟨Jfx hp hr4 hnil hf (ho.apt t ht) hbad k1 k2 k3 _,rfl,?_⟩,K.many⟩
    · rw [Un (ho.apt t ht), kzf, kzf, kzf] at hbad
      exact Hq (by omega) (K.e (by omega)) (La hbad.2.2.1)
    · have hk : (Gv p t.Regs x).Kind = if x.Kind = 14 then 15 else x.Kind := rfl
      have:=K.kind
      rw [hk]
      split <;> omega
  · show (mk _ _ b 0 0 0).length ≤ 80
    rw [Ct];have:=Mc b;omega
  · exact N4 _ _ b 0 0 0 hlt
  · refine (Pl (Gv p t.Regs) (fun x => Bp t.Regs x.E) b 0 0 0 fun x hx k1 k2 k3 => ?_).one
    have K:=Qc (hb.fits x (by rw [hb.flat];exact hx))
    have hk:(Gv p t.Regs x).Kind=if x.Kind=14 then 15 else x.Kind:=rfl
    have:=K.kind
    rw [hk]
    split <;> omega
theorem Jb4 {p:api_Prog}:CodeOk p (api_Code.mk 0 0 []):=by
  refine ⟨?_,kxt _,fun x hx=>(nomatch hx),.nil⟩
  unfold Df
  simp
def oneC (c:api_Code):Prop:=c.L.Pairwise fun x y=>x.Kind=14→y.Kind=14→x.To≠y.To
def JdB (u:api_Unit):Prop:=(∀ c∈u.Threads,oneC c)∧(∀ c∈u.Threads,c.L.length≤80)∧oneC u.Recover∧u.Recover.L.length≤80
theorem Jgr {N:Nat} (hN:5000≤N) {p:api_Prog} (hp:SmallP p) {k:List Int→Option (api_Unit×Int)} {v:List Int} (hv:v.length=(Bd p).length):∀ (d j m:Nat),j+d=v.length→d < m→
    Z63 N k p v m ((List.range j).map fun a=>(lineN p.Lines 0 a:Int)) (j:Int)=k ((List.range v.length).map fun a=>(lineN p.Lines 0 a:Int)):=by
  have hC:=Cv hp
  intro d
  induction d with
  | zero =>
    intro j m hj hm
    obtain ⟨m,rfl⟩:∃ q,m=q+1:=⟨m - 1,by omega⟩
    rw [Z63,if_neg (by omega),show j=v.length by omega]
  | succ d ih =>
    intro j m hj hm
    obtain ⟨m,rfl⟩:∃ q,m=q+1:=⟨m - 1,by omega⟩
    rw [Z63,if_pos (by omega),Lo hN hp (a:=j) (by omega)]
    simp only [kxa]
    rw [Ax (by simp;omega) (by decide)]
    simp only [kxa]
    rw [Bf (n:=v.length) (by omega) (by omega)]
    have e:((List.range j).map fun a=>(lineN p.Lines 0 a:Int)) ++ [(lineN p.Lines 0 j:Int)]=(List.range (j+1)).map fun a=>(lineN p.Lines 0 a:Int):=by rw [List.range_succ,kyp];rfl
    rw [e]
    exact ih (j+1) m (by omega) (by omega)
theorem Jhc {N:Nat} {p:api_Prog} (hl:p.Threads.length≤1000) {k:List api_Code→Option (api_Unit×Int)} {Q:api_Code→Prop} (hq:∀ t∈p.Threads,∃ c,Z6l N p t=some c∧Q c):∀ (d j m:Nat) (out:List api_Code),j+d=p.Threads.length→d < m→out.length=j→(∀ c∈out,Q c)→
    ∃ r,Z64 N k p m out (j:Int)=k r∧r.length=p.Threads.length∧∀ c∈r,Q c:=by
  intro d
  induction d with
  | zero =>
    intro j m out hj hm ho hQ
    obtain ⟨m,rfl⟩:∃ q,m=q+1:=⟨m - 1,by omega⟩
    rw [Z64,if_neg (by omega)]
    exact ⟨out,rfl,by omega,hQ⟩
  | succ d ih =>
    intro j m out hj hm ho hQ
    obtain ⟨m,rfl⟩:∃ q,m=q+1:=⟨m - 1,by omega⟩
    have h1:j < p.Threads.length:=by omega
    obtain ⟨c,hc,hc2⟩:=hq _ (kxj h1)
    rw [Z64,if_pos (by omega),Al rfl h1]
    simp only [kxa]
    rw [hc]
    simp only [kxa]
    rw [Ax (by simp;omega) (by decide)]
    simp only [kxa]
    rw [Bf h1 (by omega)]
    refine ih (j+1) m _ (by omega) (by omega) (by simp;omega) (fun x hx=>?_)
    rcases kxi.1 hx with h | h
    · exact hQ x h
    · rw [kxo] at h;subst h;exact hc2
theorem JgH {N:Nat} (hN:5000≤N) {p:api_Prog} (hp:SmallP p) (ho:OKP p) {k:List (List api_Op)→Option (api_Unit×Int)}:∀ (d j m:Nat) (out:List (List api_Op)),j+d=p.Claims.length→d < m→out.length=j→(∀ c∈out,Cg c (p.Lines.flatten.length:Int)=true)→
    ∃ r,Z65 N k p (p.Lines.flatten.length:Int) m out (j:Int)=k r∧r.length=p.Claims.length∧∀ c∈r,Cg c (p.Lines.flatten.length:Int)=true:=by
  have hC:=Cv hp
  have hCl:=hp.claims
  have hlen:(Bd p).length=p.Lines.flatten.length+p.Vols.length:=by simp [Bd]
  have hA1:(A1 p).length=p.Lines.flatten.length:=by unfold A1;rw [kxx]
  intro d
  induction d with
  | zero =>
    intro j m out hj hm ho' hQ
    obtain ⟨m,rfl⟩:∃ q,m=q+1:=⟨m - 1,by omega⟩
    rw [Z65,if_neg (by omega)]
    exact ⟨out,rfl,by omega,hQ⟩
  | succ d ih =>
    intro j m out hj hm ho' hQ
    obtain ⟨m,rfl⟩:∃ q,m=q+1:=⟨m - 1,by omega⟩
    have h1:j < p.Claims.length:=by omega
    have hmem:=kxj h1
    rw [Z65,if_pos (by omega),Al rfl h1]
    simp only [kxa]
    rw [H6 hN hp]
    simp only [kxa]
    rw [Ef (by omega) (by omega) (by simp only [kxx];omega)]
    simp only [kxa]
    have hst:((List.map (fun x:api_Cell=>x.Name) (Bd p)).take (p.Lines.flatten.length:Int).toNat).drop (0:Int).toNat=A1 p:=by
      rw [Dz,kya,show (0:Int).toNat=0 from rfl,kxf,List.take_left' (by simp only [A1,kxx])]
    rw [hst]
    have hE:=hp.claim _ hmem
    obtain ⟨e,he⟩:=Lm hN hE (names:=A1 p) (by omega)
    rw [he]
    simp only [kxa]
    rw [Ax (by simp;omega) (by decide)]
    simp only [kxa]
    rw [Bf h1 (by omega)]
    refine ih (j+1) m _ (by omega) (by omega) (by simp;omega) (fun x hx=>?_)
    rcases kxi.1 hx with h | h
    · exact hQ x h
    · rw [kxo] at h
      subst h
      have hcB:=ho.pb.claims _ hmem
      unfold Jq at hcB
      rw [kxc] at hcB
      have hv:Ie (p.Claims[j]).E (A1 p):=La (List.findSome?_eq_none_iff.2 (ho.claims _ hmem))
      have:=Hq (names:=A1 p) (by omega) hcB.2 hv
      rwa [hA1] at this
theorem Jdr {N:Nat} (hN:6000≤N) {p:api_Prog} (hp:SmallP p) (ho:OKP p):∃ u,Z5y N p (p.Lines.flatten.length:Int) ((Bd p).map (·.N))=some (u,0)∧Pk u=true∧Mu u∧JdB u:=by
  have hC:=Cv hp
  have hlen:(Bd p).length=p.Lines.flatten.length+p.Vols.length:=by simp [Bd]
  have hbig:=ho.big
  unfold Vz at hbig
  simp only [kym,Bool.not_eq_false',kxc,decide_eq_false_iff_not,not_or,Nat.not_lt] at hbig
  obtain ⟨⟨hnar,_⟩,g1,g2,g3,g4,g5,g6⟩:=hbig
  have hne:∀ l∈p.Lines,l≠[]:=fun l hl=>by
    have:=ho.pb.line l hl
    unfold Oy at this
    rw [kxc] at this
    intro e;subst e;simp at this
  have h16:p.Lines.flatten.length≤4 * p.Lines.length:=by
    have key:∀ ls:List (List api_Cell),(∀ l∈ls,l.length≤4)→ls.flatten.length≤4 * ls.length:=by
      intro ls
      induction ls with
      | nil=>intro _;simp
      | cons a r ih =>
        intro h
        have h1:=h a (.head _)
        have h2:=ih (fun l hl=>h l (.tail _ hl))
        rw [kzq,kxk,kxz];omega
    refine key _ fun l hl=>?_
    have:=kxp.1 hnar l hl
    unfold Rl at this
    simp only [kyc,decide_eq_false_iff_not] at this
    omega
  have h20:(Bd p).length≤20:=by omega
  have hfl:((Bd p).map (·.N)).length=(Bd p).length:=kxx _
  rw [Z5y]
  have e3:=Jgr (N:=N) (by omega) hp (k:=Z5z N p (p.Lines.flatten.length:Int) ((Bd p).map (·.N))) hfl ((Bd p).map (·.N)).length 0 N (by omega) (by omega)
  rw [show (List.range 0).map (fun a=>(lineN p.Lines 0 a:Int))=[] from rfl,show ((0:Nat):Int)=0 from rfl] at e3
  rw [e3,Z5z,hfl]
  generalize hL:(List.range (Bd p).length).map (fun a=>(lineN p.Lines 0 a:Int))=lines
  have hLl:lines.length=(Bd p).length:=by rw [← hL,kxx,List.length_range]
  obtain ⟨ts,e5,ht1,ht2⟩:=Jhc (N:=N) (p:=p) (by omega) (k:=Z60 N p (p.Lines.flatten.length:Int) ((Bd p).map (·.N)) lines) (Q:=CodeOk p) (fun t ht=>Tc hN hp ho (kyn _ ht)) p.Threads.length 0 N [] (by omega) (by omega) rfl (fun c hc=>nomatch hc)
  rw [show ((0:Nat):Int)=0 from rfl] at e5
  rw [e5,Z60]
  have fin:∀ c:api_Code,CodeOk p c→∃ u,Z61 N p (p.Lines.flatten.length:Int) ((Bd p).map (·.N)) lines ts c.Regs c.Counts c.L=some (u,0)∧Pk u=true∧Mu u∧JdB u:=by
    intro c hc
    obtain ⟨cs,e8,hc1,hc2⟩:=JgH (N:=N) (by omega) hp ho (k:=Z62 p (p.Lines.flatten.length:Int) ((Bd p).map (·.N)) lines ts c.Regs c.Counts c.L) p.Claims.length 0 N [] (by omega) (by omega) rfl (fun c hc=>nomatch hc)
    rw [show ((0:Nat):Int)=0 from rfl] at e8
    rw [Z61,e8,Z62]
    refine ⟨_,rfl,?_,?_,?_⟩
    · have hln:lnI (api_Unit.mk lines (p.Lines.flatten.length:Int) ((Bd p).map (·.N)) (p.Locks.length:Int) ts (api_Code.mk c.Regs c.Counts c.L) cs)=lnP p:=by
        unfold lnI lnP
        dsimp only
        by_cases z:p.Lines.flatten.length=0
        · rw [if_neg (by omega),if_pos z]
        · rw [if_pos (by omega), if_neg z, show ((p.Lines.flatten.length : Int) - 1).toNat = p.Lines.flatten.length - 1 by omega, ← hL, kzg, List.getElem?_range (by omega)]
          have hlt:=Xn p.Lines 0 (p.Lines.flatten.length - 1) (by omega)
          show i64.wrap ((lineN p.Lines 0 (p.Lines.flatten.length - 1):Int)+1)=_
          rw [w64 (by omega) (by omega)]
      unfold Pk
      simp only [kxc]
      refine ⟨?_,?_,?_,?_,?_,?_⟩
      · unfold Jbx
        simp only [kyc,kym,decide_eq_false_iff_not]
        omega
      · rw [← hL]
        have:=Xu hne (Bd p).length 0 (-1) (fun _=>rfl) (fun i q=>by omega)
        rw [← kzj] at this
        exact this
      · rw [kxp]
        intro n hn
        obtain ⟨x,hx,rfl⟩:=kyq.1 hn
        have hcell:cellB 4294967296 x=true:=by
          rcases kxi.1 hx with h | h
          · obtain ⟨l, hl, hxl⟩ := List.mem_flatten.1 h
            have:=ho.pb.line l hl
            unfold Oy at this
            rw [kxc] at this
            exact kxp.1 this.2 x hxl
          · exact ho.pb.vols x h
        unfold cellB at hcell
        unfold okF
        simp only [kxc,kyc,kym,decide_eq_false_iff_not] at hcell ⊢
        exact ⟨hcell.1.1.2,hcell.1.2⟩
      · rw [kxp]
        intro t ht
        have:=(ht2 t ht).right
        unfold cB
        rw [hln]
        show Df t (lines.length:Int) (lnP p) (p.Locks.length:Int)=true
        rw [hLl];exact this
      · have := hc.right
        unfold cB
        rw [hln]
        show Df c (lines.length:Int) (lnP p) (p.Locks.length:Int)=true
        rw [hLl];exact this
      · rw [kxp];exact hc2
    · have sm : ∀ c : api_Code, CodeOk p c → small c := fun c h => ⟨by have := h.len; omega, fun x hx => by have := h.ops x hx; omega⟩
      refine ⟨by show lines.length≤300000;omega,by show ((Bd p).map (·.N)).length≤300000;omega,by show ts.length≤300000;omega,by show cs.length≤300000;omega,fun c h=>sm c (ht2 c h),sm c hc,fun l hl=>?_⟩
      have:=Jbc (hc2 l hl);omega
    · exact ⟨fun c h=>(ht2 c h).one,(ht2 · · |>.len),hc.one,hc.len⟩
  by_cases z:0 < (p.Recover.length:Int)
  · have h0 : 0 < p.Recover.length := by omega
    rw [if_pos z,show (0:Int)=((0:Nat):Int) from rfl,Al rfl h0]
    simp only [kxa]
    obtain ⟨c,hc,hc2⟩:=Tc hN hp ho (t:=p.Recover[0]) (kzd _ (kxj h0))
    rw [hc]
    exact fin c hc2
  · rw [if_neg z]
    exact fin (api_Code.mk 0 0 []) Jb4
theorem JbA {p:api_Prog} (hp:SmallP p):∃ u e,Z5x 1000001 p=some (u,e)∧(e=0→Pk u=true∧Mu u∧JdB u):=by
  unfold Z5x
  rw [Jbj hp]
  obtain ⟨⟨e,a⟩,h⟩:=Wz (p:=p)
  rw [h]
  simp only [kxa]
  by_cases z:e=0
  · subst z
    rw [if_neg (by decide),Kb (N:=1000001) (by decide) hp]
    simp only [kxa]
    rw [Wv (N:=1000001) (by decide) hp]
    simp only [kxa]
    obtain ⟨u,h1,h2⟩:=Jdr (N:=1000001) (by decide) hp (JcF h)
    exact ⟨u,0,h1,fun _=>h2⟩
  · rw [if_pos z]
    exact ⟨_,e,rfl,fun q=>absurd q z⟩
end Go.MD.SWAPS.R
namespace Go.MD.SWAPS
open Go Go.MD
open Go.IntKind (i64)
theorem Xf (b:Bool):∃ r,∀ N,Z19 N b=some r:=by
  cases b
  · exact ⟨0,fun N=>rfl⟩
  · exact ⟨1,fun N=>rfl⟩
theorem Wl (a b:Int) (h:b≠0):∃ r,∀ N,Z1c N a b=some r:=by
  unfold Z1c
  split
  · exact ⟨_,fun _=>rfl⟩
  · unfold Jd9;rw [if_neg h];exact ⟨_,fun _=>rfl⟩
theorem Jeb (k x:Int):∃ r,∀ N,Z1a N k x=some r:=by
  unfold Z1a
  split
  · exact ⟨_,fun _=>rfl⟩
  · split
    · obtain ⟨r, hr⟩ := Xf (decide (x = 0))
      exact ⟨(r,0),fun N=>by rw [hr N];rfl⟩
    · exact ⟨_,fun _=>rfl⟩
theorem JdV (k a b:Int):∃ r,∀ N,Z1b N k a b=some r:=by
  have hb:∀ c:Bool,∃ r:Int×Int,∀ N,((Z19 N c).bind fun x=>some (x,(0:Int)))=some r:=fun c=>by
    obtain ⟨r,hr⟩:=Xf c
    exact ⟨(r,0),fun N=>by rw [hr N];rfl⟩
  by_cases c5:k=5
  · exact ⟨_,fun N=>by rw [Z1b,if_pos c5]⟩
  by_cases c6:k=6
  · exact ⟨_,fun N=>by rw [Z1b,if_neg c5,if_pos c6]⟩
  by_cases c7:k=7
  · exact ⟨_,fun N=>by rw [Z1b,if_neg c5,if_neg c6,if_pos c7]⟩
  by_cases c8:k=8
  · by_cases z : b = 0
    · exact ⟨_,fun N=>by rw [Z1b,if_neg c5,if_neg c6,if_neg c7,if_pos c8,if_pos z]⟩
    · obtain ⟨r, hr⟩ := Wl a b z
      exact ⟨_,fun N=>by rw [Z1b,if_neg c5,if_neg c6,if_neg c7,if_pos c8,if_neg z,hr N];rfl⟩
  by_cases c9:k=9
  · by_cases z : b = 0
    · exact ⟨_,fun N=>by rw [Z1b,if_neg c5,if_neg c6,if_neg c7,if_neg c8,if_pos c9,if_pos z]⟩
    · obtain ⟨r, hr⟩ := Wl a b z
      exact ⟨_,fun N=>by rw [Z1b,if_neg c5,if_neg c6,if_neg c7,if_neg c8,if_pos c9,if_neg z,hr N];rfl⟩
  by_cases c10:k=10
  · obtain ⟨r, hr⟩ := hb _
    exact ⟨r,fun N=>by rw [Z1b,if_neg c5,if_neg c6,if_neg c7,if_neg c8,if_neg c9,if_pos c10];exact hr N⟩
  by_cases c11:k=11
  · obtain ⟨r, hr⟩ := hb _
    exact ⟨r,fun N=>by rw [Z1b,if_neg c5,if_neg c6,if_neg c7,if_neg c8,if_neg c9,if_neg c10,if_pos c11];exact hr N⟩
  by_cases c12:k=12
  · obtain ⟨r, hr⟩ := hb _
    exact ⟨r,fun N=>by rw [Z1b,if_neg c5,if_neg c6,if_neg c7,if_neg c8,if_neg c9,if_neg c10,if_neg c11,if_pos c12];exact hr N⟩
  by_cases c13:k=13
  · obtain ⟨r, hr⟩ := hb _
    exact ⟨r,fun N=>by rw [Z1b,if_neg c5,if_neg c6,if_neg c7,if_neg c8,if_neg c9,if_neg c10,if_neg c11,if_neg c12,if_pos c13];exact hr N⟩
  by_cases c14:k=14
  · obtain ⟨r, hr⟩ := hb _
    exact ⟨r,fun N=>by rw [Z1b,if_neg c5,if_neg c6,if_neg c7,if_neg c8,if_neg c9,if_neg c10,if_neg c11,if_neg c12,if_neg c13,if_pos c14];exact hr N⟩
  by_cases c15:k=15
  · obtain ⟨r, hr⟩ := hb _
    exact ⟨r,fun N=>by rw [Z1b,if_neg c5,if_neg c6,if_neg c7,if_neg c8,if_neg c9,if_neg c10,if_neg c11,if_neg c12,if_neg c13,if_neg c14,if_pos c15];exact hr N⟩
  exact ⟨_,fun N=>by rw [Z1b,if_neg c5,if_neg c6,if_neg c7,if_neg c8,if_neg c9,if_neg c10,if_neg c11,if_neg c12,if_neg c13,if_neg c14,if_neg c15]⟩
theorem Nf {α:Type} {xs:List α} {i:Int} {j:Nat} (h:i=(j:Int)) (hj:j < xs.length) (v:α):Kc xs i v=some (xs.set j v):=by
  subst h;unfold Kc;rw [if_pos ⟨by omega,by simpa using hj⟩];simp
theorem Jfb {l:List api_Op} {nums:List Int} (hl:l.length≤40) (hok:l.all (Rh (nums.length:Int))=true):∀ (d j:Nat) (st:List Int),j+d=l.length→st.length≤j→(∃ h h',hts (l.drop j) st.length h=some (1,h'))→
    ∃ r,∀ N n,d < n→Z4v N Z4t l nums n st (j:Int)=some r:=by
  intro d
  induction d with
  | zero =>
    intro j st hj hst ⟨h,h',hh⟩
    rw [kxh (by omega)] at hh
    simp only [hts,Option.some.injEq,Prod.mk.injEq] at hh
    have h0:0 < st.length:=by omega
    refine ⟨(st[0],0),fun N n hn=>?_⟩
    obtain ⟨n,rfl⟩:∃ q,n=q+1:=⟨n - 1,by omega⟩
    rw [Z4v,if_neg (by omega),Z4t,Al (i:=0) (j:=0) rfl h0]
    rfl
  | succ d ih =>
    intro j st hj hst ⟨h,h',hh⟩
    have h1:j < l.length:=by omega
    rw [kxe h1,hts] at hh
    have hx:=kxp.1 hok _ (kxj h1)
    generalize hxe:l[j]=x at hh hx
    have hg:getI l (j:Int)=some x:=by rw [Al rfl h1,hxe]
    split at hh
    · cases hh
    rename_i hw
    have next:∀ st2:List Int,st2.length=st.length - wN x.Kind+1→∃ r,∀ N n,d < n→(Z4u (Z4v N Z4t l nums n) (j:Int)) st2=some r:=fun st2 hs2=>by
      obtain ⟨r,hr⟩:=ih (j+1) st2 (by omega) (by omega) ⟨_,h',by rw [hs2];exact hh⟩
      exact ⟨r,fun N n hn=>by rw [Z4u,Bf h1 (by omega)];exact hr N n hn⟩
    have start:∀ {f:Nat→Nat→Option (Int×Int)},(∃ r,∀ N n,d < n→f N n=some r)→(∀ N n,Z4v N Z4t l nums (n+1) st (j:Int)=f N n)→∃ r,∀ N n,d+1 < n→Z4v N Z4t l nums n st (j:Int)=some r:=fun ⟨r,hr⟩ he=>
      ⟨r,fun N n hn=>by
        obtain ⟨n,rfl⟩:∃ q,n=q+1:=⟨n - 1,by omega⟩
        rw [he];exact hr N n (by omega)⟩
    unfold Rh at hx
    by_cases k1:x.Kind=1
    · have w0 : wN x.Kind = 0 := by rw [k1]; rfl
      refine start (next (st ++ [x.N]) (by simp [w0])) fun N n=>?_
      rw [Z4v,if_pos (by omega),hg]
      simp only [kxa]
      rw [if_pos k1,Ax (by simp;omega) (by decide)]
      rfl
    rw [if_neg k1] at hx
    by_cases k2:x.Kind=2
    · have w0 : wN x.Kind = 0 := by rw [k2]; rfl
      rw [if_pos k2,decide_eq_true_eq] at hx
      have hn:x.N.toNat < nums.length:=by omega
      refine start (next (st ++ [nums[x.N.toNat]]) (by simp [w0])) fun N n=>?_
      rw [Z4v,if_pos (by omega),hg]
      simp only [kxa]
      rw [if_neg k1,if_pos k2,Al (j:=x.N.toNat) (by omega) hn]
      simp only [kxa]
      rw [Ax (by simp;omega) (by decide)]
      rfl
    rw [if_neg k2,decide_eq_true_eq] at hx
    by_cases k3:x.Kind=3∨x.Kind=4
    · have w1 : wN x.Kind = 1 := by unfold wN; rw [if_pos k3]
      have hp:0 < st.length:=by omega
      obtain ⟨r,hr⟩:=Jeb x.Kind st[st.length - 1]
      refine start (next (st.set (st.length - 1) r.1) (by rw [kxr];omega)) fun N n=>?_
      rw [Z4v,if_pos (by omega),hg]
      simp only [kxa]
      rw [if_neg k1,if_neg k2,if_pos (by simpa using k3),w64 (by omega) (by omega),Al (j:=st.length - 1) (by omega) (by omega)]
      simp only [kxa]
      rw [hr N]
      simp only [kxa]
      rw [Nf (j:=st.length - 1) (by omega) (by omega)]
      rfl
    · have w2 : wN x.Kind = 2 := by unfold wN; rw [if_neg k3, if_pos (by omega)]
      have hp:2≤st.length:=by omega
      obtain ⟨r,hr⟩:=JdV x.Kind st[st.length - 2] st[st.length - 1]
      have e1:i64.wrap ((st.length:Int) - 1)=((st.length - 1:Nat):Int):=by rw [w64 (by omega) (by omega)];omega
      have e2:i64.wrap (((st.length - 1:Nat):Int) - 1)=((st.length - 2:Nat):Int):=by rw [w64 (by omega) (by omega)];omega
      by_cases z:r.2=0
      · have ht : (st.take (st.length - 1)).length = st.length - 1 := by rw [kyg]; omega
        refine start (next ((st.take (st.length - 1)).set (st.length - 2) r.1) (by rw [kxr,ht];omega)) fun N n=>?_
        rw [Z4v,if_pos (by omega),hg]
        simp only [kxa]
        rw [if_neg k1,if_neg k2,if_neg (by simpa using k3),e1,e2,Al rfl (by omega)]
        simp only [kxa]
        rw [Al rfl (by omega)]
        simp only [kxa]
        rw [hr N]
        simp only [kxa]
        rw [if_neg (fun q=>q z),Ef (by omega) (by omega) (by omega)]
        simp only [kxa,kya,kwc,kxf]
        rw [Al rfl (by omega)]
        simp only [kxa]
        rw [Nf rfl (by omega)]
        rfl
      · refine start (f := fun _ _ => some (0, r.2)) ⟨(0, r.2), fun _ _ _ => rfl⟩ fun N n => ?_
        rw [Z4v,if_pos (by omega),hg]
        simp only [kxa]
        rw [if_neg k1,if_neg k2,if_neg (by simpa using k3),e1,e2,Al rfl (by omega)]
        simp only [kxa]
        rw [Al rfl (by omega)]
        simp only [kxa]
        rw [hr N]
        simp only [kxa]
        rw [if_pos z]
theorem Jd2 {l:List api_Op} {nums:List Int} (h:Cg l (nums.length:Int)=true):∃ r,∀ N,50≤N→Z4s N l nums=some r:=by
  have h40:=Jbc h
  have hh:=h
  unfold Cg at hh
  simp only [kxc] at hh
  obtain ⟨⟨_,h2⟩,h3⟩:=hh
  have hq:∃ a b,hts (l.drop 0) ([]:List Int).length a=some (1,b):=by
    refine ⟨0,?_⟩
    rw [kxf,kzb]
    cases hc:hts l 0 0 with
    | none=>rw [hc] at h2;cases h2
    | some q =>
      rw [hc] at h2
      obtain ⟨a,b⟩:=q
      exact ⟨b,by rw [show a=1 by simpa using h2]⟩
  obtain ⟨r,hr⟩:=Jfb h40 h3 l.length 0 [] (by omega) (kxt _) hq
  refine ⟨r,fun N hN=>?_⟩
  unfold Z4s
  rw [Jz (by omega) (by omega),h]
  simp only [kxa,if_true]
  exact hr N N (by omega)
def Hb (l:List api_Op) (regs:List Int):Int×Bool:=if (l.length:Int)=0 then (0,true) else (((Z4s 50 l regs).getD (0,0)).1,decide (((Z4s 50 l regs).getD (0,0)).2=0))
theorem Jaj {N:Nat} (hN:50≤N) (t:leadlineref13_Thread) {l:List api_Op} (h:(l.length:Int)=0∨Cg l (t.Regs.length:Int)=true):Z7s N t l=some ((Hb l t.Regs).1,(Hb l t.Regs).2,t):=by
  unfold Z7s Hb
  by_cases z:(l.length:Int)=0
  · rw [if_pos z,if_pos z]
  · rw [if_neg z, if_neg z]
    obtain ⟨r,hr⟩:=Jd2 (h.resolve_left z)
    rw [hr N hN,hr 50 (kxb _)]
    rfl
end Go.MD.SWAPS
namespace Go.MD.SWAPS
open Go Go.MD Go.MD.SWAPS.R
open Go.IntKind (i64)
theorem JcI (n:Int) : -9223372036854775808≤i64.wrap n∧i64.wrap n≤9223372036854775807:=by rw [IntKind.wrap_i64];omega
def atK (L:List api_Instr) (k:Int) (j:Nat):Bool:=match L[j]? with | some x=>decide (x.Kind=k) | none=>false
def wOf (L:List api_Instr):SWM.W where
  n:=L.length
  isA:=atK L 14
  isC:=atK L 13
  rg j:=match L[j]? with | some x=>x.A.toNat | none=>0
  st j:=match L[j]? with | some x=>(x.To - 1).toNat | none=>0
theorem Mv {L:List api_Instr} {j:Nat} {x:api_Instr} (hx:L[j]? = some x):(wOf L).rg j=x.A.toNat:=by
  show (match L[j]? with | some x=>x.A.toNat | none=>0)=_
  rw [hx]
theorem Kh {L:List api_Instr} {j:Nat} {x:api_Instr} (hx:L[j]? = some x):(wOf L).st j=(x.To - 1).toNat:=by
  show (match L[j]? with | some x=>(x.To - 1).toNat | none=>0)=_
  rw [hx]
theorem Ht {L:List api_Instr} {k:Int} {j:Nat} (h:atK L k j=true):∃ x,L[j]? = some x∧x.Kind=k:=by
  unfold atK at h
  split at h
  · exact ⟨_,by assumption,of_decide_eq_true h⟩
  · cases h
theorem Jj {c:api_Code} {p4 p5 p6:Int} (h:Df c p4 p5 p6=true) {j:Nat} {x:api_Instr} (hx:c.L[j]? = some x):Ck x c.Regs c.Counts p4 p5 p6=true∧toB c.L j x=true:=by
  unfold Df at h
  rw [kxc,kxc] at h
  have hj:=(kxn.1 hx).1
  have h1:=kxp.1 h.2.1 j (by rw [← kzj];exact kzl.2 hj)
  unfold Uo at h1
  rw [hx] at h1
  simpa using h1
theorem Ut {c:api_Code} {p4 p5 p6:Int} (h:Df c p4 p5 p6=true) {j:Nat} {x:api_Instr} (hx:c.L[j]? = some x) (hk:x.Kind=13∨x.Kind=14):0≤x.A∧x.A < c.Counts:=by
  have h1:=(Jj h hx).1
  unfold Ck at h1
  simp only [kxc] at h1
  have h2:=h1.2.1
  unfold fA at h2
  rw [if_pos hk] at h2
  unfold inB at h2
  simpa using h2
theorem Io {c:api_Code} {p4 p5 p6:Int} (h:Df c p4 p5 p6=true) {j:Nat} {x:api_Instr} (hx:c.L[j]? = some x) (hk:x.Kind=14) :
    1≤x.To∧x.To≤(j:Int)∧(∃ y,c.L[(x.To - 1).toNat]? = some y∧y.Kind=13∧y.A=x.A)∧∀ q z,x.To.toNat≤q→q < j→c.L[q]? = some z→z.Kind=13→z.A≠x.A:=by
  have h1:=(Jj h hx).2
  unfold toB at h1
  rw [if_neg (by omega),if_pos hk] at h1
  by_cases hc:x.To < 1∨(j:Int) < x.To
  · rw [if_pos hc] at h1;cases h1
  rw [if_neg hc,kxc] at h1
  refine ⟨by omega,by omega,?_,fun q z h3 h4 hz hzk hA=>?_⟩
  · have h2 := h1.1
    split at h2
    · rename_i y hy
      simp only [kxc,decide_eq_true_eq] at h2
      exact ⟨y,hy,h2⟩
    · cases h2
  · have h2 := h1.2
    rw [kyc,kzz] at h2
    have hm:z∈(c.L.take j).drop x.To.toNat:=by
      refine kyk (i:=q - x.To.toNat) ?_
      rw [List.getElem?_drop,show x.To.toNat+(q - x.To.toNat)=q by omega,List.getElem?_take_of_lt h4,hz]
    refine h2 z hm ?_
    rw [decide_eq_true hzk,decide_eq_true hA];rfl
theorem Jff {c:api_Code} {p4 p5 p6:Int} (h:Df c p4 p5 p6=true) (h1:oneC c):(wOf c.L).Ok:=by
  refine ⟨fun j hj=>?_,fun j hj=>?_,fun j hj q hq hqj hc=>?_,fun i j hi hj hji=>?_,fun i j hi hj hij=>?_,fun j hj=>?_⟩
  · obtain ⟨x, hx, hk⟩ := Ht hj
    obtain ⟨a,b,_,_⟩:=Io h hx hk
    rw [Kh hx];omega
  · obtain ⟨x, hx, hk⟩ := Ht hj
    obtain ⟨a,b,⟨y,hy,hy1,hy2⟩,_⟩:=Io h hx hk
    rw [Kh hx,Mv hx,Mv hy,hy2]
    refine ⟨?_,rfl⟩
    show atK c.L 13 _=true
    unfold atK;rw [hy];exact decide_eq_true hy1
  · obtain ⟨x, hx, hk⟩ := Ht hj
    obtain ⟨z,hz,hzk⟩:=Ht hc
    obtain ⟨a,b,_,hno⟩:=Io h hx hk
    rw [Kh hx] at hq
    rw [Mv hz,Mv hx]
    intro e
    have h2:=Ut h hx (.inr hk)
    have h3:=Ut h hz (.inl hzk)
    exact hno q z (by omega) hqj hz hzk (by omega)
  · obtain ⟨x, hx, hk⟩ := Ht hi
    obtain ⟨y,hy,hyk⟩:=Ht hj
    obtain ⟨a,b,_,_⟩:=Io h hx hk
    obtain ⟨a2,b2,_,_⟩:=Io h hy hyk
    rw [Kh hx,Kh hy]
    have hl:=(kxn.1 hx).1
    unfold Df at h
    rw [kxc,kxc] at h
    have h3:=kxp.1 h.2.2 i (by rw [← kzj];exact kzl.2 hl)
    have e1:Ko c.L i=true:=by unfold Ko;rw [hx];exact decide_eq_true hk
    have e2:Ko c.L j=true:=by unfold Ko;rw [hy];exact decide_eq_true hyk
    unfold Jaw at h3
    rw [e1,kyl,kzk] at h3
    have h4:=kxp.1 h3 j (kwa.2 ⟨kzl.2 hji,e2⟩)
    unfold g14 at h4
    rw [hx,hy] at h4
    simp only [kyc,kwi,decide_eq_false_iff_not] at h4
    omega
  · obtain ⟨x, hx, hk⟩ := Ht hi
    obtain ⟨y,hy,hyk⟩:=Ht hj
    obtain ⟨a,b,_,_⟩:=Io h hx hk
    obtain ⟨a2,b2,_,_⟩:=Io h hy hyk
    rw [Kh hx,Kh hy]
    unfold oneC at h1
    rw [List.pairwise_iff_getElem] at h1
    obtain ⟨l1,g1⟩:=kxn.1 hx
    obtain ⟨l2,g2⟩:=kxn.1 hy
    have:x.To≠y.To:=by
      rcases Nat.lt_or_gt_of_ne hij with q | q
      · have := h1 i j l1 l2 q
        rw [g1,g2] at this
        exact this hk hyk
      · have := h1 j i l2 l1 q
        rw [g1,g2] at this
        exact (this hyk hk).symm
    omega
  · obtain ⟨x, hx, hk⟩ := Ht hj
    show atK c.L 13 j=false
    unfold atK;rw [hx];refine decide_eq_false ?_;omega
end Go.MD.SWAPS
namespace Go.MD.SWAPS
open Go Go.MD Go.MD.SWAPS.R
open Go.IntKind (i64)
structure TOk (p4 p5 p6:Int) (t:leadlineref13_Thread):Prop where
  code:Df t.C p4 p5 p6=true
  one:oneC t.C
  at0:0≤t.At
  at1:t.At≤(t.C.L.length:Int)
  regs:(t.Regs.length:Int)=t.C.Regs
  cnts:(t.Counts.length:Int)=t.C.Counts
  inb:SWM.InB t.Counts
  len:t.C.L.length≤80
def Stop (t:leadlineref13_Thread):Prop:=(t.Fault=0∧∀ x,t.C.L[t.At.toNat]? = some x→2≤x.Kind∧x.Kind≤10)∨((t.Fault=1∨t.Fault=2)∧t.At < (t.C.L.length:Int))
theorem N6 {l:List Int} {i r:Nat} {v:Int} (h:r≠i):(l.set i v).getD r 0=l.getD r 0:=by
  simp only [kwd]
  rw [kzs (Ne.symm h)]
theorem Tu {l:List Int} {i:Nat} {v:Int} (h:i < l.length):(l.set i v).getD i 0=v:=by
  simp [kwd,h]
theorem Le {l:List Int} {i:Nat} {v:Int} (h:SWM.InB l) (hv:v≤9223372036854775807):SWM.InB (l.set i v):=fun r=>by
  by_cases e:r=i
  · subst e
    by_cases z:r < l.length
    · rw [Tu z];exact hv
    · rw [List.set_eq_of_length_le (by omega)];exact h r
  · rw [N6 e];exact h r
theorem JcL {c:api_Code} {p4 p5 p6:Int} (h:Df c p4 p5 p6=true) {j:Nat} {x:api_Instr} (hx:c.L[j]? = some x):((x.E.length:Int)=0∨Cg x.E c.Regs=true)∧((x.F.length:Int)=0∨Cg x.F c.Regs=true):=by
  have h1:=(Jj h hx).1
  unfold Ck at h1
  simp only [kxc] at h1
  obtain ⟨_,_,_,h2,h3⟩:=h1
  unfold fE at h2
  unfold fF at h3
  refine ⟨?_,?_⟩
  · split at h2
    · exact .inr h2
    · exact .inl (of_decide_eq_true h2)
  · split at h3
    · exact .inr h3
    · exact .inl (of_decide_eq_true h3)
theorem Oo {c:api_Code} {p4 p5 p6:Int} (h:Df c p4 p5 p6=true) {j:Nat} {x:api_Instr} (hx:c.L[j]? = some x):1≤x.Kind∧x.Kind≤15:=by
  have h1:=(Jj h hx).1
  unfold Ck at h1
  simp only [kxc,decide_eq_true_eq] at h1
  exact h1.1
theorem JbZ {c:api_Code} {p4 p5 p6:Int} (h:Df c p4 p5 p6=true) {j:Nat} {x:api_Instr} (hx:c.L[j]? = some x) (hk:x.Kind=1∨x.Kind=2∨x.Kind=4):0≤x.A∧x.A < c.Regs:=by
  have h1:=(Jj h hx).1
  unfold Ck at h1
  simp only [kxc] at h1
  have h2:=h1.2.1
  unfold fA at h2
  rw [if_neg (by omega),if_pos hk] at h2
  unfold inB at h2
  simpa using h2
theorem Vl {c:api_Code} {p4 p5 p6:Int} (h:Df c p4 p5 p6=true) {j:Nat} {x:api_Instr} (hx:c.L[j]? = some x):(x.Kind=13→x.B≤9223372036854775807)∧((x.Kind=2∨x.Kind=3∨x.Kind=4)→0≤x.B∧x.B < p4)∧((x.Kind=5∨x.Kind=6)→0≤x.B∧x.B < p5)∧((x.Kind=9∨x.Kind=10)→0≤x.B∧x.B < p6):=by
  have h1:=(Jj h hx).1
  unfold Ck at h1
  simp only [kxc] at h1
  have h2:=h1.2.2.1
  unfold fB at h2
  refine ⟨fun k=>?_,fun k=>?_,fun k=>?_,fun k=>?_⟩
  · rw [if_neg (by omega), if_neg (by omega), if_neg (by omega)] at h2
    simp [k] at h2
    omega
  · rw [if_pos k] at h2;unfold inB at h2;simpa using h2
  · rw [if_neg (by omega),if_pos k] at h2;unfold inB at h2;simpa using h2
  · rw [if_neg (by omega),if_neg (by omega),if_pos k] at h2;unfold inB at h2;simpa using h2
theorem Jdp {c:api_Code} {p4 p5 p6:Int} (h:Df c p4 p5 p6=true) {j:Nat} {x:api_Instr} (hx:c.L[j]? = some x) (hk:x.Kind=11∨x.Kind=12):(j:Int) < x.To∧x.To≤(c.L.length:Int):=by
  have h1:=(Jj h hx).2
  unfold toB at h1
  rw [if_pos hk] at h1
  simpa using h1
structure OnR (p4 p5 p6:Int) (t r:leadlineref13_Thread):Prop where
  c:r.C=t.C
  b:r.B=t.B
  ok:TOk p4 p5 p6 r
  stop:Stop r
theorem JfL {p4 p5 p6:Int}:∀ (m:Nat) (t:leadlineref13_Thread),TOk p4 p5 p6 t→t.Fault=0→SWM.mu (wOf t.C.L) t.Counts t.At.toNat < m→
    ∃ r,(∀ b N n,50≤N→SWM.mu (wOf t.C.L) t.Counts t.At.toNat < n→Z7r N n t.C.Regs t.C.Counts t.C.L t.At t.Regs t.Counts b t.Fault=some { r with B:=b })∧OnR p4 p5 p6 t r:=by
  intro m
  induction m with
  | zero=>intro t _ _ h;exact absurd h (kzv _)
  | succ m ih =>
    intro t ok hf hm
    have hat0:=ok.at0
    have hat1:=ok.at1
    by_cases hlt:t.At < (t.C.L.length:Int)
    · have hj : t.At.toNat < t.C.L.length := by omega
      obtain ⟨x,hx⟩:∃ x,t.C.L[t.At.toNat]? = some x:=⟨_,kxq hj⟩
      have hgx:getI t.C.L t.At=some x:=by
        rw [show t.At=((t.At.toNat:Nat):Int) by omega,Gr];exact hx
      have W:=Jff ok.code ok.one
      have hE:=JcL ok.code hx
      rw [← ok.regs] at hE
      have hkd:=Oo ok.code hx
      generalize he:(Hb x.E t.Regs).1=e
      -- one step ahead
      have step:∀ (t2:leadlineref13_Thread),t2.C=t.C→t2.B=t.B→t2.Fault=t.Fault→TOk p4 p5 p6 t2→SWM.mu (wOf t.C.L) t2.Counts t2.At.toNat < SWM.mu (wOf t.C.L) t.Counts t.At.toNat→
          (∀ b N n,50≤N→Z7r N (n+1) t.C.Regs t.C.Counts t.C.L t.At t.Regs t.Counts b t.Fault=Z7r N n t2.C.Regs t2.C.Counts t2.C.L t2.At t2.Regs t2.Counts b t2.Fault)→
          ∃ r,(∀ b N n,50≤N→SWM.mu (wOf t.C.L) t.Counts t.At.toNat < n→Z7r N n t.C.Regs t.C.Counts t.C.L t.At t.Regs t.Counts b t.Fault=some { r with B:=b })∧OnR p4 p5 p6 t r:=by
        intro t2 c2 b2 f2 ok2 hmu heq
        obtain ⟨r,h1,h2⟩:=ih t2 ok2 (by rw [f2];exact hf) (by rw [c2];omega)
        refine ⟨r,fun b N n hN hn=>?_,⟨h2.c.trans c2,h2.b.trans b2,h2.ok,h2.stop⟩⟩
        obtain ⟨n,rfl⟩:∃ q,n=q+1:=⟨n - 1,by omega⟩
        rw [heq b N n hN]
        exact h1 b N n hN (by rw [c2];omega)
      have halt:∀ r,OnR p4 p5 p6 t r→(∀ b N n,50≤N→Z7r N (n+1) t.C.Regs t.C.Counts t.C.L t.At t.Regs t.Counts b t.Fault=some { r with B:=b })→
          ∃ r,(∀ b N n,50≤N→SWM.mu (wOf t.C.L) t.Counts t.At.toNat < n→Z7r N n t.C.Regs t.C.Counts t.C.L t.At t.Regs t.Counts b t.Fault=some { r with B:=b })∧OnR p4 p5 p6 t r:=by
        intro r h2 h1
        refine ⟨r,fun b N n hN hn=>?_,h2⟩
        obtain ⟨n,rfl⟩:∃ q,n=q+1:=⟨n - 1,by omega⟩
        exact h1 b N n hN
      have unf:∀ b N n,50≤N→Z7r N (n+1) t.C.Regs t.C.Counts t.C.L t.At t.Regs t.Counts b t.Fault =
          (if ((!(Hb x.E t.Regs).2) || (!(Hb x.F t.Regs).2))=true then some (leadlineref13_Thread.mk t.C t.At t.Regs t.Counts b 2)
          else if x.Kind=1 then (getI t.Regs x.A).bind fun x66=>(Kc t.Regs x.A e).bind fun l69=>(Z7q (Z7r N n) (0,true,{ t with B:=b })) l69 t.Counts (i64.wrap (t.At+1))
          else if ((decide (x.Kind=11)) || ((decide (x.Kind=12)) && (decide (e=0))))=true then (Z7q (Z7r N n) (0,true,{ t with B:=b })) t.Regs t.Counts x.To
          else if x.Kind=13 then (getI t.Counts x.A).bind fun x76=>(Kc t.Counts x.A x.B).bind fun l79=>(Z7q (Z7r N n) (0,true,{ t with B:=b })) t.Regs l79 (i64.wrap (t.At+1))
          else if x.Kind=14 then (getI t.Counts x.A).bind fun x85=>(Kc t.Counts x.A (i64.wrap (x85 - 1))).bind fun l92=>(getI l92 x.A).bind fun x97=>
              if 0 < x97 then (Z7q (Z7r N n) (0,true,{ t with B:=b })) t.Regs l92 x.To else (Z7q (Z7r N n) (0,true,{ t with B:=b })) t.Regs l92 (i64.wrap (t.At+1))
          else if ((decide (x.Kind=15)) && (decide (e=0)))=true then some (leadlineref13_Thread.mk t.C t.At t.Regs t.Counts b 1)
          else if ((decide (x.Kind≠12)) && (decide (x.Kind≠15)))=true then some { t with B:=b }
          else (Z7q (Z7r N n) (0,true,{ t with B:=b })) t.Regs t.Counts (i64.wrap (t.At+1))):=by
        intro b N n hN
        rw [Z7r,if_pos hlt,hgx]
        simp only [kxa]
        rw [Jaj hN (leadlineref13_Thread.mk (api_Code.mk t.C.Regs t.C.Counts t.C.L) t.At t.Regs t.Counts b t.Fault) hE.1]
        simp only [kxa]
        rw [Jaj hN (leadlineref13_Thread.mk (api_Code.mk t.C.Regs t.C.Counts t.C.L) t.At t.Regs t.Counts b t.Fault) hE.2]
        simp only [kxa]
        subst he
        rfl
      have j2:∀ {N n:Nat} {d:Option Addr} (a b:List Int) (q:Int),Z7q (Z7r N n) (0,true,{ t with B:=d }) a b q=Z7r N n t.C.Regs t.C.Counts t.C.L q a b d t.Fault:=fun a b q=>rfl
      have hlen:=ok.len
      have hw:i64.wrap (t.At+1)=t.At+1:=w64 (by omega) (by omega)
      have hn1:(t.At+1).toNat≤t.C.L.length:=by omega
      by_cases hv:((!(Hb x.E t.Regs).2) || (!(Hb x.F t.Regs).2))=true
      · exact halt (leadlineref13_Thread.mk t.C t.At t.Regs t.Counts t.B 2) ⟨rfl,rfl,⟨ok.code,ok.one,ok.at0,ok.at1,ok.regs,ok.cnts,ok.inb,ok.len⟩,.inr ⟨.inr rfl,hlt⟩⟩ (fun b N n hN=>by rw [unf b N n hN,if_pos hv])
      replace unf:=fun b N n hN=>(unf b N n hN).trans (if_neg hv)
      -- on to the next one
      have next:(∀ b N n,50≤N→Z7r N (n+1) t.C.Regs t.C.Counts t.C.L t.At t.Regs t.Counts b t.Fault=(Z7q (Z7r N n) (0,true,{ t with B:=b })) t.Regs t.Counts (i64.wrap (t.At+1)))→
          ∃ r,(∀ b N n,50≤N→SWM.mu (wOf t.C.L) t.Counts t.At.toNat < n→Z7r N n t.C.Regs t.C.Counts t.C.L t.At t.Regs t.Counts b t.Fault=some { r with B:=b })∧OnR p4 p5 p6 t r:=fun h=>
        step (leadlineref13_Thread.mk t.C (t.At+1) t.Regs t.Counts t.B t.Fault) rfl rfl rfl ⟨ok.code,ok.one,by show (0:Int)≤t.At+1;omega,by show t.At+1≤(t.C.L.length:Int);omega,ok.regs,ok.cnts,ok.inb,ok.len⟩
          (SWM.mu_fwd W (by show t.At.toNat < (t.At+1).toNat;omega) hn1 ok.inb (fun _ _=>rfl) (.inl rfl)) (fun b N n hN=>by rw [h b N n hN,j2,hw];try rfl)
      by_cases k1:x.Kind=1
      · have hA := JbZ ok.code hx (.inl k1)
        have hAl:x.A.toNat < t.Regs.length:=by have:=ok.regs;omega
        refine step (leadlineref13_Thread.mk t.C (t.At+1) (t.Regs.set x.A.toNat e) t.Counts t.B t.Fault) rfl rfl rfl ⟨ok.code,ok.one,by show (0:Int)≤t.At+1;omega,by show t.At+1≤(t.C.L.length:Int);omega,by show (((t.Regs.set x.A.toNat e).length:Nat):Int)=_;rw [kxr];exact ok.regs,ok.cnts,ok.inb,ok.len⟩
          (SWM.mu_fwd W (by show t.At.toNat < (t.At+1).toNat;omega) hn1 ok.inb (fun _ _=>rfl) (.inl rfl)) (fun b N n hN=>?_)
        rw [unf b N n hN,if_pos k1,Al (j:=x.A.toNat) (by omega) hAl]
        simp only [kxa]
        rw [Nf (j:=x.A.toNat) (by omega) hAl]
        simp only [kxa]
        rw [j2,hw]
        try rfl
      replace unf:=fun b N n hN=>(unf b N n hN).trans (if_neg k1)
      by_cases k2:((decide (x.Kind=11)) || ((decide (x.Kind=12)) && (decide (e=0))))=true
      · have hk:x.Kind=11∨x.Kind=12:=by
          simp only [kyb,kxc,decide_eq_true_eq] at k2
          rcases k2 with k | k
          · exact .inl k
          · exact .inr k.1
        have ht:=Jdp ok.code hx hk
        refine step (leadlineref13_Thread.mk t.C x.To t.Regs t.Counts t.B t.Fault) rfl rfl rfl ⟨ok.code,ok.one,by show (0:Int)≤x.To;omega,ht.2,ok.regs,ok.cnts,ok.inb,ok.len⟩
          (SWM.mu_fwd W (by show t.At.toNat < x.To.toNat;omega) (by show x.To.toNat≤t.C.L.length;omega) ok.inb (fun _ _=>rfl) (.inl rfl)) (fun b N n hN=>?_)
        rw [unf b N n hN,if_pos k2,j2]
        try rfl
      replace unf:=fun b N n hN=>(unf b N n hN).trans (if_neg k2)
      by_cases k3:x.Kind=13
      · have hA := Ut ok.code hx (.inl k3)
        have hAl:x.A.toNat < t.Counts.length:=by have:=ok.cnts;omega
        have hB:=(Vl ok.code hx).1 k3
        refine step (leadlineref13_Thread.mk t.C (t.At+1) t.Regs (t.Counts.set x.A.toNat x.B) t.B t.Fault) rfl rfl rfl ⟨ok.code,ok.one,by show (0:Int)≤t.At+1;omega,by show t.At+1≤(t.C.L.length:Int);omega,ok.regs,by show (((t.Counts.set x.A.toNat x.B).length:Nat):Int)=_;rw [kxr];exact ok.cnts,Le ok.inb hB,ok.len⟩
          (SWM.mu_fwd W (by show t.At.toNat < (t.At+1).toNat;omega) hn1 (Le ok.inb hB) (fun r hr=>N6 (by rw [Mv hx] at hr;exact hr)) (.inr (.inl (by show atK t.C.L 13 _=true;unfold atK;rw [hx];exact decide_eq_true k3)))) (fun b N n hN=>?_)
        rw [unf b N n hN,if_pos k3,Al (j:=x.A.toNat) (by omega) hAl]
        simp only [kxa]
        rw [Nf (j:=x.A.toNat) (by omega) hAl]
        simp only [kxa]
        rw [j2,hw]
        try rfl
      replace unf:=fun b N n hN=>(unf b N n hN).trans (if_neg k3)
      by_cases k4:x.Kind=14
      · have hA := Ut ok.code hx (.inr k4)
        have hAl:x.A.toNat < t.Counts.length:=by have:=ok.cnts;omega
        obtain ⟨t1,t2,⟨y,hy,_,_⟩,_⟩:=Io ok.code hx k4
        have hisA:(wOf t.C.L).isA t.At.toNat=true:=by show atK t.C.L 14 _=true;unfold atK;rw [hx];exact decide_eq_true k4
        generalize hc:t.Counts[x.A.toNat]=cnt at unf
        have hcd:t.Counts.getD x.A.toNat 0=cnt:=by rw [kwd,kxq hAl,hc];rfl
        have hcb:=ok.inb x.A.toNat
        rw [hcd] at hcb
        have hwr:=JcI (cnt - 1)
        generalize hw1:i64.wrap (cnt - 1)=c1 at hwr
        have u:∀ b N n,50≤N→Z7r N (n+1) t.C.Regs t.C.Counts t.C.L t.At t.Regs t.Counts b t.Fault =
            if 0 < c1 then Z7r N n t.C.Regs t.C.Counts t.C.L x.To t.Regs (t.Counts.set x.A.toNat c1) b t.Fault else Z7r N n t.C.Regs t.C.Counts t.C.L (t.At+1) t.Regs (t.Counts.set x.A.toNat c1) b t.Fault:=fun b N n hN=>by
          rw [unf b N n hN,if_pos k4,Al (j:=x.A.toNat) (by omega) hAl,hc]
          simp only [kxa]
          rw [hw1,Nf (j:=x.A.toNat) (by omega) hAl]
          simp only [kxa]
          rw [Al (j:=x.A.toNat) (by omega) (by rw [kxr];exact hAl),List.getElem_set_self]
          simp only [kxa]
          rw [j2,j2,hw]
        have hcs:∀ r,r≠(wOf t.C.L).rg t.At.toNat→(t.Counts.set x.A.toNat c1).getD r 0=t.Counts.getD r 0:=fun r hr=>N6 (by rw [Mv hx] at hr;exact hr)
        by_cases hp:0 < c1
        · refine step (leadlineref13_Thread.mk t.C x.To t.Regs (t.Counts.set x.A.toNat c1) t.B t.Fault) rfl rfl rfl ⟨ok.code, ok.one, by show (0 : Int) ≤ x.To; omega, by show x.To ≤ (t.C.L.length : Int); omega, ok.regs, by show (((t.Counts.set x.A.toNat c1).length : Nat) : Int) = _; rw [kxr]; exact ok.cnts, Le ok.inb hwr.2, ok.len⟩ ?_ (fun b N n hN => ?_)
          · have h:=SWM.mu_back W (cs:=t.Counts) (cs':=t.Counts.set x.A.toNat c1) hisA hj (Le ok.inb hwr.2) hcs (by
              rw [Mv hx,Tu hAl,hcd]
              unfold SWM.v
              rw [if_pos hp]
              split
              · rename_i z
                rw [w64 (by omega) (by omega)] at hw1
                omega
              · omega)
            rw [Kh hx,show (x.To - 1).toNat+1=x.To.toNat by omega] at h
            exact h
          · rw [u b N n hN, if_pos hp]
            try rfl
        · refine step (leadlineref13_Thread.mk t.C (t.At+1) t.Regs (t.Counts.set x.A.toNat c1) t.B t.Fault) rfl rfl rfl ⟨ok.code,ok.one,by show (0:Int)≤t.At+1;omega,by show t.At+1≤(t.C.L.length:Int);omega,ok.regs,by show (((t.Counts.set x.A.toNat c1).length:Nat):Int)=_;rw [kxr];exact ok.cnts,Le ok.inb hwr.2,ok.len⟩
            (SWM.mu_fwd W (by show t.At.toNat < (t.At+1).toNat;omega) hn1 (Le ok.inb hwr.2) hcs (.inr (.inr ⟨hisA,by show (t.At+1).toNat=_;omega⟩))) (fun b N n hN=>?_)
          rw [u b N n hN,if_neg hp]
          try rfl
      replace unf:=fun b N n hN=>(unf b N n hN).trans (if_neg k4)
      by_cases k5:((decide (x.Kind=15)) && (decide (e=0)))=true
      · exact halt (leadlineref13_Thread.mk t.C t.At t.Regs t.Counts t.B 1) ⟨rfl,rfl,⟨ok.code,ok.one,ok.at0,ok.at1,ok.regs,ok.cnts,ok.inb,ok.len⟩,.inr ⟨.inl rfl,hlt⟩⟩ (fun b N n hN=>by rw [unf b N n hN,if_pos k5])
      replace unf:=fun b N n hN=>(unf b N n hN).trans (if_neg k5)
      by_cases k6:((decide (x.Kind≠12)) && (decide (x.Kind≠15)))=true
      · refine halt t ⟨rfl, rfl, ok, .inl ⟨hf, fun y hy => ?_⟩⟩ (fun b N n hN => by rw [unf b N n hN, if_pos k6])
        rw [hx] at hy
        obtain rfl:=kyh hy
        simp only [kyb,kxc,decide_eq_true_eq,not_or,ne_eq] at k2 k6
        omega
      · exact next fun b N n hN=>by rw [unf b N n hN,if_neg k6]
    · refine ⟨t, fun b N n hN hn => ?_, ⟨rfl, rfl, ok, .inl ⟨hf, fun x hx => ?_⟩⟩⟩
      · obtain ⟨n, rfl⟩ : ∃ q, n = q + 1 := ⟨n - 1, by omega⟩
        rw [Z7r,if_neg hlt]
      · have := (kxn.1 hx).1
        omega
theorem JfG {p4 p5 p6:Int} {t:leadlineref13_Thread} (ok:TOk p4 p5 p6 t) (hf:t.Fault=0):∃ r B,(∀ b N,B≤N→Z7p N { t with B:=b }=some { r with B:=b })∧OnR p4 p5 p6 t r:=by
  obtain ⟨r,h1,h2⟩:=JfL (SWM.mu (wOf t.C.L) t.Counts t.At.toNat+1) t ok hf (by omega)
  exact ⟨r,50+SWM.mu (wOf t.C.L) t.Counts t.At.toNat+1,fun b N hN=>by unfold Z7p;exact h1 b N N (by omega) (by omega),h2⟩
end Go.MD.SWAPS
namespace Go.LL
open Go
structure MS where
  of:List Int
  firsts:List Int
  l:List Int
  kept:List Int
  pend:Int→List (Int×Int)
def Dh (last:Int) (first:Bool):List Int→Bool
  | []=>true
  | n :: r=>(decide (n=last+1) || (!first && decide (n=last))) && Dh n false r
def nlines (m:MS):Nat:=match m.of.getLast? with | some n=>(n+1).toNat | none=>0
theorem Qf {l:List Int}:∀ {last:Int} {b:Bool},Dh last b l=true→∀ n∈l,(last≤n∧(b=true→last+1≤n))∧n≤last+l.length:=by
  induction l with
  | nil=>intro _ _ _ n hn;cases hn
  | cons x r ih =>
    intro last b h n hn
    simp only [Dh,kxc,kyb,decide_eq_true_eq,Bool.not_eq_eq_eq_not,kyl] at h
    obtain ⟨h1,h2⟩:=h
    have hx:last≤x∧(b=true→last+1≤x)∧x≤last+1:=by
      rcases h1 with h1 | ⟨h1,h3⟩
      · omega
      · subst h1;subst h3;simp;omega
    rcases kxg.1 hn with rfl | hn
    · simp only [kxz]
      exact ⟨⟨hx.1,hx.2.1⟩,by push_cast;omega⟩
    · have := ih h2 n hn
      simp only [kxz]
      refine ⟨⟨by omega,fun hb=>by have:=hx.2.1 hb;omega⟩,by push_cast;omega⟩
structure MInv (m:MS):Prop where
  chk:Dh (-1) true m.of=true
  len1:m.kept.length=m.of.length
  len2:m.l.length=m.firsts.length
  len3:m.of.length≤m.firsts.length
  len4:m.firsts.length≤20
  pend:∀ k x,x∈m.pend k→0≤x.1∧x.1 < m.kept.length
  few:∀ k,(m.pend k).length≤1000000
theorem MInv.ofB {m:MS} (h:MInv m) {n:Int} (hn:n∈m.of):0≤n∧n < 20:=by
  have:=Qf h.chk n hn
  have h1:=this.1.2 rfl
  have:=h.len3;have:=h.len4
  omega
theorem MInv.last {m:MS} (h:MInv m) (hk:0 < m.of.length):(nlines m:Int)=m.of[m.of.length - 1]+1:=by
  have h1:=h.ofB (kxj (show m.of.length - 1 < m.of.length by omega))
  unfold nlines
  rw [List.getLast?_eq_getElem?,kxq (by omega)]
  simp only []
  omega
theorem MInv.nl {m:MS} (h:MInv m):nlines m≤20:=by
  by_cases hk:0 < m.of.length
  · have := h.last hk
    have h1:=h.ofB (kxj (show m.of.length - 1 < m.of.length by omega))
    omega
  · have : m.of = [] := kza (by omega)
    simp [nlines,this]
def Me (m:MS) (k:Nat):List Int:=(List.range k).map fun i:Nat=>((m.pend (i:Int)).length:Int)
theorem Tp (m:MS) (k:Nat):(Me m k).length=k:=by simp [Me]
def Db (ws:List (Int×Int)) (l:List Int):List Int:=ws.foldl (fun l x=>l.set x.1.toNat x.2) l
theorem Rb (ws:List (Int×Int)) (l:List Int):(Db ws l).length=l.length:=by
  induction ws generalizing l with
  | nil=>rfl
  | cons x r ih=>show (Db r _).length=_;rw [ih];simp
theorem Cu {l:List Int} {k:Nat} (h:k < l.length):l.getD k 0=l[k]:=by simp [List.getD,h]
theorem SlOk.cap {e:TypeId} {sz:Nat} {oa:Option Addr} {n cap:Nat} {xs:List Value} {h:PH} (ho:SlOk e sz (.slice oa n cap) n xs h):n≤cap:=by
  obtain ⟨_,hn | ⟨g,cap',cur,hv,_,hnc,_⟩⟩:=ho
  · omega
  · simp only [Value.slice.injEq] at hv;omega
section
variable {ops:Array Oper} {Q:Exit→Act→World→Prop} {a:Act} {w:World} {N:FN} {F:List (Nat×Value)}
  {w0:World} {M:Nat→Prop} {Hs:List PH} {L L':List HA} {K:Act→World→Prop}
  {d:Nat} {ty:TypeId} {pos:String} {af:Array Edge}
end
def Be (m:MS) (cell n:Int):MS:=
  if 0≤cell∧cell < m.l.length then
    { m with l:=m.l.set cell.toNat n,pend:=fun k=>if cell < m.of.length∧k=m.of.getD cell.toNat 0 then m.pend k ++ [(cell,n)] else m.pend k }
  else m
def Eb (m:MS) (line:Int):MS:=
  if 0≤line∧line < nlines m then { m with kept:=Db (m.pend line) m.kept,pend:=fun k=>if k=line then [] else m.pend k } else m
theorem MInv.write {m:MS} (h:MInv m) {cell n:Int} (hf:∀ k,(m.pend k).length < 1000000):MInv (Be m cell n):=by
  unfold Be
  split
  · rename_i hc
    refine ⟨h.chk,h.len1,by simpa using h.len2,h.len3,h.len4,fun k x hx=>?_,fun k=>?_⟩
    · simp only at hx
      split at hx
      · rename_i h2
        rcases kxi.1 hx with hx | hx
        · exact h.pend k x hx
        · simp at hx;subst hx;have:=h.len1;simp only;omega
      · exact h.pend k x hx
    · simp only
      split
      · have:=hf k;simp;omega
      · exact h.few k
  · exact h
theorem MInv.out {m:MS} (h:MInv m) {line:Int}:MInv (Eb m line):=by
  unfold Eb
  split
  · refine ⟨h.chk, by simpa [Rb] using h.len1, h.len2, h.len3, h.len4, fun k x hx => ?_, fun k => ?_⟩
    · simp only at hx
      split at hx
      · cases hx
      · simpa [Rb] using h.pend k x hx
    · simp only
      split
      · simp
      · exact h.few k
  · exact h
end Go.LL
namespace Go.LL
open Go
theorem Nj (l m:List Int):∀ (last:Int) (b:Bool),Dh last b (l ++ m)=(Dh last b l && Dh (l.getLastD last) (b && l.isEmpty) m):=by
  induction l with
  | nil=>intro last b;simp [Dh]
  | cons x r ih =>
    intro last b
    simp only [kzx,Dh,ih,List.getLastD_cons,List.isEmpty_cons,kwe,Bool.false_and,Bool.and_assoc]
def Gl (l:List Int) (k:Nat):Int:=(l.take k).getLastD (-1)
theorem Jay {l:List Int} {i j:Nat} (hij:i≤j) (h:Dh (-1) true (l.take j)=true):Dh (-1) true (l.take i)=true:=by
  have:l.take j=l.take i ++ (l.take j).drop i:=by
    conv=>lhs;rw [← kys i (l.take j)]
    rw [List.take_take,kwf hij]
  rw [this,Nj] at h
  exact (kxc _ _ ▸ h).1
theorem Yh {l:List Int} {k:Nat} (hk:k < l.length):Dh (-1) true (l.take (k+1))=(Dh (-1) true (l.take k) && (decide (l[k]=Gl l k+1) || (!decide (k=0) && decide (l[k]=Gl l k)))):=by
  rw [kyi hk,Nj]
  have:(l.take k).isEmpty=decide (k=0):=by
    cases l with
    | nil=>simp at hk
    | cons x r=>cases k <;> simp
  simp only [Dh,kyy,kyf,this,Gl]
  rfl
theorem Wa {l:List Int} {k:Nat} (hk:k < l.length):Gl l (k+1)=l[k]:=by
  unfold Gl
  rw [kyi hk,List.getLastD_eq_getLast?,List.getLast?_concat]
  rfl
theorem JbD {l:List Int} {k:Nat} (h:Dh (-1) true (l.take k)=true) : -1≤Gl l k∧Gl l k≤k:=by
  unfold Gl
  rw [List.getLastD_eq_getLast?]
  cases hx:(l.take k).getLast? with
  | none=>simp only [Option.getD_none];omega
  | some x =>
    have:=Qf h x (List.mem_of_getLast? hx)
    have h2:(l.take k).length≤k:=by simp;omega
    simp only [kzr]
    omega
def Vw (of:List Int) (stays:Int) (firsts:List Int):Prop:=of.length=firsts.length∧of.length≤20∧0≤stays∧stays≤of.length∧Dh (-1) true (of.take stays.toNat)=true
def Si (of:List Int) (stays:Int) (firsts:List Int):MS:={ of:=of.take stays.toNat,firsts:=firsts,l:=firsts,kept:=firsts.take stays.toNat,pend:=fun _=>[] }
theorem MInv.new {of firsts:List Int} {stays:Int} (h:Vw of stays firsts):MInv (Si of stays firsts):=by
  obtain ⟨h1,h2,h3,h4,h5⟩:=h
  refine ⟨h5,?_,rfl,?_,by simp only [Si];omega,fun k x hx=>by simp [Si] at hx,fun k=>by simp [Si]⟩
  · simp [Si];omega
  · simp [Si];omega
theorem Fresh.cut2 {w0 w:World} {A B:HA} {L:List HA} (h:Fresh w0 (sepA (A :: B :: L)) w):Fresh w0 (sepA [sepA [A,B],sepA L]) w:=by
  obtain ⟨h1,h2,h3⟩:=h
  obtain ⟨h4,h5⟩:=Bz.1 h2
  obtain ⟨h6,h7⟩:=kxy.1 h5
  obtain ⟨h8,h9⟩:=kxy.1 h7
  refine ⟨h1,⟨?_,?_⟩,?_⟩
  · intro X hX
    simp only [kxg,kxu,or_false] at hX
    rcases hX with rfl | rfl
    · exact ⟨fun Y hY=>h4 Y (by simp only [kxg,kxu,or_false] at hY;rcases hY with rfl | rfl;exact .head _;exact .tail _ (.head _)),kxy.2 ⟨fun Y hY=>by simp only [kxg,kxu,or_false] at hY;subst hY;exact h6 _ (.head _),kxy.2 ⟨fun Y hY=>(nomatch hY),.nil⟩⟩⟩
    · exact ⟨fun Y hY=>h4 Y (.tail _ (.tail _ hY)),h9⟩
  · refine kxy.2 ⟨fun Y hY => ?_, kxy.2 ⟨fun Y hY => (nomatch hY), .nil⟩⟩
    simp only [kxg,kxu,or_false] at hY
    subst hY
    rintro b ⟨X,hX,hb⟩ ⟨Z,hZ,hb2⟩
    simp only [kxg,kxu,or_false] at hX
    rcases hX with rfl | rfl
    · exact h6 Z (.tail _ hZ) b hb hb2
    · exact h8 Z hZ b hb hb2
  · rintro b ⟨X, hX, hb⟩
    simp only [kxg,kxu,or_false] at hX
    rcases hX with rfl | rfl
    · obtain ⟨Y, hY, hb⟩ := hb
      refine h3 b ⟨Y,?_,hb⟩
      simp only [kxg,kxu,or_false] at hY
      rcases hY with rfl | rfl
      · exact .head _
      · exact .tail _ (.head _)
    · obtain ⟨Y, hY, hb⟩ := hb
      exact h3 b ⟨Y,.tail _ (.tail _ hY),hb⟩
end Go.LL
namespace Go.MD.SWAPS
open Go Go.MD Go.LL
abbrev Rm:=leadlineref11_Mem
abbrev Rp:=leadlineref11_Put
def wr (w:Rp):Int×Int:=(w.Cell,w.N)
def onL (W:List Rp) (j:Int):List (Int×Int):=(W.filter fun w=>decide (w.Line=j)).map wr
theorem Va (V W:List Rp) (j:Int):onL (V ++ W) j=onL V j ++ onL W j:=by simp [onL]
theorem Uh (w:Rp) (j:Int):onL [w] j=if w.Line=j then [wr w] else []:=by
  unfold onL
  by_cases h:w.Line=j
  · rw [if_pos h,List.filter_cons_of_pos (by simpa using h)];rfl
  · rw [if_neg h,List.filter_cons_of_neg (by simpa using h)];rfl
theorem JaM (W:List Rp) (j:Int):(onL W j).length≤W.length:=by
  unfold onL;rw [kxx];exact kwm _ _
structure Sim (m:MS) (k:Rm):Prop where
  of:k.Of=m.of
  firsts:k.Firsts=m.firsts
  l:k.L=m.l
  kept:k.K=m.kept
  pend:∀ j,m.pend j=onL k.W j
  own:∀ w∈k.W,0≤w.Cell∧w.Cell.toNat < m.of.length∧m.of.getD w.Cell.toNat 0=w.Line
variable {N:Nat} {m:MS} {k:Rm}
theorem Wi:∀ {l:List Int} {last:Int} {b:Bool},Dh last b l=true→∀ n∈l,n≤(l.getLast?).getD 0
  | [],_,_,_,n,hn=>nomatch hn
  | x :: r, last, b, h, n, hn => by
    simp only [Dh,kxc] at h
    rcases kxg.1 hn with rfl | hn
    · cases hr : r.getLast? with
      | none =>
        have:r=[]:=by simpa using hr
        subst this;simp
      | some y =>
        have hy:=List.mem_of_getLast? hr
        have:=(Qf h.2 y hy).1.1
        rw [List.getLast?_cons,hr];exact this
    · have hne : r ≠ [] := fun e => by subst e; cases hn
      have:=Wi h.2 n hn
      rw [List.getLast?_cons]
      obtain ⟨y,hy⟩:∃ y,r.getLast? = some y:=by
        cases hr:r.getLast? with
        | none=>exact absurd (by simpa using hr) hne
        | some y=>exact ⟨y,rfl⟩
      rw [hy] at this ⊢;exact this
theorem JgS (hi:MInv m) {n:Int} (hn:n∈m.of):0≤n∧n < (nlines m:Int):=by
  have h1:=hi.ofB hn
  have h2:=Wi hi.chk n hn
  refine ⟨h1.1,?_⟩
  unfold nlines
  cases hl:m.of.getLast? with
  | none =>
    have:m.of=[]:=by simpa using hl
    rw [this] at hn;cases hn
  | some y =>
    rw [hl] at h2
    simp only [kzr] at h2
    simp only;omega
theorem Jck {l:List Int} {i:Nat} (h:i < l.length):l.getD i 0∈l:=by rw [Cu h];exact kxj h
theorem JdJ (hi:MInv m) (hs:Sim m k) {w:Rp} (hw:w∈k.W):0≤w.Line∧w.Line < (nlines m:Int):=by
  obtain ⟨_,h2,h3⟩:=hs.own w hw
  rw [← h3];exact JgS hi (Jck h2)
theorem Jdc (hi:MInv m) (hs:Sim m k):Z6r N k=some ((nlines m:Int),k):=by
  unfold Z6r
  rw [hs.of]
  by_cases h:m.of.length=0
  · rw [if_pos (by omega)]
    have:m.of=[]:=kwh.1 h
    unfold nlines
    rw [this];rfl
  · have hl := hi.last (by omega)
    have h20:=hi.nl
    have h3:=hi.len3;have h4:=hi.len4
    rw [if_neg (by omega),w64 (by omega) (by omega),Al (j:=m.of.length - 1) (by omega) (by omega)]
    simp only [kxa]
    rw [← hl,w64 (by omega) (by omega)]
theorem JaH {l:List Int} {i:Int} {j:Nat} (h:i=(j:Int)) (hj:j < l.length) (v:Int):Kc l i v=some (l.set j v):=by
  subst h;unfold Kc;rw [if_pos ⟨by omega,by simpa using hj⟩];simp
theorem JcB (hi:MInv m) (hs:Sim m k) (hf:k.W.length≤1000) (cell n:Int):∃ k',Z6x N k cell n=some (if 0≤cell∧cell < (m.l.length:Int) then 0 else 1,k')∧Sim (Be m cell n) k'∧k'.W.length≤k.W.length+1:=by
  unfold Z6x Be
  rw [hs.l]
  by_cases h:0≤cell∧cell < (m.l.length:Int)
  · obtain ⟨j, rfl⟩ : ∃ j : Nat, cell = (j : Int) := ⟨cell.toNat, by omega⟩
    rw [if_neg (by simp;omega),if_pos h,if_pos h,Al rfl (by omega),JaH rfl (by omega)]
    simp only [kxa,kya]
    rw [hs.of]
    by_cases h2:(j:Int) < (m.of.length:Int)
    · have hj : j < m.of.length := by omega
      rw [if_pos h2,Al rfl hj]
      simp only [kxa]
      rw [Ax (by simp;omega) (by decide)]
      simp only [kxa]
      refine ⟨_,rfl,⟨hs.of,hs.firsts,rfl,hs.kept,fun q=>?_,fun w hw=>?_⟩,by simp⟩
      · show (if (j : Int) < (m.of.length : Int) ∧ q = m.of.getD j 0 then m.pend q ++ [((j : Int), n)] else m.pend q) = onL (k.W ++ [_]) q
        rw [Va,Uh,hs.pend q,Cu hj]
        by_cases e:q=m.of[j]
        · rw [if_pos ⟨h2,e⟩,if_pos e.symm];rfl
        · rw [if_neg (fun z=>e z.2),if_neg (fun z=>e z.symm),kze]
      · rcases kxi.1 hw with hw | hw
        · exact hs.own w hw
        · rw [kxo] at hw; subst hw
          exact ⟨by show (0:Int)≤(j:Int);omega,by simpa using hj,by show m.of.getD (j:Int).toNat 0=m.of[j];rw [kya,Cu hj]⟩
    · rw [if_neg h2]
      refine ⟨_,rfl,⟨hs.of,hs.firsts,rfl,hs.kept,fun q=>?_,hs.own⟩,by simp [Z6y]⟩
      show (if (j:Int) < (m.of.length:Int)∧q=m.of.getD j 0 then m.pend q ++ [((j:Int),n)] else m.pend q)=onL k.W q
      rw [if_neg (fun z=>h2 z.1),hs.pend q]
  · rw [if_pos (by simp; omega), if_neg h, if_neg h]
    exact ⟨k,rfl,hs,by omega⟩
theorem Jfv (hi:MInv m) {W:List Rp} {line:Int} (hW:W.length≤1000) (ho:∀ w∈W,0≤w.Cell∧w.Cell.toNat < m.kept.length) {kk:List Int→List Rp→Option (Int×Rm)}:∀ (d j n:Nat) (K:List Int),j+d=W.length→d < n→K.length=m.kept.length→
    Z6w N kk line W n K ((W.take j).filter fun w=>!decide (w.Line=line)) (j:Int)=kk (Db (onL (W.drop j) line) K) (W.filter fun w=>!decide (w.Line=line)):=by
  intro d
  induction d with
  | zero =>
    intro j n K hj hn hK
    obtain ⟨n,rfl⟩:∃ q,n=q+1:=⟨n - 1,by omega⟩
    rw [Z6w,if_neg (by omega),kxh (by omega),kzp (by omega)]
    rfl
  | succ d ih =>
    intro j n K hj hn hK
    obtain ⟨n,rfl⟩:∃ q,n=q+1:=⟨n - 1,by omega⟩
    have h1:j < W.length:=by omega
    obtain ⟨o1,o2⟩:=ho _ (kxj h1)
    have hd:onL (W.drop j) line=onL [W[j]] line ++ onL (W.drop (j+1)) line:=by rw [← Va,List.singleton_append,← kxe h1]
    have ht:((W.take (j+1)).filter fun w=>!decide (w.Line=line))=((W.take j).filter fun w=>!decide (w.Line=line)) ++ ([W[j]].filter fun w=>!decide (w.Line=line)):=by
      rw [kyi h1,List.filter_append]
    rw [Z6w,if_pos (by omega),Al rfl h1]
    simp only [kxa]
    rw [hd,Uh]
    by_cases e:W[j].Line=line
    · rw [if_pos e, if_pos e, Al (j := W[j].Cell.toNat) (by omega) (by omega)]
      simp only [kxa]
      rw [JaH (j:=W[j].Cell.toNat) (by omega) (by omega)]
      simp only [kxa]
      rw [Z6v,Bf h1 (by omega)]
      have:=ih (j+1) n (K.set W[j].Cell.toNat W[j].N) (by omega) (by omega) (by rw [kxr];exact hK)
      rw [ht,List.filter_cons_of_neg (by simp [e])] at this
      simp only [List.filter_nil,kze] at this
      rw [this];rfl
    · rw [if_neg e, if_neg e, Ax (kwb (Nat.add_le_add_right (kwb (kwm _ _) (by rw [kyg]; exact Nat.min_le_right _ _)) _) (by simp only [kxm]; omega)) (by decide)]
      simp only [kxa]
      rw [Z6v,Bf h1 (by omega)]
      have:=ih (j+1) n K (by omega) (by omega) hK
      rw [ht,List.filter_cons_of_pos (by simp [e])] at this
      simp only [List.filter_nil] at this
      rw [this];rfl
theorem JeS (hi:MInv m) (hs:Sim m k) (hf:k.W.length≤1000) (hN:1000 < N) (line:Int):∃ k',Z6s N k line=some (if 0≤line∧line < (nlines m:Int) then 0 else 1,k')∧Sim (Eb m line) k'∧k'.W.length≤k.W.length:=by
  unfold Z6s Eb
  by_cases h0:line < 0
  · rw [if_pos h0, Z6t, if_pos rfl, if_neg (by omega), if_neg (by omega)]
    exact ⟨k,rfl,hs,kxb _⟩
  · rw [if_neg h0, Jdc hi hs]
    simp only [kxa]
    by_cases h1:(nlines m:Int)≤line
    · rw [decide_eq_true h1, Z6t, if_pos rfl, if_neg (by omega), if_neg (by omega)]
      exact ⟨k,rfl,hs,kxb _⟩
    · rw [decide_eq_false h1, Z6t, if_neg (by decide), if_pos (by omega), if_pos (by omega)]
      have ho:∀ w∈k.W,0≤w.Cell∧w.Cell.toNat < m.kept.length:=fun w hw=>by have:=hs.own w hw;rw [hi.len1];exact ⟨this.1,this.2.1⟩
      have:=Jfv (N:=N) hi (line:=line) hf ho (kk:=Z6u k.Of k.Firsts k.L) k.W.length 0 N k.K (by omega) (by omega) (by rw [hs.kept])
      rw [List.take_zero,List.filter_nil,kxf,show ((0:Nat):Int)=0 from rfl] at this
      rw [this]
      refine ⟨_,rfl,⟨hs.of,hs.firsts,hs.l,?_,fun j=>?_,fun w hw=>hs.own w (kwa.1 hw).1⟩,kwm _ _⟩
      · show Db (onL k.W line) k.K = Db (m.pend line) m.kept
        rw [hs.pend,hs.kept]
      · show (if j = line then [] else m.pend j) = onL (k.W.filter fun w => !decide (w.Line = line)) j
        unfold onL
        rw [List.filter_filter]
        by_cases e:j=line
        · rw [if_pos e]
          have:(k.W.filter fun w=>decide (w.Line=j) && !decide (w.Line=line))=[]:=List.filter_eq_nil_iff.2 fun w _=>by subst e;simp
          rw [this];rfl
        · rw [if_neg e, hs.pend j]
          unfold onL
          congr 1
          refine List.filter_congr fun w _=>?_
          by_cases z:w.Line=j
          · simp [z,e]
          · simp [z]
theorem Jdv {nl:Nat} {f g:Nat→Int} {i:Nat} (hi:i < nl) (h:∀ j,j≠i→f j=g j):((List.range nl).map f).set i (g i)=(List.range nl).map g:=by
  refine kyv (by simp) fun j h1 h2=>?_
  rw [kzh]
  simp only [List.getElem_map,List.getElem_range]
  split
  · rename_i e;rw [e]
  · rename_i e;exact h j (fun z=>e z.symm)
def Sq (W:List Rp) (i:Nat):Int:=((onL W (i:Int)).length:Int)
theorem Vp (W:List Rp) (w:Rp) (i:Nat):Sq (W ++ [w]) i=if w.Line=(i:Int) then Sq W i+1 else Sq W i:=by
  unfold Sq
  rw [Va,Uh]
  split
  · simp
  · simp
theorem Jbn (hs:Sim m k):Me m (nlines m)=(List.range (nlines m)).map (Sq k.W):=by
  unfold Me
  refine List.map_congr_left fun i _=>?_
  rw [hs.pend];rfl
end Go.MD.SWAPS
namespace Go.LM.SWAPS
open Go Go.LL Go.MD Go.LM Go.Proofs Go.MD.SWAPS
structure KG where
  oo:Option Addr
  co:Nat
  fo:Option Addr
  cf:Nat
  lo:Option Addr
  cl:Nat
  ko:Option Addr
  ck:Nat
  wo:Option Addr
  cw:Nat
def Jfh (w:Rp):List Value:=[.int .i64 w.Line,.int .i64 w.Cell,.int .i64 w.N]
def Pm (l:List Rp):List Value:=l.flatMap Jfh
theorem Cs {h:PH}:∀ xs:List Int,Rows h (Bj xs) xs
  | []=>.nil
  | x :: r=>.cons (c:=[.int .i64 x]) rfl (Cs r)
theorem Bu {h:PH} {vs:List Value} {xs:List Int} (hr:Rows h vs xs):vs=Bj xs:=by
  induction hr with
  | nil=>rfl
  | cons hc _ ih=>rw [ih,show _=_ from hc];rfl
theorem N1 {h:PH}:∀ xs:List Rp,Rows h (Pm xs) xs
  | []=>.nil
  | x :: r=>.cons (c:=Jfh x) ⟨[.int .i64 x.Line],_,rfl,rfl,[.int .i64 x.Cell],_,rfl,rfl,rfl⟩ (N1 r)
theorem Kx {h:PH} {vs:List Value} {xs:List Rp} (hr:Rows h vs xs):vs=Pm xs:=by
  induction hr with
  | nil=>rfl
  | cons hc _ ih=>rw [ih,Fs hc];rfl
def kL (p:Nat) (g:KG) (k:Rm):List HA:=
  [blk p (.cells [.slice g.oo k.Of.length g.co,.slice g.fo k.Firsts.length g.cf,.slice g.lo k.L.length g.cl,.slice g.ko k.K.length g.ck,.slice g.wo k.W.length g.cw].toArray 62 (0,0)),
   sla 3 1 g.lo k.L.length g.cl (Bj k.L),sla 3 1 g.ko k.K.length g.ck (Bj k.K),sla 123 3 g.wo k.W.length g.cw (Pm k.W)]
def kA (p:Nat) (g:KG) (k:Rm):HA:=sepA (kL p g k)
structure KF (h:PH) (g:KG) (k:Rm):Prop where
  co:k.Of.length≤g.co
  ro:SR h g.oo k.Of
  cf:k.Firsts.length≤g.cf
  rf:SR h g.fo k.Firsts
theorem KF.mono {h h':PH} {g:KG} {k:Rm} (hf:KF h g k) (hm:∀ b o,h b=some o→h' b=some o):KF h' g k:=⟨hf.co,hf.ro.mono hm,hf.cf,hf.rf.mono hm⟩
theorem Ps {h:PH} {oa:Option Addr} {xs:List Int} (hr:Rd h oa (Bj xs)):SR h oa xs:=⟨Bj xs,hr,Cs xs⟩
theorem JbK {K:List HA} {B:HA} (h:∀ A∈K,Apart A B):Apart (sepA K) B:=fun b ⟨A,hA,hb⟩=>h A hA b hb
theorem Mut.tail {w w':World} {A:HA} {K:List HA} {B:HA} (h:Mut w A (sepA (K ++ [B])) w'):Mut w A (sepA [sepA K,B]) w':=by
  obtain ⟨o1,o2⟩:=h.ok
  obtain ⟨d1,_,d3⟩:=kyu.1 o2
  refine ⟨h.keep,⟨fun C hC=>?_,?_⟩,fun b hb=>h.fp b ?_⟩
  · rcases kxg.1 hC with rfl | hC
    · exact ⟨fun D hD=>o1 D (kyn _ hD),d1⟩
    · rw [kxo] at hC;subst hC;exact o1 C (kzd _ (.head _))
  · exact kxy.2 ⟨fun D hD=>by rw [kxo] at hD;subst hD;exact JbK fun A hA=>d3 A hA D (.head _),kwl _ _⟩
  · obtain ⟨C, hC, hb⟩ := hb
    rcases kxg.1 hC with rfl | hC
    · obtain ⟨D, hD, hb⟩ := hb
      exact ⟨D,kyn _ hD,hb⟩
    · rw [kxo] at hC; subst hC
      exact ⟨C,kzd _ (.head _),hb⟩
section
variable {w0:World} {h:PH} (hl:h.le w0) {p:Nat} {g:KG} {m:MS} {k:Rm} (ho:(kA p g k).ok (hp w0)) (hd:∀ b,(kA p g k).fp b→h b=none) (hf:KF h g k) (hi:MInv m) (hs:Sim m k) (hw:k.W.length≤1000)
include hl ho hd hf hi hs hw
theorem Jct (cell n:Int):Tot Tryz.prog 74 #[.pointer (some ⟨p,0,none⟩),.int .i64 cell,.int .i64 n] w0 (fun v w'=>∃ g' k',v=.int .i64 (if 0≤cell∧cell < (m.l.length:Int) then 0 else 1)∧KF h g' k'∧Sim (Be m cell n) k'∧k'.W.length≤k.W.length+1∧Mut w0 (kA p g k) (kA p g' k') w'):=by
  obtain ⟨k',e,s,c⟩:=JcB (N:=2000) hi hs hw cell n
  refine (JfN hl hf.co hf.ro hf.cf hf.rf (Cs _) (Cs _) (N1 _) ho hd e).mono fun v w' hR=>?_
  obtain ⟨o1,c1,o2,c2,o3,c3,v3,o4,c4,v4,o5,c5,v5,rfl,q1,q2,q3,q4,q5,q6,q7,hm⟩:=hR
  have e3:=Bu (q5 h);have e4:=Bu (q6 h);have e5:=Kx (q7 h)
  subst e3;subst e4;subst e5
  exact ⟨⟨o1,c1,o2,c2,o3,c3,o4,c4,o5,c5⟩,k',rfl,⟨q1,q2,q3,q4⟩,s,c,hm⟩
theorem JfB (line:Int):Tot Tryz.prog 75 #[.pointer (some ⟨p,0,none⟩),.int .i64 line] w0 (fun v w'=>∃ g' k',v=.int .i64 (if 0≤line∧line < (nlines m:Int) then 0 else 1)∧KF h g' k'∧Sim (Eb m line) k'∧k'.W.length≤k.W.length∧Mut w0 (kA p g k) (kA p g' k') w'):=by
  obtain ⟨k',e,s,c⟩:=JeS (N:=2000) hi hs hw (by decide) line
  refine (Jgl hl hf.co hf.ro hf.cf hf.rf (Cs _) (Cs _) (N1 _) ho hd e).mono fun v w' hR=>?_
  obtain ⟨o1,c1,o2,c2,o3,c3,v3,o4,c4,v4,o5,c5,v5,rfl,q1,q2,q3,q4,q5,q6,q7,hm⟩:=hR
  have e3:=Bu (q5 h);have e4:=Bu (q6 h);have e5:=Kx (q7 h)
  subst e3;subst e4;subst e5
  exact ⟨⟨o1,c1,o2,c2,o3,c3,o4,c4,o5,c5⟩,k',rfl,⟨q1,q2,q3,q4⟩,s,c,hm⟩
end
end Go.LM.SWAPS
namespace Go.MD.SWAPS
open Go Go.MD Go.LL
theorem JeO {N:Nat} {of:List Int} {st:Int} {kk:Option ((Option Rm)×Int)} (h20:of.length≤20) (h0:0≤st) (h1:st≤of.length):∀ (d n i:Nat),i+d=st.toNat→d < n→Dh (-1) true (of.take i)=true→
    Z72 N kk of st n (i:Int)=if Dh (-1) true (of.take st.toNat)=true then kk else some (none,1):=by
  intro d
  induction d with
  | zero =>
    intro n i hi hn hc
    obtain ⟨n,rfl⟩:∃ q,n=q+1:=⟨n - 1,by omega⟩
    rw [Z72,if_neg (by omega),← hi,kwg,if_pos hc]
  | succ d ih =>
    intro n i hi hn hc
    obtain ⟨n,rfl⟩:∃ q,n=q+1:=⟨n - 1,by omega⟩
    have hl:i < of.length:=by omega
    have hs:=Yh hl
    rw [hc,kyf] at hs
    have hb:=JbD hc
    have good:Dh (-1) true (of.take (i+1))=true→Z71 (Z72 N kk of st n) (i:Int) false=if Dh (-1) true (of.take st.toNat)=true then kk else some (none,1):=by
      intro hg
      rw [Z71,if_neg (by decide),Bf hl (by omega)]
      exact ih n (i+1) (by omega) (by omega) hg
    have bad:Dh (-1) true (of.take (i+1))=false→Z71 (Z72 N kk of st n) (i:Int) true=if Dh (-1) true (of.take st.toNat)=true then kk else some (none,1):=by
      intro hg
      rw [Z71,if_pos rfl,if_neg]
      intro h
      rw [Jay (i:=i+1) (by omega) h] at hg
      cases hg
    have both:∀ b,Dh (-1) true (of.take (i+1)) = !b→Z71 (Z72 N kk of st n) (i:Int) b=if Dh (-1) true (of.take st.toNat)=true then kk else some (none,1):=fun b hb=>by
      cases b
      · exact good hb
      · exact bad hb
    rw [Z72,if_pos (by omega)]
    by_cases e:i=0
    · subst e
      rw [show ((0:Nat):Int)=0 from rfl] at good bad ⊢
      rw [if_pos rfl,Al (i:=0) (j:=0) rfl hl]
      simp only [kxa]
      have hlast:Gl of 0 = -1:=rfl
      rw [hlast] at hs
      by_cases e:of[0]=0
      · rw [if_neg (fun h => h e), if_neg (by decide)]
        exact good (by rw [hs,e];rfl)
      · rw [if_pos e]
        exact bad (by rw [hs];simp [e])
    · have hp:Gl of i=of[i - 1]:=by
        have:=Wa (l:=of) (k:=i - 1) (by omega)
        rwa [show i - 1+1=i by omega] at this
      rw [if_neg (by omega),if_pos (by omega),Al rfl hl]
      simp only [kxa]
      rw [w64 (n:=(i:Int) - 1) (by omega) (by omega),Al (j:=i - 1) (by omega) (by omega)]
      simp only [kxa]
      rw [← hp,w64 (n:=Gl of i+1) (by omega) (by omega)]
      refine both _ ?_
      rw [hs]
      by_cases e1:of[i]=Gl of i <;> by_cases e2:of[i]=Gl of i+1 <;> simp [e,e1,e2]
theorem JdC {of fi:List Int} {st:Int} (h:Vw of st fi):∃ k,Z6z 2000 of st fi=some (some k,0)∧Sim (Si of st fi) k∧k.W=[]:=by
  obtain ⟨h1,h2,h3,h4,h5⟩:=h
  unfold Z6z
  rw [if_neg (by simp;omega)]
  have:=JeO (N:=2000) (kk:=Z70 of st fi) (of:=of) (by omega) h3 h4 st.toNat 2000 0 (by omega) (by omega) rfl
  rw [show ((0:Nat):Int)=0 from rfl] at this
  rw [this,if_pos h5]
  unfold Z70
  have t1:(of.take st.toNat).length≤20:=by rw [kyg];omega
  have t2:(fi.take st.toNat).length≤20:=by rw [kyg];omega
  rw [Ef (by omega) h3 h4]
  simp only [kxa,kwc,kxf]
  rw [Ax (by simp;omega) (by decide)]
  simp only [kxa,kxl]
  rw [Ax (by simp;omega) (by decide)]
  simp only [kxa,kxl]
  rw [Ef (by omega) h3 (by omega)]
  simp only [kxa,kwc,kxf]
  rw [Ax (by simp;omega) (by decide)]
  simp only [kxa,kxl]
  exact ⟨_,rfl,⟨rfl,rfl,rfl,rfl,fun j=>rfl,fun w hw=>nomatch hw⟩,rfl⟩
end Go.MD.SWAPS
namespace Go.LM.SWAPS
open Go Go.LL Go.MD Go.LM Go.Proofs Go.MD.SWAPS
def kS (g:KG) (k:Rm):HA:=sepA [sla 3 1 g.oo k.Of.length g.co (Bj k.Of),sla 3 1 g.fo k.Firsts.length g.cf (Bj k.Firsts)]
theorem JgI {w0:World} {h:PH} (hl:h.le w0) {oo fo:Option Addr} {co cf:Nat} {of fi:List Int} {st:Int} (h1:of.length≤co) (r1:SR h oo of) (h2:fi.length≤cf) (r2:SR h fo fi) (hn:Vw of st fi) :
    Tot Tryz.prog 33 #[.slice oo of.length co,.int .i64 st,.slice fo fi.length cf] w0 (fun v w'=>∃ p g k,v=.tuple #[.pointer (some ⟨p,0,none⟩),.int .i64 0]∧Sim (Si of st fi) k∧k.W=[]∧Fresh w0 (sepA [kS g k,kA p g k]) w'):=by
  obtain ⟨k,e,s,hW⟩:=JdC hn
  refine (Jga hl h1 r1 h2 r2 e).mono fun v w' hR=>?_
  obtain ⟨vm,A,rfl,hp,hf⟩:=hR
  rcases hp with ⟨_,_,e⟩ | ⟨b,o0,c0,v0,o1,c1,v1,o2,c2,v2,o3,c3,v3,o4,c4,v4,k',rfl,rfl,e,q0,q1,q2,q3,q4⟩
  · cases e
  · obtain rfl := kyh e
    have e0:=Bu (q0 h);have e1:=Bu (q1 h);have e2:=Bu (q2 h);have e3:=Bu (q3 h);have e4:=Kx (q4 h)
    subst e0;subst e1;subst e2;subst e3;subst e4
    refine ⟨b,⟨o0,c0,o1,c1,o2,c2,o3,c3,o4,c4⟩,k,rfl,s,hW,?_⟩
    have hS:St w0 Nil [h] [] w0:=start1 hl
    have h3:=hS.fresh hf
    have h4:St w0 Nil [h] _ w':=h3.unsep
    have h5:=h4.pickL (L':=[sla 3 1 o0 k.Of.length c0 (Bj k.Of),sla 3 1 o1 k.Firsts.length c1 (Bj k.Firsts),blk b (.cells [.slice o0 k.Of.length c0,.slice o1 k.Firsts.length c1,.slice o2 k.L.length c2,.slice o3 k.K.length c3,.slice o4 k.W.length c4].toArray 62 (0,0)),sla 3 1 o2 k.L.length c2 (Bj k.L),sla 3 1 o3 k.K.length c3 (Bj k.K),sla 123 3 o4 k.W.length c4 (Pm k.W)])
      (.cons (.tail .head) (.cons (.tail .head) (.cons .head (.cons .head (.cons .head (.cons .head .nil))))))
    exact Fresh.cut2 h5.endFreshL
theorem Jgi {h:PH} {g:KG} {k:Rm} (ho:(kS g k).ok h):KF h g k:=by
  have h1:=(Bz.1 ho).1
  have a:=h1 (sla 3 1 g.oo k.Of.length g.co (Bj k.Of)) (.head _)
  have b:=h1 (sla 3 1 g.fo k.Firsts.length g.cf (Bj k.Firsts)) (.tail _ (.head _))
  exact ⟨SlOk.cap a,Ps (SlOk.rd a),SlOk.cap b,Ps (SlOk.rd b)⟩
end Go.LM.SWAPS
namespace Go.MD.SWAPS
structure TS where
  C:api_Code
  At:Int
  Regs:List Int
  Counts:List Int
  Q:List api_Entry
  Fault:Int
def TS.th (x:TS) (b:Option Addr):leadlineref13_Thread:=⟨x.C,x.At,x.Regs,x.Counts,b,x.Fault⟩
def TS.of (x:TS) (t:leadlineref13_Thread):TS:=⟨t.C,t.At,t.Regs,t.Counts,x.Q,t.Fault⟩
structure KS where
  U:api_Unit
  Crashed:Int
  R:Rm
  Lk:List Int
  Fault:Int
  Faulty:Int
end Go.MD.SWAPS
namespace Go.LM.SWAPS
open Go Go.LL Go.MD Go.LM Go.Proofs Go.MD.SWAPS
structure TG where
  tp:Nat
  bp:Nat
  oC:Option Addr
  cC:Nat
  oR:Option Addr
  cR:Nat
  oN:Option Addr
  cN:Nat
  oQ:Option Addr
  cQ:Nat
structure UG where
  o0:Option Addr
  c0:Nat
  o2:Option Addr
  c2:Nat
  o4:Option Addr
  c4:Nat
  o5:Option Addr
  c5:Nat
  o6:Option Addr
  c6:Nat
structure MGh where
  p:Nat
  pm:Nat
  kg:KG
  ol:Option Addr
  cl:Nat
  op:Option Addr
  cp:Nat
  u:UG
def Jhg (x:api_Entry):List Value:=[.int .i64 x.Kind,.int .i64 x.Line,.int .i64 x.Cell,.int .i64 x.N]
def Jbg (l:List api_Entry):List Value:=l.flatMap Jhg
theorem Je {h:PH}:∀ xs:List api_Entry,Rows h (Jbg xs) xs
  | []=>.nil
  | x :: r=>.cons (c:=Jhg x) ⟨[.int .i64 x.Kind],_,rfl,rfl,[.int .i64 x.Line],_,rfl,rfl,[.int .i64 x.Cell],_,rfl,rfl,rfl⟩ (Je r)
theorem H9 {h:PH} {vs:List Value} {xs:List api_Entry} (hr:Rows h vs xs):vs=Jbg xs:=by
  induction hr with
  | nil=>rfl
  | cons hc _ ih=>rw [ih,Dm hc];rfl
def tCs (g:TG) (x:TS):List Value:=[.int .i64 x.C.Regs,.int .i64 x.C.Counts,.slice g.oC x.C.L.length g.cC,.int .i64 x.At,.slice g.oR x.Regs.length g.cR,.slice g.oN x.Counts.length g.cN,.pointer (some ⟨g.bp,0,none⟩),.int .i64 x.Fault]
def bCs (g:TG) (x:TS):List Value:=[.int .i64 2,.slice g.oQ x.Q.length g.cQ]
def tK (g:TG) (x:TS):List HA:=[blk g.tp (.cells (tCs g x).toArray 107 (0,0)),sla 3 1 g.oR x.Regs.length g.cR (Bj x.Regs),sla 3 1 g.oN x.Counts.length g.cN (Bj x.Counts)]
def tB (g:TG) (x:TS):List HA:=[blk g.bp (.cells (bCs g x).toArray 120 (0,0)),sla 159 4 g.oQ x.Q.length g.cQ (Jbg x.Q)]
def tL (e:TG×TS):List HA:=[sepA (tK e.1 e.2),sepA (tB e.1 e.2)]
def tA (e:TG×TS):HA:=sepA (tL e)
def uCs (g:UG) (u:api_Unit):List Value:=[.slice g.o0 u.Lines.length g.c0,.int .i64 u.Stays,.slice g.o2 u.Firsts.length g.c2,.int .i64 u.Locks,.slice g.o4 u.Threads.length g.c4,.int .i64 u.Recover.Regs,.int .i64 u.Recover.Counts,.slice g.o5 u.Recover.L.length g.c5,.slice g.o6 u.Claims.length g.c6]
def En (l:List (TG×TS)):List Value:=l.map fun e=>.pointer (some ⟨e.1.tp,0,none⟩)
def mCs (g:MGh) (k:KS) (n:Nat):List Value:=[.slice g.u.o0 k.U.Lines.length g.u.c0,.int .i64 k.U.Stays,.slice g.u.o2 k.U.Firsts.length g.u.c2,.int .i64 k.U.Locks,.slice g.u.o4 k.U.Threads.length g.u.c4,.int .i64 k.U.Recover.Regs,.int .i64 k.U.Recover.Counts,.slice g.u.o5 k.U.Recover.L.length g.u.c5,.slice g.u.o6 k.U.Claims.length g.u.c6,
  .int .i64 2,.int .i64 k.Crashed,.pointer (some ⟨g.pm,0,none⟩),.slice g.ol k.Lk.length g.cl,.slice g.op n g.cp,.int .i64 k.Fault,.int .i64 k.Faulty]
def mL (g:MGh) (k:KS) (l:List (TG×TS)):List HA:=[blk g.p (.cells (mCs g k l.length).toArray 66 (0,0)),sla 3 1 g.ol k.Lk.length g.cl (Bj k.Lk),sla 105 1 g.op l.length g.cp (En l),kA g.pm g.kg k.R,Ce tA l]
def mA (g:MGh) (k:KS) (l:List (TG×TS)):HA:=sepA (mL g k l)
structure MF (h:PH) (g:MGh) (k:KS) (l:List (TG×TS)):Prop where
  lc:k.U.Lines.length≤g.u.c0
  lr:SR h g.u.o0 k.U.Lines
  kf:KF h g.kg k.R
  th:∀ e∈l,e.2.C.L.length≤e.1.cC∧SR h e.1.oC e.2.C.L
section
variable {w:World} {h:PH} {Hs:List PH} {L:List HA} {g:MGh} {k:KS} {l:List (TG×TS)}
theorem mok {h:PH} (ho:(mA g k l).ok h):∀ A∈mL g k l,A.ok h:=(Bz.1 ho).1
theorem tok {h:PH} (ho:(mA g k l).ok h) {i:Nat} (hi:i < l.length):(tA l[i]).ok h:=(mok ho (Ce tA l) (.tail _ (.tail _ (.tail _ (.tail _ (.head _)))))).1 _ (kxj hi)
theorem Pd {h:PH} (ho:(mA g k l).ok h):Rd h g.ol (Bj k.Lk):=SlOk.rd (mok ho (sla 3 1 g.ol k.Lk.length g.cl (Bj k.Lk)) (.tail _ (.head _)))
theorem Kd {h:PH} (ho:(mA g k l).ok h):Rd h g.op (En l):=SlOk.rd (mok ho (sla 105 1 g.op l.length g.cp (En l)) (.tail _ (.tail _ (.head _))))
theorem JbG {h:PH} (ho:(mA g k l).ok h):Rd h g.kg.lo (Bj k.R.L):=SlOk.rd ((Bz.1 (mok ho (kA g.pm g.kg k.R) (.tail _ (.tail _ (.tail _ (.head _)))))).1 (sla 3 1 g.kg.lo k.R.L.length g.kg.cl (Bj k.R.L)) (.tail _ (.head _)))
theorem JgR {h:PH} (ho:(mA g k l).ok h):Rd h g.kg.ko (Bj k.R.K):=SlOk.rd ((Bz.1 (mok ho (kA g.pm g.kg k.R) (.tail _ (.tail _ (.tail _ (.head _)))))).1 (sla 3 1 g.kg.ko k.R.K.length g.kg.ck (Bj k.R.K)) (.tail _ (.tail _ (.head _))))
theorem Hj {i:Nat} (hi:i < l.length):En l≠[]:=fun e=>by
  have:=congrArg List.length e
  simp [En] at this
  subst this;exact absurd hi (kzv _)
end
theorem Mut.big {α:Type} {f:α→HA} {w w':World} {l1 l2:List α} {x x':α} (ho:(Ce f (l1 ++ x :: l2)).ok (hp w)) (hm:Mut w (f x) (f x') w'):Mut w (Ce f (l1 ++ x :: l2)) (Ce f (l1 ++ x' :: l2)) w':=by
  refine ⟨hm.keep.mono fun b hb=>⟨x,by simp,hb⟩,Jdf ho hm.keep hm.ok hm.fp,fun b hb=>?_⟩
  obtain ⟨y,hy,hb⟩:=hb
  rcases kxi.1 hy with h | h
  · exact .inl ⟨y,by simp [h],hb⟩
  · rcases kxg.1 h with rfl | h
    · rcases hm.fp b hb with h | h
      · exact .inl ⟨x,by simp,h⟩
      · exact .inr h
    · exact .inl ⟨y,by simp [h],hb⟩
theorem Mut.bigAt {α:Type} {f:α→HA} {w w':World} {l:List α} {i:Nat} (hi:i < l.length) {x':α} (ho:(Ce f l).ok (hp w)) (hm:Mut w (f l[i]) (f x') w'):Mut w (Ce f l) (Ce f (l.set i x')) w':=by
  have e:l=l.take i ++ l[i] :: l.drop (i+1):=by rw [kwn,kys]
  have e2:l.set i x'=l.take i ++ x' :: l.drop (i+1):=kwo.trans (if_pos hi)
  rw [e2]
  rw [e] at ho
  have h:=Mut.big (l1:=l.take i) (l2:=l.drop (i+1)) (x:=l[i]) (x':=x') ho hm
  rwa [← e] at h
section
variable {w0 w':World} {h:PH} {g:MGh} {k:KS} {l:List (TG×TS)}
theorem Mut.thread (ho:(mA g k l).ok (hp w0)) (hd:∀ b,(mA g k l).fp b→h b=none) (hl:h.le w0) {i:Nat} (hi:i < l.length) {e:TG×TS} (he:e.1.tp=l[i].1.tp) (hm:Mut w0 (tA l[i]) (tA e) w'):Mut w0 (mA g k l) (mA g k (l.set i e)) w':=by
  have hS:St w0 (mA g k l).fp [h] (mL g k l) w0:=.startL (by simpa using hl) ho (fun b hb x hx=>by simp at hx;subst hx;exact hd b hb)
  have h1:=Mut.bigAt hi (hS.ok _ (.tail _ (.tail _ (.tail _ (.tail _ (.head _)))))) hm
  have h2:=(hS.mut h1 (.tail (.tail (.tail (.tail .head))))).endMut
  have ep:En (l.set i e)=En l:=by
    unfold En
    rw [kzt,he]
    refine kyv (by simp) fun j h1 h2=>?_
    rw [kzh]
    split
    · rename_i q;subst q;simp
    · rfl
  show Mut w0 _ (sepA [_,_,_,_,_]) w'
  rw [kxr,ep]
  exact h2
theorem Mut.mem (ho:(mA g k l).ok (hp w0)) (hd:∀ b,(mA g k l).fp b→h b=none) (hl:h.le w0) {kg:KG} {R:Rm} (hm:Mut w0 (kA g.pm g.kg k.R) (kA g.pm kg R) w'):Mut w0 (mA g k l) (mA { g with kg:=kg } { k with R:=R } l) w':=by
  have hS:St w0 (mA g k l).fp [h] (mL g k l) w0:=.startL (by simpa using hl) ho (fun b hb x hx=>by simp at hx;subst hx;exact hd b hb)
  exact (hS.mut hm (.tail (.tail (.tail .head)))).endMut
theorem Mut.thK (ho:(mA g k l).ok (hp w0)) (hd:∀ b,(mA g k l).fp b→h b=none) (hl:h.le w0) {i:Nat} (hi:i < l.length) {e:TG×TS} (he:e.1.tp=l[i].1.tp) (hb:tB e.1 e.2=tB l[i].1 l[i].2) (hm:Mut w0 (sepA (tK l[i].1 l[i].2)) (sepA (tK e.1 e.2)) w'):Mut w0 (mA g k l) (mA g k (l.set i e)) w':=by
  refine Mut.thread ho hd hl hi he ?_
  have hS:St w0 (tA l[i]).fp [h] (tL l[i]) w0:=.startL (by simpa using hl) (tok ho hi) (fun b hb x hx=>by
    simp at hx;subst hx;exact hd b ⟨Ce tA l,.tail _ (.tail _ (.tail _ (.tail _ (.head _)))),l[i],kxj hi,hb⟩)
  have h1:=(hS.mut hm .head).endMut
  rw [← hb] at h1
  exact h1
theorem Mut.thB (ho:(mA g k l).ok (hp w0)) (hd:∀ b,(mA g k l).fp b→h b=none) (hl:h.le w0) {i:Nat} (hi:i < l.length) {e:TG×TS} (he:e.1.tp=l[i].1.tp) (hb:tK e.1 e.2=tK l[i].1 l[i].2) (hm:Mut w0 (sepA (tB l[i].1 l[i].2)) (sepA (tB e.1 e.2)) w'):Mut w0 (mA g k l) (mA g k (l.set i e)) w':=by
  refine Mut.thread ho hd hl hi he ?_
  have hS:St w0 (tA l[i]).fp [h] (tL l[i]) w0:=.startL (by simpa using hl) (tok ho hi) (fun b hb x hx=>by
    simp at hx;subst hx;exact hd b ⟨Ce tA l,.tail _ (.tail _ (.tail _ (.tail _ (.head _)))),l[i],kxj hi,hb⟩)
  have h1:=(hS.mut hm (.tail .head)).endMut
  rw [← hb] at h1
  exact h1
end
end Go.LM.SWAPS
