/- A walk: the picks. No condition beyond the theorem's own premises. -/
import Derived.Test.YtchhelkhllkpkaaGreatDoorSXB
import Derived.Test.YtchhelkhllkpkaaGreatDoorSWQ5
set_option linter.unusedSectionVars false
namespace Go.LM.SWAPS
open Go Go.LL Go.MD Go.LM Go.Proofs Go.MD.SWAPS Go.Proofs.Tryz
set_option maxRecDepth 100000
set_option maxHeartbeats 4000000
theorem Dy:FA 66 5 13:=fun _ _=>by kernel_rfl
theorem Ow:FA 66 6 14:=fun _ _=>by kernel_rfl
theorem Ue {w0:World} {h:PH} (hl:h.le w0) {g:MGh} {k:KS} {l:List (TG×TS)} (ho:(mA g k l).ok (hp w0)) (hd:∀ b,(mA g k l).fp b→h b=none) (hf:MF h g k l) {xs:List TS} (hxs:l.map (·.2)=xs) (hT:∀ x∈xs,TW k.Lk x) (hn:xs.length≤100) :
 Tot Tryz.prog 8 #[.pointer (some ⟨g.p,0,none⟩)] w0 (λv w'=>∃ l2 oa c,v=.slice oa (Er k.Lk k.Fault xs).length c∧l2.map (·.2)=xs∧MF h g k l2∧Mut w0 (mA g k l) (sepA [mA g k l2,sla 52 4 oa (Er k.Lk k.Fault xs).length c (Cw (Er k.Lk k.Fault xs))]) w'):=by
 refine fn0 func8 rfl ntmps8 rfl rfl λa o=>?_
 have u:St w0 (mA g k l).fp [h] [mA g k l] w0:=.start1 (by simpa using hl) ho (λb hb x hx=>by simp at hx;subst hx;exact hd b hb)
 refine th<|rg<|qa o rfl λo=>re<|tn<|th<|rg<|ls<|bw (e:=52) (sz:=4) (Cw []) o u λbo w u o=>qa o rfl λo=>re<|tn<|?_
 replace u:=u.pk [1,0] rfl
 refine th<|th<|rg<|qa o rfl λo=>re<|tn<|wb<|lp (α:=Nat×List (TG×TS)×Option Addr×Nat) (λgh a w=>match gh with | (i,l2,oo,co)=>Fr 65 [(0,.pointer (some ⟨g.p,0,none⟩)),(3,.slice oo (Ci k.Lk 0 (xs.take i)).length co),(4,i6 ((i:Nat):Int))] a∧St w0 (mA g k l).fp [h] [mA g k l2,sla 52 4 oo (Ci k.Lk 0 (xs.take i)).length co (Cw (Ci k.Lk 0 (xs.take i)))] w∧(l2.map (·.2)=xs∧MF h g k l2∧i≤xs.length∧(0 < i→k.Fault=0))) (λ(gh:Nat×List (TG×TS)×Option Addr×Nat)=>match gh with | (i,l2,oo,co)=>xs.length - i) (0,l,_,_) ⟨o.hs,u,⟨hxs,hf,kxt _,λz=>absurd z (Nat.lt_irrefl 0)⟩⟩ ?_
 rintro ⟨i,l2,oo,co⟩ a w ⟨o,u,⟨hl2,hf2,hin,hi0⟩⟩
 have hlen:l2.length=xs.length:=by rw [← hl2,kxx]
 have hPl:=Mp (lk:=k.Lk) (xs:=xs.take i) (i:=0) (λx hx=>(hT x (List.mem_of_mem_take hx)).q)
 rw [kyg] at hPl
 refine th<|th<|rg<|qm o rfl λo=>qm o rfl λo=>qv o (Af o rfl) λo=>qf o Dy rfl λo=>qv o (Ap o isAgg64 rfl (Ai w _ ▸ Aw (u.ld.ok _ t0) rfl)) λo=>qv o (Cn o Po rfl) λo=>qv o (Am o rfl rfl) λo=>qm o rfl λo=>Fr.split o (t:=15) rfl (λhb o=>?_) (λhb o=>?_)
 replace hb:=of_decide_eq_true hb
 refine qg o (Aa o rfl) λo=>qg o (Af o rfl) λo=>qg o (Ad o Ow rfl) λo=>qg o (Ap o isAgg3 rfl (Ai w _ ▸ Aw (u.ld.ok _ t0) rfl)) λo=>qg o (Ah o rfl rfl) λo=>qv o (Ab o rfl rfl) λo=>re<|tn<|cs o rfl (λhb=>?_) (λhb=>?_)
 replace hb:=of_decide_eq_true hb
 refine wk<|tn<|?_
 have hfault:k.Fault=0:=hb
 have hi2:i < l2.length:=by omega
 obtain ⟨e,he⟩:∃ e,l2[i]? = some e:=⟨_,kxq hi2⟩
 have hx:xs[i]? = some e.2:=by rw [← hl2,kzg,he];rfl
 have hTW:=hT e.2 (kyk hx)
 refine th<|wb<|th<|th<|rg<|qm o rfl λo=>qm o rfl λo=>qv o (Af o rfl) λo=>qf o Dy rfl λo=>qv o (Ap o isAgg64 rfl (Ai w _ ▸ Aw (u.ld.ok _ t0) rfl)) λo=>qm o rfl λo=>qv o (Es o Po sizeOf105 rfl rfl rfl (by omega) ((Kd (u.ld.ok _ t0)).some (Hj (i:=i) (by omega)))) λo=>qv o (Ap o isAgg105 rfl (elR (Kd (u.ld.ok _ t0)) (Hl he))) λo=>ls<|cq o call35 (Jgt (u.ok _ t0) (Au he) ((hf2.th e (Au he)).2.mono (u.hs _ t0)) hTW.at0 hTW.lock) ⟨rfl,rfl,trivial⟩ u λw a u o=>re<|tn<|cs o rfl (λhb=>?_) (λhb=>?_)
 refine rg<|qm o rfl λo=>qm o rfl λo=>qv o (Gk [_,_] [none,none,some (i6 0),some (.slice none 0 0)] o ⟨rfl,rfl,trivial⟩ (λw=>by kernel_rfl)) λo=>ls<|bw (e:=52) (sz:=4) (Cw [Ru i]) o u λb w u o=>ls<|apI o rfl u underlying45 Yy rfl (by decide) rfl rfl t2 (Mn [Ru i]) (u.rdO t0) (Mm [Ru i]) (by omega) (by unfold maxLen;omega) λoa c w a hU o=>?_
 replace u:=hU _ (.tail (.tail .head))
 replace u:=u.drop .head
 rw [Mw] at u
 refine qa o rfl λo=>re<|tn<|?_
 obtain ⟨A,hA⟩:∃ A,A=Ci k.Lk 0 (xs.take i) ++ [Ru i]:=⟨_,rfl⟩
 have hAn:(Ci k.Lk 0 (xs.take i)).length+1=A.length:=by rw [hA];simp
 rw [← hA] at u
 rw [hAn] at u o
 have hA0:A=Ci k.Lk 0 (xs.take i) ++ (if Mo k.Lk e.2=true then [Ru i] else []):=by rw [if_pos hb];exact hA
 have hAl:A.length≤(Ci k.Lk 0 (xs.take i)).length+1:=by rw [hA0];split <;> simp
 refine th<|rg<|qm o rfl λo=>qv o (Af o rfl) λo=>qf o Dy rfl λo=>qv o (Ap o isAgg64 rfl (Ai w _ ▸ Aw (u.ld.ok _ t0) rfl)) λo=>qm o rfl λo=>qv o (Es o Po sizeOf105 rfl rfl rfl (by omega) ((Kd (u.ld.ok _ t0)).some (Hj (i:=i) (by omega)))) λo=>qv o (Ap o isAgg105 rfl (elR (Kd (u.ld.ok _ t0)) (Hl he))) λo=>qv o (Af o rfl) λo=>qf o Du rfl λo=>qv o (Ap o isAgg98 rfl (Ai w _ ▸ Az (u.ld.ok _ t0) (Au he) rfl)) λo=>ls<|c1 o rfl call36 (JaB (u.hs _ t0) (u.ok _ t0) (λb hb=>(u.own _ t0 b hb).2 _ t0) hf2 he hTW.q) ⟨rfl,trivial⟩ (λv w a hR o=>?_)
 obtain ⟨e2,oc,cc,rfl,et1,et2,et3,hf3,hmut⟩:=hR
 replace u:=(u.mut hmut .head).pickL (.cons .head (.cons .head .nil))
 clear hmut
 replace u:=St.unsep2 u
 have hl3:(l2.set i e2).map (·.2)=xs:=(Ur he et3).trans hl2
 have hcl:=(N0 hTW.q).1
 generalize l2.set i e2=l3 at u hf3 hl3
 refine qa o rfl λo=>re<|tn<|?_
 replace u:=u.pk [0,1,0] rfl
 rw [show A=A ++ ((Bt e.2.Q).take 0).map (Hp i) by simp] at u o
 refine th<|rg<|qa o rfl λo=>re<|tn<|wb<|lp (α:=Nat×Option Addr×Nat) (λgh a w=>match gh with | (j,oo2,co2)=>Fr 65 [(0,.pointer (some ⟨g.p,0,none⟩)),(4,i6 ((i:Nat):Int)),(5,.slice oc (Bt e.2.Q).length cc),(3,.slice oo2 (A ++ ((Bt e.2.Q).take j).map (Hp i)).length co2),(6,i6 ((j:Nat):Int))] a∧St w0 (mA g k l).fp [h] [mA g k l3,sla 52 4 oo2 (A ++ ((Bt e.2.Q).take j).map (Hp i)).length co2 (Cw (A ++ ((Bt e.2.Q).take j).map (Hp i))),sla 3 1 oc (Bt e.2.Q).length cc (Bj (Bt e.2.Q))] w∧(j≤(Bt e.2.Q).length)) (λ(gh:Nat×Option Addr×Nat)=>match gh with | (j,oo2,co2)=>(Bt e.2.Q).length - j) (0,_,_) ⟨o.hs,u,kxt _⟩ ?_
 rintro ⟨j,oo2,co2⟩ a w ⟨o,u,hj⟩
 refine th<|th<|rg<|qm o rfl λo=>qm o rfl λo=>qv o (Cn o Bn rfl) λo=>qv o (Am o rfl rfl) λo=>re<|tn<|cs o rfl (λhb=>?_) (λhb=>?_)
 replace hb:=of_decide_eq_true hb
 refine wk<|tn<|?_
 have hjc:j < (Bt e.2.Q).length:=by omega
 have hBl:(A ++ ((Bt e.2.Q).take j).map (Hp i)).length≤A.length+j:=by simp;omega
 refine th<|wb<|rg<|qm o rfl λo=>?_
 iterate 3 refine qm o rfl λo=>?_
 refine qv o (Es o Bn sizeOf3 rfl rfl rfl (by omega) ((u.ld.rdO t2).some (Dl (l:=(Bt e.2.Q)) (by omega)))) λo=>qv o (Ap o isAgg3 rfl (u.ld.elO t2 (Eu (l:=(Bt e.2.Q)) (k:=j) (by omega)))) λo=>qv o (Gk [_,_,_] [none,none,none,some (.slice none 0 0)] o ⟨rfl,rfl,rfl,trivial⟩ (λw=>by kernel_rfl)) λo=>ls<|bw (e:=52) (sz:=4) (Cw [Hp i ((Bt e.2.Q)[j]'hjc)]) o u λb w u o=>ls<|apI o rfl u underlying45 Yy rfl (by decide) rfl rfl t2 (Mn [Hp i ((Bt e.2.Q)[j]'hjc)]) (u.rdO t0) (Mm [Hp i ((Bt e.2.Q)[j]'hjc)]) (by omega) (by unfold maxLen;omega) λoa c w a hU o=>?_
 replace u:=hU _ (.tail (.tail .head))
 replace u:=u.drop .head
 rw [Mw] at u
 refine qa o rfl λo=>re<|bn<|tn<|?_
 have hBn:(A ++ ((Bt e.2.Q).take j).map (Hp i)).length+1=(A ++ ((Bt e.2.Q).take (j+1)).map (Hp i)).length:=by rw [← K9 hjc];simp;omega
 rw [kxw,K9 hjc] at u
 rw [hBn] at u o
 refine rg<|qm o rfl λo=>qv o (Dx (r:=(((j+1):Nat):Int)) o rfl rfl rfl (by omega)) λo=>qa o rfl λo=>re<|tn<|?_
 replace u:=u.pk [0,0,0] rfl
 exact ⟨(j+1,_,_),⟨o.hs,u,(by omega)⟩,(by dsimp only;omega)⟩
 replace hb:=kyd.1 (of_decide_eq_false hb)
 refine we<|tx<|tx<|bx<|bn<|tn<|?_
 have hfin:=Qs hx hA0 (j:=j) (by omega)
 rw [hfin] at u o
 refine rg<|qm o rfl λo=>qv o (Dx (r:=(((i+1):Nat):Int)) o rfl rfl rfl (by omega)) λo=>qa o rfl λo=>re<|tn<|?_
 replace u:=u.pk [0,0] rfl
 exact ⟨(i+1,l3,_,_),⟨o.hs,u,⟨hl3,hf3,by omega,λ_=>hfault⟩⟩,(by dsimp only;omega)⟩
 refine wk<|tn<|?_
 obtain ⟨A,hA⟩:∃ A,A=Ci k.Lk 0 (xs.take i):=⟨_,rfl⟩
 rw [← hA] at u o
 have hA0:A=Ci k.Lk 0 (xs.take i) ++ (if Mo k.Lk e.2=true then [Ru i] else []):=by rw [if_neg (by rw [hb];decide),kze];exact hA
 have hAl:A.length≤(Ci k.Lk 0 (xs.take i)).length+1:=by rw [hA0];split <;> simp
 refine th<|rg<|qm o rfl λo=>qv o (Af o rfl) λo=>qf o Dy rfl λo=>qv o (Ap o isAgg64 rfl (Ai w _ ▸ Aw (u.ld.ok _ t0) rfl)) λo=>qm o rfl λo=>qv o (Es o Po sizeOf105 rfl rfl rfl (by omega) ((Kd (u.ld.ok _ t0)).some (Hj (i:=i) (by omega)))) λo=>qv o (Ap o isAgg105 rfl (elR (Kd (u.ld.ok _ t0)) (Hl he))) λo=>qv o (Af o rfl) λo=>qf o Du rfl λo=>qv o (Ap o isAgg98 rfl (Ai w _ ▸ Az (u.ld.ok _ t0) (Au he) rfl)) λo=>ls<|c1 o rfl call36 (JaB (u.hs _ t0) (u.ok _ t0) (λb hb=>(u.own _ t0 b hb).2 _ t0) hf2 he hTW.q) ⟨rfl,trivial⟩ (λv w a hR o=>?_)
 obtain ⟨e2,oc,cc,rfl,et1,et2,et3,hf3,hmut⟩:=hR
 replace u:=(u.mut hmut .head).pickL (.cons .head (.cons .head .nil))
 clear hmut
 replace u:=St.unsep2 u
 have hl3:(l2.set i e2).map (·.2)=xs:=(Ur he et3).trans hl2
 have hcl:=(N0 hTW.q).1
 generalize l2.set i e2=l3 at u hf3 hl3
 refine qa o rfl λo=>re<|tn<|?_
 replace u:=u.pk [0,1,0] rfl
 rw [show A=A ++ ((Bt e.2.Q).take 0).map (Hp i) by simp] at u o
 refine th<|rg<|qa o rfl λo=>re<|tn<|wb<|lp (α:=Nat×Option Addr×Nat) (λgh a w=>match gh with | (j,oo2,co2)=>Fr 65 [(0,.pointer (some ⟨g.p,0,none⟩)),(4,i6 ((i:Nat):Int)),(5,.slice oc (Bt e.2.Q).length cc),(3,.slice oo2 (A ++ ((Bt e.2.Q).take j).map (Hp i)).length co2),(6,i6 ((j:Nat):Int))] a∧St w0 (mA g k l).fp [h] [mA g k l3,sla 52 4 oo2 (A ++ ((Bt e.2.Q).take j).map (Hp i)).length co2 (Cw (A ++ ((Bt e.2.Q).take j).map (Hp i))),sla 3 1 oc (Bt e.2.Q).length cc (Bj (Bt e.2.Q))] w∧(j≤(Bt e.2.Q).length)) (λ(gh:Nat×Option Addr×Nat)=>match gh with | (j,oo2,co2)=>(Bt e.2.Q).length - j) (0,_,_) ⟨o.hs,u,kxt _⟩ ?_
 rintro ⟨j,oo2,co2⟩ a w ⟨o,u,hj⟩
 refine th<|th<|rg<|qm o rfl λo=>qm o rfl λo=>qv o (Cn o Bn rfl) λo=>qv o (Am o rfl rfl) λo=>re<|tn<|cs o rfl (λhb=>?_) (λhb=>?_)
 replace hb:=of_decide_eq_true hb
 refine wk<|tn<|?_
 have hjc:j < (Bt e.2.Q).length:=by omega
 have hBl:(A ++ ((Bt e.2.Q).take j).map (Hp i)).length≤A.length+j:=by simp;omega
 refine th<|wb<|rg<|qm o rfl λo=>?_
 iterate 3 refine qm o rfl λo=>?_
 refine qv o (Es o Bn sizeOf3 rfl rfl rfl (by omega) ((u.ld.rdO t2).some (Dl (l:=(Bt e.2.Q)) (by omega)))) λo=>qv o (Ap o isAgg3 rfl (u.ld.elO t2 (Eu (l:=(Bt e.2.Q)) (k:=j) (by omega)))) λo=>qv o (Gk [_,_,_] [none,none,none,some (.slice none 0 0)] o ⟨rfl,rfl,rfl,trivial⟩ (λw=>by kernel_rfl)) λo=>ls<|bw (e:=52) (sz:=4) (Cw [Hp i ((Bt e.2.Q)[j]'hjc)]) o u λb w u o=>ls<|apI o rfl u underlying45 Yy rfl (by decide) rfl rfl t2 (Mn [Hp i ((Bt e.2.Q)[j]'hjc)]) (u.rdO t0) (Mm [Hp i ((Bt e.2.Q)[j]'hjc)]) (by omega) (by unfold maxLen;omega) λoa c w a hU o=>?_
 replace u:=hU _ (.tail (.tail .head))
 replace u:=u.drop .head
 rw [Mw] at u
 refine qa o rfl λo=>re<|bn<|tn<|?_
 have hBn:(A ++ ((Bt e.2.Q).take j).map (Hp i)).length+1=(A ++ ((Bt e.2.Q).take (j+1)).map (Hp i)).length:=by rw [← K9 hjc];simp;omega
 rw [kxw,K9 hjc] at u
 rw [hBn] at u o
 refine rg<|qm o rfl λo=>qv o (Dx (r:=(((j+1):Nat):Int)) o rfl rfl rfl (by omega)) λo=>qa o rfl λo=>re<|tn<|?_
 replace u:=u.pk [0,0,0] rfl
 exact ⟨(j+1,_,_),⟨o.hs,u,(by omega)⟩,(by dsimp only;omega)⟩
 replace hb:=kyd.1 (of_decide_eq_false hb)
 refine we<|tx<|tx<|bx<|bn<|tn<|?_
 have hfin:=Qs hx hA0 (j:=j) (by omega)
 rw [hfin] at u o
 refine rg<|qm o rfl λo=>qv o (Dx (r:=(((i+1):Nat):Int)) o rfl rfl rfl (by omega)) λo=>qa o rfl λo=>re<|tn<|?_
 replace u:=u.pk [0,0] rfl
 exact ⟨(i+1,l3,_,_),⟨o.hs,u,⟨hl3,hf3,by omega,λ_=>hfault⟩⟩,(by dsimp only;omega)⟩
 replace hb:=of_decide_eq_false hb
 refine we<|tx<|tx<|bx<|tn<|th<|rg<|qm o rfl λo=>qa o rfl λo=>re<|tn<|wr<|?_
 have hfin:=Sz (lk:=k.Lk) (xs:=xs) hi0 (by first | exact .inr hb | exact .inl (by omega))
 rw [hfin] at u o
 exact r1 o results8 rfl ⟨l2,oo,co,rfl,hl2,hf2,u.endMut⟩
 replace hb:=kyd.1 (of_decide_eq_false hb)
 iterate 5 refine qn o λo=>?_
 refine qv o (Ac o rfl rfl) λo=>re<|tn<|cf o rfl<|we<|tx<|tx<|bx<|tn<|th<|rg<|qm o rfl λo=>qa o rfl λo=>re<|tn<|wr<|?_
 have hfin:=Sz (lk:=k.Lk) (xs:=xs) hi0 (by first | exact .inr hb | exact .inl (by omega))
 rw [hfin] at u o
 exact r1 o results8 rfl ⟨l2,oo,co,rfl,hl2,hf2,u.endMut⟩
end Go.LM.SWAPS
namespace Go.LM.SWAPS
open Go Go.LL Go.MD Go.LM Go.Proofs Go.MD.SWAPS Go.Proofs.Tryz
set_option maxRecDepth 100000
set_option maxHeartbeats 4000000
theorem rdX {ro:Option Nat} {P:Program} {Q:Exit→Act→World→Prop} [NoOut Q] {a:Act} {w w0:World} {M:Nat→Prop} {Hs:List PH} {L:List HA} {S:World→Prop} (z:Nat) {id:Nat} {l:List Oper} (hS:St w0 M Hs L w) (hm:P.follows .mixedOrders=true)
    (h:∀ w,St w0 M Hs L w→wpD P l.toArray Q S z l.length (Array.replicate l.length false) a w) (hd:l.all Em=true:=by rfl):wq ro P (Code.region id l.toArray true) Q a w:=
  rd hm (h _ hS.drew) hd
theorem St.endMut1 {w0 w:World} {Hs:List PH} {A B:HA} (hS:St w0 A.fp Hs [B] w):Mut w0 A B w:=⟨hS.keep,hS.ok _ (.head _),fun b hb=>(hS.own _ (.head _) b hb).1.symm⟩
def S3m (h:PH) (bx:Nat) (cs:List Value) (g:MGh) (w:World):Prop:=Lds [h] [blk bx (.cells cs.toArray 159 (0,0))] w∧w.cell? ⟨g.p,11,none⟩=some (.pointer (some ⟨g.pm,0,none⟩))∧True
theorem Hc:FA 66 3 11:=fun _ _=>by kernel_rfl
theorem Jah:FA 66 7 15:=fun _ _=>by kernel_rfl
theorem JaU {w0:World} {h:PH} (hl:h.le w0) {g:MGh} {k:KS} {l:List (TG×TS)} (ho:(mA g k l).ok (hp w0)) (hd:∀ b,(mA g k l).fp b→h b=none) (i kd:Int) :
 Tot Tryz.prog 76 #[.pointer (some ⟨g.p,0,none⟩),i6 i,i6 kd] w0 (λv w'=>v=.agg #[i6 16,i6 i,i6 kd,i6 0,i6 0]∧Mut w0 (mA g k l) (mA g { k with Fault:=kd,Faulty:=i } l) w'):=by
 refine fn0 func76 rfl ntmps76 rfl rfl λa o=>?_
 have u:St w0 (mA g k l).fp [h] [mA g k l] w0:=.start1 (by simpa using hl) ho (λb hb x hx=>by simp at hx;subst hx;exact hd b hb)
 refine th<|rg<|ls<|Aq o rfl u zeroValue48 rfl λbv w a u o=>re<|tn<|?_
 replace u:=u.pk [1,0] rfl
 refine th<|rg<|qm o rfl λo=>qm o rfl λo=>qv o (Af o rfl) λo=>qf o Ow rfl λo=>ls<|Jdz o u rfl rfl λw u=>re<|tn<|th<|rg<|qm o rfl λo=>qm o rfl λo=>qv o (Af o rfl) λo=>qf o Jah rfl λo=>ls<|Jci o u rfl rfl λw u=>re<|tn<|th<|rg<|qm o rfl λo=>qm o rfl λo=>qv o (Gk [_,_,_] [none,none,none,some (i6 0),some (i6 0)] o ⟨rfl,rfl,rfl,trivial⟩ (λw=>by kernel_rfl)) λo=>ls<|Ar o u sizeOf48 rfl rfl rfl rfl (Ak rfl) (.tail .head) λw u=>re<|tn<|wr<|Go.LM.r1c (vs:=[i6 16,i6 i,i6 kd,i6 0,i6 0]) (.inl rfl) o Tryz.results76 rfl Tryz.isAgg48 Tryz.sizeOf48 rfl (u.ld.cellsB t1) ⟨rfl,?_⟩
 exact St.endMut1 (u.drop (.tail .head))
theorem Jhj {w0:World} {h:PH} (hl:h.le w0) {g:MGh} {k:KS} {l:List (TG×TS)} (ho:(mA g k l).ok (hp w0)) (hd:∀ b,(mA g k l).fp b→h b=none) (hf:MF h g k l) {i:Nat} {e:TG×TS} (he:l[i]? = some e) (hQ:e.2.Q.length≤2) {m:MS} (hi:MInv m) (hs:Sim m k.R) (hw:k.R.W.length≤1000) (n:Int) :
 Tot Tryz.prog 40 #[.pointer (some ⟨g.p,0,none⟩),i6 ((i:Nat):Int),i6 n] w0 (λv w'=>∃ g2 k2 l2,v=.agg (evC (Mq (i:Int) n m k.Lk k.Fault k.Faulty e.2).ev).toArray∧Aft h g k l i (Mq (i:Int) n m k.Lk k.Fault k.Faulty e.2) g2 k2 l2∧Mut w0 (mA g k l) (mA g2 k2 l2) w'):=by
 have hil:=Jbd he
 refine fn0 func40 rfl ntmps40 rfl rfl λa o=>?_
 have u:St w0 (mA g k l).fp [h] [mA g k l] w0:=.start1 (by simpa using hl) ho (λb hb x hx=>by simp at hx;subst hx;exact hd b hb)
 refine th<|rg<|ls<|Aq o rfl u zeroValue48 rfl λbv w a u o=>re<|tn<|th<|rg<|qm o rfl λo=>qv o (Af o rfl) λo=>qf o Dy rfl λo=>qv o (Ap o isAgg64 rfl (Ai w _ ▸ Aw (u.ld.ok _ t1) rfl)) λo=>qm o rfl λo=>qv o (Es o Po sizeOf105 rfl rfl rfl (by omega) ((Kd (u.ld.ok _ t1)).some (Hj (i:=i) (by omega)))) λo=>qv o (Ap o isAgg105 rfl (elR (Kd (u.ld.ok _ t1)) (Hl he))) λo=>qv o (Af o rfl) λo=>qf o Du rfl λo=>qv o (Ap o isAgg98 rfl (Ai w _ ▸ Az (u.ld.ok _ t1) (Au he) rfl)) λo=>qm o rfl λo=>ls<|c1 o rfl call73 (JdE (u.hs _ t0) (u.ok _ t1) (λb hb=>(u.own _ t1 b hb).2 _ t0) hf he hQ n) ⟨rfl,rfl,trivial⟩ (λv w a hR o=>?_)
 obtain ⟨e2,rfl,et1,et2,et3,hf2,hmut⟩:=hR
 replace u:=u.mut hmut (.tail .head)
 clear hmut
 have hX2:=Iv (e2:=e2) (X0 he)
 rw [et3] at hX2
 generalize l.set i e2=l2 at u hf2 hX2
 refine qm o rfl λo=>?_
 iterate 2 refine qv o (Dt o rfl rfl) λo=>?_
 refine ls<|Aq o rfl u zeroValue159 rfl λbx w a u o=>ls<|Ar o u sizeOf159 rfl rfl rfl rfl (Ak rfl) .head λw u=>qa o rfl λo=>re<|tn<|th<|th<|rg<|qf o Fa rfl λo=>qB o isAgg3 rfl u t0 rfl λo=>qv o (Ah o rfl rfl) λo=>re<|tn<|cs o rfl (λhb=>?_) (λhb=>?_)
 replace hb:=of_decide_eq_true hb
 refine th<|rdX (S:=S3m h bx [i6 (Bb e.2.Q n).1.Kind,i6 (Bb e.2.Q n).1.Line,i6 (Bb e.2.Q n).1.Cell,i6 (Bb e.2.Q n).1.N] g) 9 u wide λw u=>?_
 have hd:S3m h bx [i6 (Bb e.2.Q n).1.Kind,i6 (Bb e.2.Q n).1.Line,i6 (Bb e.2.Q n).1.Cell,i6 (Bb e.2.Q n).1.N] g w:=⟨(u.ly [0] rfl),Ai _ _ ▸ Aw (u.ok _ t2) rfl,trivial⟩
 refine ds 0 hd o rfl (Aa o rfl) λo=>ds 1 hd o rfl (Af o rfl) λo=>ds 2 hd o rfl (Ad o Hc rfl) λo=>dq 3 hd o rfl (λw hl=>Ap o isAgg63 rfl hl.2.1) λo=>ds 4 hd o rfl (Ad o Nc rfl) λo=>dq 5 hd o rfl (λw hl=>eB o isAgg3 rfl hl.1 t0 rfl) λo=>ds 6 hd o rfl (Ad o Pu rfl) λo=>dq 7 hd o rfl (λw hl=>eB o isAgg3 rfl hl.1 t0 rfl) λo=>dz 8 rfl<|c1 o rfl call74 (Xk (u.hs _ t0) (u.ok _ t2) (λb hb=>(u.own _ t2 b hb).2 _ t0) hf2 hi hs hw _ _) ⟨rfl,rfl,rfl,trivial⟩ (λv w a hR o=>?_)
 obtain ⟨kg,R,-,hs2,hw2,hf3,hmut⟩:=hR
 replace u:=u.mut hmut (.tail (.tail .head))
 clear hmut
 have hd:S3m h bx [i6 (Bb e.2.Q n).1.Kind,i6 (Bb e.2.Q n).1.Line,i6 (Bb e.2.Q n).1.Cell,i6 (Bb e.2.Q n).1.N] g w:=⟨(u.ly [0] rfl),Ai _ _ ▸ Aw (u.ok _ t2) rfl,trivial⟩
 refine ⟨λ_=>hd,?_⟩
 refine dE<|tn<|th<|rg<|qm o rfl λo=>qf o Nc rfl λo=>qB o isAgg3 rfl u t0 rfl λo=>qf o Pu rfl λo=>qB o isAgg3 rfl u t0 rfl λo=>qv o (Gk [_,_,_,_] [none,none,none,none,some (i6 0)] o ⟨rfl,rfl,rfl,rfl,trivial⟩ (λw=>by kernel_rfl)) λo=>ls<|Ar o u sizeOf48 rfl rfl rfl rfl (Ak rfl) (.tail .head) λw u=>re<|tn<|wr<|tr<|?_
 have hr:Mq (i:Int) n m k.Lk k.Fault k.Faulty e.2=⟨⟨12,(i:Int),(Bb e.2.Q n).1.Cell,(Bb e.2.Q n).1.N,0⟩,Be m (Bb e.2.Q n).1.Cell (Bb e.2.Q n).1.N,k.Lk,k.Fault,k.Faulty,{ e.2 with Q:=(Bb e.2.Q n).2.2 }⟩:=by unfold Mq;rw [if_pos hb]
 rw [hr]
 refine Go.LM.r1c (vs:=[i6 (12:Int),i6 ((i:Nat):Int),i6 (Bb e.2.Q n).1.Cell,i6 (Bb e.2.Q n).1.N,i6 (0:Int)]) (.inl rfl) o results40 rfl isAgg48 sizeOf48 rfl (u.ld.cellsB t1) ⟨{ g with kg:=kg },{ k with R:=R },l2,rfl,⟨rfl,rfl,hs2,hw2,rfl,rfl,rfl,hX2,rfl,rfl,hf3⟩,?_⟩
 exact St.endMut1 (u.pk [2] rfl)
 replace hb:=of_decide_eq_false hb
 refine wk<|tn<|th<|th<|rg<|qf o Fa rfl λo=>qB o isAgg3 rfl u t0 rfl λo=>qv o (Ah o rfl rfl) λo=>re<|tn<|cs o rfl (λhb=>?_) (λhb=>?_)
 replace hb:=of_decide_eq_true hb
 refine th<|rg<|qm o rfl λo=>qv o (Gk [_,_] [none,none,some (i6 0),some (i6 0),some (i6 0)] o ⟨rfl,rfl,trivial⟩ (λw=>by kernel_rfl)) λo=>ls<|Ar o u sizeOf48 rfl rfl rfl rfl (Ak rfl) (.tail .head) λw u=>re<|tn<|wr<|tr<|?_
 have hr:Mq (i:Int) n m k.Lk k.Fault k.Faulty e.2=⟨⟨14,(i:Int),0,0,0⟩,m,k.Lk,k.Fault,k.Faulty,{ e.2 with Q:=(Bb e.2.Q n).2.2 }⟩:=by unfold Mq;rw [if_neg (by assumption),if_pos hb]
 rw [hr]
 refine Go.LM.r1c (vs:=[i6 (14:Int),i6 ((i:Nat):Int),i6 (0:Int),i6 (0:Int),i6 (0:Int)]) (.inl rfl) o results40 rfl isAgg48 sizeOf48 rfl (u.ld.cellsB t1) ⟨g,k,l2,rfl,⟨rfl,rfl,hs,by omega,rfl,rfl,rfl,hX2,rfl,rfl,hf2⟩,?_⟩
 exact St.endMut1 (u.pk [2] rfl)
 replace hb:=of_decide_eq_false hb
 refine wk<|tn<|th<|rdX (S:=S3m h bx [i6 (Bb e.2.Q n).1.Kind,i6 (Bb e.2.Q n).1.Line,i6 (Bb e.2.Q n).1.Cell,i6 (Bb e.2.Q n).1.N] g) 7 u wide λw u=>?_
 have hd:S3m h bx [i6 (Bb e.2.Q n).1.Kind,i6 (Bb e.2.Q n).1.Line,i6 (Bb e.2.Q n).1.Cell,i6 (Bb e.2.Q n).1.N] g w:=⟨(u.ly [0] rfl),Ai _ _ ▸ Aw (u.ok _ t2) rfl,trivial⟩
 refine ds 0 hd o rfl (Aa o rfl) λo=>ds 1 hd o rfl (Af o rfl) λo=>ds 2 hd o rfl (Ad o Hc rfl) λo=>dq 3 hd o rfl (λw hl=>Ap o isAgg63 rfl hl.2.1) λo=>ds 4 hd o rfl (Ad o Ju rfl) λo=>dq 5 hd o rfl (λw hl=>eB o isAgg3 rfl hl.1 t0 rfl) λo=>dz 6 rfl<|c1 o rfl call75 (JeW (u.hs _ t0) (u.ok _ t2) (λb hb=>(u.own _ t2 b hb).2 _ t0) hf2 hi hs hw _) ⟨rfl,rfl,trivial⟩ (λv w a hR o=>?_)
 obtain ⟨kg,R,-,hs2,hw2,hf3,hmut⟩:=hR
 replace u:=u.mut hmut (.tail (.tail .head))
 clear hmut
 have hd:S3m h bx [i6 (Bb e.2.Q n).1.Kind,i6 (Bb e.2.Q n).1.Line,i6 (Bb e.2.Q n).1.Cell,i6 (Bb e.2.Q n).1.N] g w:=⟨(u.ly [0] rfl),Ai _ _ ▸ Aw (u.ok _ t2) rfl,trivial⟩
 refine ⟨λ_=>hd,?_⟩
 refine dE<|tn<|th<|rg<|qm o rfl λo=>qf o Ju rfl λo=>qB o isAgg3 rfl u t0 rfl λo=>qv o (Gk [_,_,_] [none,none,none,some (i6 0),some (i6 0)] o ⟨rfl,rfl,rfl,trivial⟩ (λw=>by kernel_rfl)) λo=>ls<|Ar o u sizeOf48 rfl rfl rfl rfl (Ak rfl) (.tail .head) λw u=>re<|tn<|wr<|?_
 have hr:Mq (i:Int) n m k.Lk k.Fault k.Faulty e.2=⟨⟨13,(i:Int),(Bb e.2.Q n).1.Line,0,0⟩,Eb m (Bb e.2.Q n).1.Line,k.Lk,k.Fault,k.Faulty,{ e.2 with Q:=(Bb e.2.Q n).2.2 }⟩:=by unfold Mq;rw [if_neg (by assumption),if_neg (by assumption)]
 rw [hr]
 refine Go.LM.r1c (vs:=[i6 (13:Int),i6 ((i:Nat):Int),i6 (Bb e.2.Q n).1.Line,i6 (0:Int),i6 (0:Int)]) (.inl rfl) o results40 rfl isAgg48 sizeOf48 rfl (u.ld.cellsB t1) ⟨{ g with kg:=kg },{ k with R:=R },l2,rfl,⟨rfl,rfl,hs2,by show R.W.length≤k.R.W.length+1;omega,rfl,rfl,rfl,hX2,rfl,rfl,hf3⟩,?_⟩
 exact St.endMut1 (u.pk [2] rfl)
end Go.LM.SWAPS
namespace Go.LM.SWAPS
open Go Go.LL Go.MD Go.LM Go.Proofs Go.MD.SWAPS Go.Proofs.Tryz
set_option maxRecDepth 100000
set_option maxHeartbeats 4000000
theorem X9 {w:World} {a b:TG} (et:a.tp=b.tp) (eb:a.bp=b.bp) (h:w.cell? ⟨a.tp,6,none⟩=some (.pointer (some ⟨a.bp,0,none⟩))):w.cell? ⟨b.tp,6,none⟩=some (.pointer (some ⟨b.bp,0,none⟩)):=by rw [← et,← eb];exact h
def S4m (h:PH) (b6:Nat) (y:api_Instr) (oE:Option Addr) (cE:Nat) (oF:Option Addr) (cF:Nat) (g:MGh) (k:KS) (tp bp:Nat) (w:World):Prop:=Lds [h] [blk b6 (.cells [.int .i64 y.Kind,.int .i64 y.A,.int .i64 y.B,.slice oE y.E.length cE,.slice oF y.F.length cF,.int .i64 y.To].toArray 157 (0,0))] w∧w.cell? ⟨g.p,11,none⟩=some (.pointer (some ⟨g.pm,0,none⟩))∧w.cell? ⟨g.p,0,none⟩=some (.slice g.u.o0 k.U.Lines.length g.u.c0)∧w.cell? ⟨tp,6,none⟩=some (.pointer (some ⟨bp,0,none⟩))
theorem Jag:FA 66 0 0:=fun _ _=>by kernel_rfl
theorem Jfn {w0:World} {h:PH} (hl:h.le w0) {g:MGh} {k:KS} {l:List (TG×TS)} (ho:(mA g k l).ok (hp w0)) (hd:∀ b,(mA g k l).fp b→h b=none) (hf:MF h g k l) {i:Nat} {tg:TG} {x:TS} (he:l[i]? = some (tg,x)) (hQ:x.Q.length≤2) {m:MS} (hi:MInv m) (hs:Sim m k.R) (hw:k.R.W.length≤1000) {p4 p5 p6:Int} (ok:TOk p4 p5 p6 (x.th none)) (hst:Stop (x.th none)) (hlt:x.Fault=0→x.At < (x.C.L.length:Int)) (hp4:p4=(m.l.length:Int)) (hpU:p4=(k.U.Lines.length:Int)) (hp6:p6=(k.Lk.length:Int)) :
 Tot Tryz.prog 41 #[.pointer (some ⟨g.p,0,none⟩),i6 ((i:Nat):Int)] w0 (λv w'=>∃ g2 k2 l2,v=.agg (evC (Di (i:Int) k.U.Lines m k.Lk k.Fault k.Faulty x).ev).toArray∧Aft h g k l i (Di (i:Int) k.U.Lines m k.Lk k.Fault k.Faulty x) g2 k2 l2∧Mut w0 (mA g k l) (mA g2 k2 l2) w'):=by
 have hil:=Jbd he
 have hX:=X0 he
 refine fn0 func41 rfl ntmps41 rfl rfl λa o=>?_
 have u:St w0 (mA g k l).fp [h] [mA g k l] w0:=.start1 (by simpa using hl) ho (λb hb x hx=>by simp at hx;subst hx;exact hd b hb)
 refine th<|rg<|ls<|Aq o rfl u zeroValue48 rfl λbv w a u o=>re<|tn<|th<|rg<|qm o rfl λo=>qv o (Af o rfl) λo=>qf o Dy rfl λo=>qv o (Ap o isAgg64 rfl (Ai w _ ▸ Aw (u.ld.ok _ t1) rfl)) λo=>qm o rfl λo=>qv o (Es o Po sizeOf105 rfl rfl rfl (by omega) ((Kd (u.ld.ok _ t1)).some (Hj (i:=i) (by omega)))) λo=>qv o (Ap o isAgg105 rfl (elR (Kd (u.ld.ok _ t1)) (Hl he))) λo=>qa o rfl λo=>re<|tn<|th<|th<|rg<|qm o rfl λo=>qv o (Af o rfl) λo=>qf o Ll rfl λo=>qv o (Ap o isAgg3 rfl (Ai w _ ▸ Az (u.ld.ok _ t1) (Au he) rfl)) λo=>qv o (Bg o rfl rfl) λo=>re<|tn<|cs o rfl (λhb=>?_) (λhb=>?_)
 replace hb:=of_decide_eq_true hb
 refine th<|rg<|qm o rfl λo=>?_
 iterate 2 refine qm o rfl λo=>?_
 refine qv o (Af o rfl) λo=>qf o Ll rfl λo=>qv o (Ap o isAgg3 rfl (Ai w _ ▸ Az (u.ld.ok _ t1) (Au he) rfl)) λo=>ls<|c1 o rfl call76 (JaU (u.hs _ t0) (u.ok _ t1) (λb hb=>(u.own _ t1 b hb).2 _ t0) _ _) ⟨rfl,rfl,rfl,trivial⟩ (λv w a hR o=>?_)
 obtain ⟨rfl,hmut⟩:=hR
 replace u:=u.mut hmut (.tail .head)
 clear hmut
 refine ls<|Ar o u sizeOf48 rfl rfl rfl rfl (Ak rfl) .head λw u=>re<|tn<|wr<|tr<|?_
 have hq:Di (i:Int) k.U.Lines m k.Lk k.Fault k.Faulty x=⟨⟨16,(i:Int),x.Fault,0,0⟩,m,k.Lk,x.Fault,(i:Int),x⟩:=by unfold Di;rw [if_neg hb]
 rw [hq]
 refine Go.LM.r1c (vs:=[i6 16,i6 (i:Int),i6 x.Fault,i6 0,i6 0]) (.inl rfl) o results41 rfl isAgg48 sizeOf48 rfl (u.ld.cellsB t0) ⟨g,{ k with Fault:=x.Fault,Faulty:=(i:Int) },l,rfl,⟨rfl,rfl,hs,kyj _,rfl,rfl,rfl,X0 he,rfl,rfl,⟨hf.lc,hf.lr,hf.kf,hf.th⟩⟩,?_⟩
 exact St.endMut1 (u.pk [1] rfl)
 replace hb:=kzc.1 (of_decide_eq_false hb)
 refine wk<|tn<|?_
 have hz:x.Fault=0:=hb
 have hrC:=(hf.th _ (Au he)).2
 have hat:=hlt hz
 have h0:0≤x.At:=ok.at0
 obtain ⟨y,hy⟩:∃ y,getI x.C.L x.At=some y:=⟨_,Al (j:=x.At.toNat) (by omega) (by omega)⟩
 have hy2:x.C.L[x.At.toNat]? = some y:=(Fh hy).2
 obtain ⟨cy,ey,hcy⟩:=SR.get hrC hy
 obtain ⟨oE,cE,oF,cF,rfl,hcE,hrE,hcF,hrF⟩:=Bv ey
 have hkd:=Oo (c:=x.C) ok.code hy2
 have hEF:=JcL (c:=x.C) ok.code hy2
 have hBB:=Vl (c:=x.C) ok.code hy2
 have hAA:=JbZ (c:=x.C) ok.code hy2
 have hreg:(x.Regs.length:Int)=x.C.Regs:=ok.regs
 rw [← hreg] at hEF hAA
 have hk10:2≤y.Kind∧y.Kind≤10:=(hst.resolve_right (λq=>by have:x.Fault=0:=hz;rcases q.1 with q | q <;> (change x.Fault=_ at q;omega))).2 y hy2
 have hB4:=hBB.2.1
 have hB6:=hBB.2.2.2
 have hRL:k.R.L.length=m.l.length:=by rw [hs.l]
 refine th<|rdS 12 u wide λw u=>dr 0 u o rfl (Aa o rfl) λo=>dr 1 u o rfl (Af o rfl) λo=>dr 2 u o rfl (Ad o Jr rfl) λo=>dr 3 u o rfl (Ad o Ge rfl) λo=>dq 4 u.ld o rfl (λw hl=>Ap o isAgg31 rfl (Ai w _ ▸ Az (hl.ok _ t1) (Au he) rfl)) λo=>dr 5 u o rfl (Aa o rfl) λo=>dr 6 u o rfl (Af o rfl) λo=>dr 7 u o rfl (Ad o Fi rfl) λo=>dq 8 u.ld o rfl (λw hl=>Ap o isAgg3 rfl (Ai w _ ▸ Az (hl.ok _ t1) (Au he) rfl)) λo=>dr 9 u o rfl (Co (xs:=x.C.L) (z:=y) o Jl sizeOf157 rfl rfl hy (SR.oaI hrC (by decide) hy)) λo=>dq 10 u.ld o rfl (λw hl=>An o isAgg157 sizeOf157 rfl rfl (λj v hj=>PH.le.cell (hl.hs _ t0) (hcy j v hj))) λo=>dz 11 rfl<|Aq o rfl u zeroValue157 rfl λb6 w a u o=>⟨λ_=>(u.ly [1,2] rfl),?_⟩
 refine dz 12 rfl<|Ar o u sizeOf157 rfl rfl rfl rfl (Ak rfl) .head λw u=>⟨λh=>absurd rfl h,?_⟩
 refine dE<|tn<|th<|rg<|qm o rfl λo=>qf o Fp rfl λo=>qB o isAgg79 rfl u t0 rfl λo=>ls<|c1 o rfl call77 (Jcp (u.hs _ t0) (u.ok _ t2) (λb hb=>(u.own _ t2 b hb).2 _ t0) hf he hEF.1 hcE hrE) ⟨rfl,rfl,trivial⟩ (λv w a hR o=>?_)
 obtain ⟨⟨tg1,xn⟩,rfl,et,eb,ex,hf1,hmut⟩:=hR
 simp only at et eb ex
 replace u:=u.mut hmut (.tail (.tail .head))
 clear hmut
 replace ex:=ex.symm;subst ex
 have he1:=Gz (e2:=(tg1,x)) he
 have hX1:=Iv (e2:=(tg1,x)) hX
 generalize hlg:l.set i (tg1,x)=l1 at u hf1 he1 hX1
 clear hlg
 rw [← et] at o
 refine qm o rfl λo=>?_
 iterate 2 refine qv o (Dt o rfl rfl) λo=>?_
 iterate 2 refine qa o rfl λo=>?_
 refine re<|tn<|th<|rg<|qm o rfl λo=>qf o Ij rfl λo=>qB o isAgg79 rfl u t0 rfl λo=>ls<|c1 o rfl call77 (Jcp (u.hs _ t0) (u.ok _ t2) (λb hb=>(u.own _ t2 b hb).2 _ t0) hf1 he1 hEF.2 hcF hrF) ⟨rfl,rfl,trivial⟩ (λv w a hR o=>?_)
 obtain ⟨⟨tg2,xn⟩,rfl,et,eb,ex,hf2,hmut⟩:=hR
 simp only at et eb ex
 replace u:=u.mut hmut (.tail (.tail .head))
 clear hmut
 replace ex:=ex.symm;subst ex
 have he2:=Gz (e2:=(tg2,x)) he1
 have hX2:=Iv (e2:=(tg2,x)) hX1
 generalize hlg:l1.set i (tg2,x)=l2 at u hf2 he2 hX2
 clear hlg
 rw [← et] at o
 refine qm o rfl λo=>?_
 iterate 2 refine qv o (Dt o rfl rfl) λo=>?_
 iterate 2 refine qa o rfl λo=>?_
 refine re<|tn<|th<|rg<|qm o rfl λo=>qf o Ch rfl λo=>qB o isAgg3 rfl u t0 rfl λo=>qv o (Gk [_,_] [some (i6 0),none,none,some (i6 0),some (i6 0)] o ⟨rfl,rfl,trivial⟩ (λw=>by kernel_rfl)) λo=>ls<|Aq o rfl u zeroValue48 rfl λb11 w a u o=>ls<|Ar o u sizeOf48 rfl rfl rfl rfl (Ak rfl) .head λw u=>re<|tn<|mid (λa w=>∃ (g2:MGh) (k2:KS) (l2:List (TG×TS)) (tg2:TG) (x2:TS) (ev:api_Event) (m2:MS),Fr 248 [(5,.pointer (some ⟨tg2.tp,0,none⟩)),(4,PT bv),(11,PT b11)] a∧St w0 (mA g k l).fp [h] [mA g2 k2 l2,bk bv [i6 0,i6 0,i6 0,i6 0,i6 0] 48,blk b11 (.cells (evC ev).toArray 48 (0,0))] w∧l2[i]? = some (tg2,x2)∧l2.map (·.2)=(l.map (·.2)).set i x2∧MF h g2 k2 l2∧g2.p=g.p∧g2.pm=g.pm∧k2.U=k.U∧k2.Crashed=k.Crashed∧Sim m2 k2.R∧k2.R.W.length≤k.R.W.length+1∧x2.Fault=0∧TOk p4 p5 p6 (({ x2 with At:=x2.At+1 }:TS).th none)∧Di (i:Int) k.U.Lines m k.Lk k.Fault k.Faulty x=⟨ev,m2,k2.Lk,k2.Fault,k2.Faulty,done x2⟩) ?_ ?_
 refine th<|rg<|qf o Bq rfl λo=>qB o isAgg3 rfl u t1 rfl λo=>re<|tn<|wb<|th<|rg<|qv o (Ah o rfl rfl) λo=>qa o rfl λo=>re<|tn<|cs o rfl (λhb=>?_) (λhb=>?_)
 replace hb:=of_decide_eq_true hb
 refine th<|rdX (S:=S4m h b6 y oE cE oF cF g k (tg2,x).1.tp (tg2,x).1.bp) 12 u wide λw u=>?_
 have hd:S4m h b6 y oE cE oF cF g k (tg2,x).1.tp (tg2,x).1.bp w:=⟨(u.ly [1] rfl),Ai _ _ ▸ Aw (u.ok _ t3) rfl,Ai _ _ ▸ Aw (u.ok _ t3) rfl,(Ai w _ ▸ Az (o:=6) (u.ok _ t3) (Au he2) rfl)⟩
 refine ds 0 hd o rfl (Aa o rfl) λo=>ds 1 hd o rfl (Af o rfl) λo=>ds 2 hd o rfl (Ad o Du rfl) λo=>dq 3 hd o rfl (λw hl=>Ap o isAgg98 rfl hl.2.2.2) λo=>ds 4 hd o rfl (Ad o Ch rfl) λo=>dq 5 hd o rfl (λw hl=>eB o isAgg3 rfl hl.1 t0 rfl) λo=>dz 6 rfl<|c1 o rfl call78 (JdI (u.hs _ t0) (u.ok _ t3) (λb hb=>(u.own _ t3 b hb).2 _ t0) hf2 he2 hQ y.B) ⟨rfl,rfl,trivial⟩ (λv w a hR o=>?_)
 obtain ⟨⟨tg3,xn⟩,rfl,et,eb,ex,hf3,hmut⟩:=hR
 simp only at et eb ex
 replace u:=u.mut hmut (.tail (.tail (.tail .head)))
 clear hmut
 replace ex:=ex.symm;subst ex
 have he3:=Gz (e2:=(tg3,x)) he2
 have hX3:=Iv (e2:=(tg3,x)) hX2
 generalize hlg:l2.set i (tg3,x)=l3 at u hf3 he3 hX3
 clear hlg
 rw [← et] at o
 have hd:S4m h b6 y oE cE oF cF g k (tg2,x).1.tp (tg2,x).1.bp w:=⟨(u.ly [1] rfl),Ai _ _ ▸ Aw (u.ok _ t3) rfl,Ai _ _ ▸ Aw (u.ok _ t3) rfl,X9 et eb (Ai w _ ▸ Az (o:=6) (u.ok _ t3) (Au he3) rfl)⟩
 refine ⟨λ_=>hd,?_⟩
 refine ds 7 hd o rfl (Aa o rfl) λo=>ds 8 hd o rfl (Dt o rfl rfl) λo=>ds 9 hd o rfl (Dt o rfl rfl) λo=>ds 10 hd o rfl (Ca o rfl) λo=>ds 11 hd o rfl (Ca o rfl) λo=>dE<|tn<|th<|rg<|qf o Dv rfl λo=>ls<|Bl o u sizeOf3 rfl rfl rfl rfl .head .zero λw u=>re<|tn<|th<|th<|rg<|qm o rfl λo=>qv o (Bi o rfl) λo=>re<|tn<|cs o rfl (λhb=>?_) (λhb=>?_)
 replace hb:=bnt hb
 have hown : ¬ (He x.Q y.B).2=true:=by rw [hb];decide
 have hBM:y.B.toNat < k.R.L.length:=by omega
 have hB0:0≤y.B:=(hB4 (by omega)).1
 refine th<|rxS 12 u wide (by kernel_rfl) λw u=>xm u o rfl λo=>xr u o (Af o rfl) λo=>xr u o (Ad o Hc rfl) λo=>xq u.ld o (λw hl=>Ap o isAgg63 rfl (Ai w _ ▸ Aw (hl.ok _ t3) rfl)) λo=>xr u o (Af o rfl) λo=>xr u o (Ad o Ks rfl) λo=>xq u.ld o (λw hl=>Ap o isAgg28 rfl (Ai w _ ▸ Yk (hl.ok _ t3))) λo=>xr u o (Ad o Ch rfl) λo=>xq u.ld o (λw hl=>eB o isAgg3 rfl hl t1 rfl) λo=>xq u.ld o (λw hl=>Es (i:=(y.B).toNat) o Bn sizeOf3 rfl rfl (by omega) (by omega) ((JbG (hl.ok _ t3)).some (Dl (l:=k.R.L) (by omega)))) λo=>xq u.ld o (λw hl=>Ap o isAgg3 rfl (elR (JbG (hl.ok _ t3)) (Eu (l:=k.R.L) (k:=(y.B).toNat) (by omega)))) λo=>xr u o (Ca o rfl) λo=>xe<|tn<|rg<|qf o Dv rfl λo=>ls<|Bl o u sizeOf3 rfl rfl rfl rfl .head .zero λw u=>re<|tn<|th<|rg<|qm o rfl λo=>qf o Kp rfl λo=>ls<|Bl o u sizeOf3 rfl rfl rfl rfl .head (.succ (.succ (.succ .zero))) λw u=>re<|tn<|?_
 have hA0:0≤y.A∧y.A < (x.Regs.length:Int):=hAA (by omega)
 have hAl:y.A.toNat < x.Regs.length:=by omega
 obtain ⟨xn,hxn⟩:∃ q:TS,q={ x with Regs:=x.Regs.set y.A.toNat (k.R.L[(y.B).toNat]'(by omega)) }:=⟨_,rfl⟩
 replace u:=u.pk [3,0,0,0] rfl
 refine rxS 8 u wide (by kernel_rfl) λw u=>xm u o rfl λo=>xr u o (Af o rfl) λo=>xr u o (Ad o Kz rfl) λo=>xq u.ld o (λw hl=>Ap o isAgg28 rfl (Ai w _ ▸ Az (hl.ok _ t0) (Au he3) rfl)) λo=>xr u o (Ad o Dw rfl) λo=>xq u.ld o (λw hl=>eB o isAgg3 rfl hl t2 rfl) λo=>xm u o rfl λo=>xq u.ld o (λw hl=>Es (i:=y.A.toNat) o Bn sizeOf3 rfl rfl (by omega) (by omega) ((Jbh (hl.ok _ t0) (Au he3)).some (Dl (l:=x.Regs) (by omega)))) λo=>xz rfl<|Yr (e2:=(tg3,xn)) (j:=y.A.toNat) o u he3 rfl rfl hAl (by rw [hxn]) λw u=>?_
 have he4:=Gz (e2:=(tg3,xn)) he3
 have hX4:=Iv (e2:=(tg3,xn)) hX3
 have hf4:=MF.set (i:=i) (e:=(tg3,xn)) hf3 (by rw [hxn];exact (hf3.th _ (Au he3)).1) (by rw [hxn];exact (hf3.th _ (Au he3)).2)
 generalize hlg:l3.set i (tg3,xn)=l4 at u hf4 he4 hX4
 clear hlg
 refine bn<|tn<|?_
 replace u:=u.pk [0,2,0] rfl
 have hq:Di (i:Int) k.U.Lines m k.Lk k.Fault k.Faulty x=⟨⟨(1:Int),((i:Nat):Int),y.B,(k.R.L[(y.B).toNat]'(by omega)),(0:Int)⟩,m,k.Lk,k.Fault,k.Faulty,done xn⟩:=by rw [Ed hz hy,Cc,if_pos (by omega)];unfold Qk;rw [if_neg hown,if_neg hown,hxn];rw [← hs.l,Cu hBM]
 exact ⟨_,_,_,tg3,xn,⟨(1:Int),((i:Nat):Int),y.B,(k.R.L[(y.B).toNat]'(by omega)),(0:Int)⟩,_,o.hs,u,he4,hX4,hf4,rfl,rfl,rfl,rfl,hs,kyj _,(by rw [hxn];exact hz),Ea (x2:=xn) ok hat (by rw [hxn]) (by rw [hxn]) (by rw [hxn];exact kxr) (by rw [hxn]),hq⟩
 replace hb:=bnf hb
 have hown:(He x.Q y.B).2=true:=hb
 refine wk<|tn<|th<|rg<|qm o rfl λo=>qf o Kp rfl λo=>ls<|Bl o u sizeOf3 rfl rfl rfl rfl .head (.succ (.succ (.succ .zero))) λw u=>re<|tn<|?_
 have hA0:0≤y.A∧y.A < (x.Regs.length:Int):=hAA (by omega)
 have hAl:y.A.toNat < x.Regs.length:=by omega
 obtain ⟨xn,hxn⟩:∃ q:TS,q={ x with Regs:=x.Regs.set y.A.toNat (He x.Q y.B).1 }:=⟨_,rfl⟩
 replace u:=u.pk [3,0,0,0] rfl
 refine rxS 8 u wide (by kernel_rfl) λw u=>xm u o rfl λo=>xr u o (Af o rfl) λo=>xr u o (Ad o Kz rfl) λo=>xq u.ld o (λw hl=>Ap o isAgg28 rfl (Ai w _ ▸ Az (hl.ok _ t0) (Au he3) rfl)) λo=>xr u o (Ad o Dw rfl) λo=>xq u.ld o (λw hl=>eB o isAgg3 rfl hl t2 rfl) λo=>xm u o rfl λo=>xq u.ld o (λw hl=>Es (i:=y.A.toNat) o Bn sizeOf3 rfl rfl (by omega) (by omega) ((Jbh (hl.ok _ t0) (Au he3)).some (Dl (l:=x.Regs) (by omega)))) λo=>xz rfl<|Yr (e2:=(tg3,xn)) (j:=y.A.toNat) o u he3 rfl rfl hAl (by rw [hxn]) λw u=>?_
 have he4:=Gz (e2:=(tg3,xn)) he3
 have hX4:=Iv (e2:=(tg3,xn)) hX3
 have hf4:=MF.set (i:=i) (e:=(tg3,xn)) hf3 (by rw [hxn];exact (hf3.th _ (Au he3)).1) (by rw [hxn];exact (hf3.th _ (Au he3)).2)
 generalize hlg:l3.set i (tg3,xn)=l4 at u hf4 he4 hX4
 clear hlg
 refine bn<|tn<|?_
 replace u:=u.pk [0,2,0] rfl
 have hq:Di (i:Int) k.U.Lines m k.Lk k.Fault k.Faulty x=⟨⟨(2:Int),((i:Nat):Int),y.B,(He x.Q y.B).1,(0:Int)⟩,m,k.Lk,k.Fault,k.Faulty,done xn⟩:=by rw [Ed hz hy,Cc,if_pos (by omega)];unfold Qk;rw [if_pos hown,if_pos hown,hxn]
 exact ⟨_,_,_,tg3,xn,⟨(2:Int),((i:Nat):Int),y.B,(He x.Q y.B).1,(0:Int)⟩,_,o.hs,u,he4,hX4,hf4,rfl,rfl,rfl,rfl,hs,kyj _,(by rw [hxn];exact hz),Ea (x2:=xn) ok hat (by rw [hxn]) (by rw [hxn]) (by rw [hxn];exact kxr) (by rw [hxn]),hq⟩
 replace hb:=of_decide_eq_false hb
 refine th<|rg<|qv o (Ah o rfl rfl) λo=>qa o rfl λo=>re<|tn<|cs o rfl (λhb=>?_) (λhb=>?_)
 replace hb:=of_decide_eq_true hb
 refine th<|rg<|qf o Dv rfl λo=>ls<|Bl o u sizeOf3 rfl rfl rfl rfl .head .zero λw u=>re<|tn<|th<|rg<|qm o rfl λo=>qf o Kp rfl λo=>ls<|Bl o u sizeOf3 rfl rfl rfl rfl .head (.succ (.succ (.succ .zero))) λw u=>re<|tn<|?_
 have hBU:y.B.toNat < k.U.Lines.length:=by omega
 have hB0:0≤y.B:=(hB4 (by omega)).1
 obtain ⟨L24,hL24⟩:∃ q,q=k.U.Lines[y.B.toNat]:=⟨_,rfl⟩
 refine rdX (S:=S4m h b6 y oE cE oF cF g k (tg2,x).1.tp (tg2,x).1.bp) 20 u wide λw u=>?_
 have hd:S4m h b6 y oE cE oF cF g k (tg2,x).1.tp (tg2,x).1.bp w:=⟨(u.ly [1] rfl),Ai _ _ ▸ Aw (u.ok _ t3) rfl,Ai _ _ ▸ Aw (u.ok _ t3) rfl,(Ai w _ ▸ Az (o:=6) (u.ok _ t3) (Au he2) rfl)⟩
 refine ds 0 hd o rfl (Aa o rfl) λo=>ds 1 hd o rfl (Af o rfl) λo=>ds 2 hd o rfl (Ad o Du rfl) λo=>dq 3 hd o rfl (λw hl=>Ap o isAgg98 rfl hl.2.2.2) λo=>ds 4 hd o rfl (Ad o Bq rfl) λo=>dq 5 hd o rfl (λw hl=>eB o isAgg3 rfl hl.1 t0 rfl) λo=>ds 6 hd o rfl (Aa o rfl) λo=>ds 7 hd o rfl (Af o rfl) λo=>ds 8 hd o rfl (Ad o Jag rfl) λo=>ds 9 hd o rfl (Ad o Et rfl) λo=>dq 10 hd o rfl (λw hl=>Ap o isAgg28 rfl hl.2.2.1) λo=>ds 11 hd o rfl (Ad o Ch rfl) λo=>dq 12 hd o rfl (λw hl=>eB o isAgg3 rfl hl.1 t0 rfl) λo=>ds 13 hd o rfl (Es (i:=y.B.toNat) o Bn sizeOf3 rfl rfl (by omega) (by omega) ((Tl hf.lr).some (Dl (l:=k.U.Lines) (by omega)))) λo=>dq 14 hd o rfl (λw hl=>As (v':=i6 L24) (Ap o isAgg3 rfl (hl.1.elH t0 (Tl hf.lr) (Eu (l:=k.U.Lines) (k:=y.B.toNat) (by omega)))) (by rw [hL24])) λo=>ds 15 hd o rfl (Ad o Ch rfl) λo=>dq 16 hd o rfl (λw hl=>eB o isAgg3 rfl hl.1 t0 rfl) λo=>ds 17 hd o rfl (Aa o rfl) λo=>dq 18 hd o rfl (λw hl=>JfV [_,_,_,_] o ⟨rfl,rfl,rfl,rfl,trivial⟩ (λw=>by kernel_rfl)) λo=>dz 19 rfl<|c1 o rfl call79 (Vh (u.hs _ t0) (u.ok _ t3) (λb hb=>(u.own _ t3 b hb).2 _ t0) hf2 he2 hQ ⟨y.Kind,L24,y.B,(Hb y.E x.Regs).1⟩) ⟨rfl,rfl,trivial⟩ (λv w a hR o=>?_)
 obtain ⟨⟨tg3,xn⟩,-,et,eb,ex,hf3,hmut⟩:=hR
 simp only at et eb ex
 replace u:=u.mut hmut (.tail (.tail (.tail .head)))
 clear hmut
 have hx3:=ex
 have he3:=Gz (e2:=(tg3,xn)) he2
 have hX3:=Iv (e2:=(tg3,xn)) hX2
 generalize hlg:l2.set i (tg3,xn)=l3 at u hf3 he3 hX3
 clear hlg
 rw [← et] at o
 have hd:S4m h b6 y oE cE oF cF g k (tg2,x).1.tp (tg2,x).1.bp w:=⟨(u.ly [1] rfl),Ai _ _ ▸ Aw (u.ok _ t3) rfl,Ai _ _ ▸ Aw (u.ok _ t3) rfl,X9 et eb (Ai w _ ▸ Az (o:=6) (u.ok _ t3) (Au he3) rfl)⟩
 refine ⟨λ_=>hd,?_⟩
 refine dE<|bn<|tn<|?_
 replace u:=u.pk [3,2,0] rfl
 have hq:Di (i:Int) k.U.Lines m k.Lk k.Fault k.Faulty x=⟨⟨(3:Int),((i:Nat):Int),y.B,(Hb y.E x.Regs).1,(0:Int)⟩,m,k.Lk,k.Fault,k.Faulty,done xn⟩:=by rw [Ed hz hy,Cc,if_neg (by omega),if_pos (by omega)];rw [hx3];rw [Cu hBU,← hL24];unfold Sg;rw [show y.Kind=3 by omega]
 exact ⟨_,_,_,tg3,xn,⟨(3:Int),((i:Nat):Int),y.B,(Hb y.E x.Regs).1,(0:Int)⟩,_,o.hs,u,he3,hX3,hf3,rfl,rfl,rfl,rfl,hs,kyj _,(by rw [hx3];exact hz),Ea (x2:=xn) ok hat (by rw [hx3]) (by rw [hx3]) (by rw [hx3]) (by rw [hx3]),hq⟩
 replace hb:=of_decide_eq_false hb
 refine th<|rg<|qv o (Ah o rfl rfl) λo=>qa o rfl λo=>re<|tn<|cs o rfl (λhb=>?_) (λhb=>?_)
 replace hb:=of_decide_eq_true hb
 refine th<|rg<|qf o Dv rfl λo=>ls<|Bl o u sizeOf3 rfl rfl rfl rfl .head .zero λw u=>re<|tn<|rdX (S:=S4m h b6 y oE cE oF cF g k (tg2,x).1.tp (tg2,x).1.bp) 10 u wide λw u=>?_
 have hd:S4m h b6 y oE cE oF cF g k (tg2,x).1.tp (tg2,x).1.bp w:=⟨(u.ly [1] rfl),Ai _ _ ▸ Aw (u.ok _ t3) rfl,Ai _ _ ▸ Aw (u.ok _ t3) rfl,(Ai w _ ▸ Az (o:=6) (u.ok _ t3) (Au he2) rfl)⟩
 refine ds 0 hd o rfl (Aa o rfl) λo=>ds 1 hd o rfl (Af o rfl) λo=>ds 2 hd o rfl (Ad o Du rfl) λo=>dq 3 hd o rfl (λw hl=>Ap o isAgg98 rfl hl.2.2.2) λo=>ds 4 hd o rfl (Ad o Bq rfl) λo=>dq 5 hd o rfl (λw hl=>eB o isAgg3 rfl hl.1 t0 rfl) λo=>ds 6 hd o rfl (Ad o Ch rfl) λo=>dq 7 hd o rfl (λw hl=>eB o isAgg3 rfl hl.1 t0 rfl) λo=>dq 8 hd o rfl (λw hl=>Gk [_,_] [none,none,some (i6 0),some (i6 0)] o ⟨rfl,rfl,trivial⟩ (λw=>by kernel_rfl)) λo=>dz 9 rfl<|c1 o rfl call79 (Vh (u.hs _ t0) (u.ok _ t3) (λb hb=>(u.own _ t3 b hb).2 _ t0) hf2 he2 hQ ⟨y.Kind,y.B,0,0⟩) ⟨rfl,rfl,trivial⟩ (λv w a hR o=>?_)
 obtain ⟨⟨tg3,xn⟩,-,et,eb,ex,hf3,hmut⟩:=hR
 simp only at et eb ex
 replace u:=u.mut hmut (.tail (.tail (.tail .head)))
 clear hmut
 have hx3:=ex
 have he3:=Gz (e2:=(tg3,xn)) he2
 have hX3:=Iv (e2:=(tg3,xn)) hX2
 generalize hlg:l2.set i (tg3,xn)=l3 at u hf3 he3 hX3
 clear hlg
 rw [← et] at o
 have hd:S4m h b6 y oE cE oF cF g k (tg2,x).1.tp (tg2,x).1.bp w:=⟨(u.ly [1] rfl),Ai _ _ ▸ Aw (u.ok _ t3) rfl,Ai _ _ ▸ Aw (u.ok _ t3) rfl,X9 et eb (Ai w _ ▸ Az (o:=6) (u.ok _ t3) (Au he3) rfl)⟩
 refine ⟨λ_=>hd,?_⟩
 refine dE<|bn<|tn<|?_
 replace u:=u.pk [3,2,0] rfl
 have hq:Di (i:Int) k.U.Lines m k.Lk k.Fault k.Faulty x=⟨⟨(4:Int),((i:Nat):Int),y.B,(0:Int),(0:Int)⟩,m,k.Lk,k.Fault,k.Faulty,done xn⟩:=by rw [Ed hz hy,Cc,if_neg (by omega),if_neg (by omega),if_pos (by omega)];rw [hx3];unfold Sg;rw [show y.Kind=5 by omega]
 exact ⟨_,_,_,tg3,xn,⟨(4:Int),((i:Nat):Int),y.B,(0:Int),(0:Int)⟩,_,o.hs,u,he3,hX3,hf3,rfl,rfl,rfl,rfl,hs,kyj _,(by rw [hx3];exact hz),Ea (x2:=xn) ok hat (by rw [hx3]) (by rw [hx3]) (by rw [hx3]) (by rw [hx3]),hq⟩
 replace hb:=of_decide_eq_false hb
 refine th<|rg<|qv o (Ah o rfl rfl) λo=>qa o rfl λo=>re<|tn<|cs o rfl (λhb=>?_) (λhb=>?_)
 replace hb:=of_decide_eq_true hb
 refine th<|rg<|qf o Dv rfl λo=>ls<|Bl o u sizeOf3 rfl rfl rfl rfl .head .zero λw u=>re<|tn<|rdX (S:=S4m h b6 y oE cE oF cF g k (tg2,x).1.tp (tg2,x).1.bp) 10 u wide λw u=>?_
 have hd:S4m h b6 y oE cE oF cF g k (tg2,x).1.tp (tg2,x).1.bp w:=⟨(u.ly [1] rfl),Ai _ _ ▸ Aw (u.ok _ t3) rfl,Ai _ _ ▸ Aw (u.ok _ t3) rfl,(Ai w _ ▸ Az (o:=6) (u.ok _ t3) (Au he2) rfl)⟩
 refine ds 0 hd o rfl (Aa o rfl) λo=>ds 1 hd o rfl (Af o rfl) λo=>ds 2 hd o rfl (Ad o Du rfl) λo=>dq 3 hd o rfl (λw hl=>Ap o isAgg98 rfl hl.2.2.2) λo=>ds 4 hd o rfl (Ad o Bq rfl) λo=>dq 5 hd o rfl (λw hl=>eB o isAgg3 rfl hl.1 t0 rfl) λo=>ds 6 hd o rfl (Ad o Ch rfl) λo=>dq 7 hd o rfl (λw hl=>eB o isAgg3 rfl hl.1 t0 rfl) λo=>dq 8 hd o rfl (λw hl=>Gk [_,_] [none,none,some (i6 0),some (i6 0)] o ⟨rfl,rfl,trivial⟩ (λw=>by kernel_rfl)) λo=>dz 9 rfl<|c1 o rfl call79 (Vh (u.hs _ t0) (u.ok _ t3) (λb hb=>(u.own _ t3 b hb).2 _ t0) hf2 he2 hQ ⟨y.Kind,y.B,0,0⟩) ⟨rfl,rfl,trivial⟩ (λv w a hR o=>?_)
 obtain ⟨⟨tg3,xn⟩,-,et,eb,ex,hf3,hmut⟩:=hR
 simp only at et eb ex
 replace u:=u.mut hmut (.tail (.tail (.tail .head)))
 clear hmut
 have hx3:=ex
 have he3:=Gz (e2:=(tg3,xn)) he2
 have hX3:=Iv (e2:=(tg3,xn)) hX2
 generalize hlg:l2.set i (tg3,xn)=l3 at u hf3 he3 hX3
 clear hlg
 rw [← et] at o
 have hd:S4m h b6 y oE cE oF cF g k (tg2,x).1.tp (tg2,x).1.bp w:=⟨(u.ly [1] rfl),Ai _ _ ▸ Aw (u.ok _ t3) rfl,Ai _ _ ▸ Aw (u.ok _ t3) rfl,X9 et eb (Ai w _ ▸ Az (o:=6) (u.ok _ t3) (Au he3) rfl)⟩
 refine ⟨λ_=>hd,?_⟩
 refine dE<|bn<|tn<|?_
 replace u:=u.pk [3,2,0] rfl
 have hq:Di (i:Int) k.U.Lines m k.Lk k.Fault k.Faulty x=⟨⟨(5:Int),((i:Nat):Int),y.B,(0:Int),(0:Int)⟩,m,k.Lk,k.Fault,k.Faulty,done xn⟩:=by rw [Ed hz hy,Cc,if_neg (by omega),if_neg (by omega),if_neg (by omega),if_pos (by omega)];rw [hx3];unfold Sg;rw [show y.Kind=6 by omega]
 exact ⟨_,_,_,tg3,xn,⟨(5:Int),((i:Nat):Int),y.B,(0:Int),(0:Int)⟩,_,o.hs,u,he3,hX3,hf3,rfl,rfl,rfl,rfl,hs,kyj _,(by rw [hx3];exact hz),Ea (x2:=xn) ok hat (by rw [hx3]) (by rw [hx3]) (by rw [hx3]) (by rw [hx3]),hq⟩
 replace hb:=of_decide_eq_false hb
 refine th<|rg<|qv o (Ah o rfl rfl) λo=>qa o rfl λo=>re<|tn<|cs o rfl (λhb=>?_) (λhb=>?_)
 replace hb:=of_decide_eq_true hb
 refine th<|rg<|qf o Dv rfl λo=>ls<|Bl o u sizeOf3 rfl rfl rfl rfl .head .zero λw u=>re<|tn<|rdX (S:=S4m h b6 y oE cE oF cF g k (tg2,x).1.tp (tg2,x).1.bp) 8 u wide λw u=>?_
 have hd:S4m h b6 y oE cE oF cF g k (tg2,x).1.tp (tg2,x).1.bp w:=⟨(u.ly [1] rfl),Ai _ _ ▸ Aw (u.ok _ t3) rfl,Ai _ _ ▸ Aw (u.ok _ t3) rfl,(Ai w _ ▸ Az (o:=6) (u.ok _ t3) (Au he2) rfl)⟩
 refine ds 0 hd o rfl (Aa o rfl) λo=>ds 1 hd o rfl (Af o rfl) λo=>ds 2 hd o rfl (Ad o Du rfl) λo=>dq 3 hd o rfl (λw hl=>Ap o isAgg98 rfl hl.2.2.2) λo=>ds 4 hd o rfl (Ad o Bq rfl) λo=>dq 5 hd o rfl (λw hl=>eB o isAgg3 rfl hl.1 t0 rfl) λo=>dq 6 hd o rfl (λw hl=>Gk [_] [none,some (i6 0),some (i6 0),some (i6 0)] o ⟨rfl,trivial⟩ (λw=>by kernel_rfl)) λo=>dz 7 rfl<|c1 o rfl call79 (Vh (u.hs _ t0) (u.ok _ t3) (λb hb=>(u.own _ t3 b hb).2 _ t0) hf2 he2 hQ ⟨y.Kind,0,0,0⟩) ⟨rfl,rfl,trivial⟩ (λv w a hR o=>?_)
 obtain ⟨⟨tg3,xn⟩,-,et,eb,ex,hf3,hmut⟩:=hR
 simp only at et eb ex
 replace u:=u.mut hmut (.tail (.tail (.tail .head)))
 clear hmut
 have hx3:=ex
 have he3:=Gz (e2:=(tg3,xn)) he2
 have hX3:=Iv (e2:=(tg3,xn)) hX2
 generalize hlg:l2.set i (tg3,xn)=l3 at u hf3 he3 hX3
 clear hlg
 rw [← et] at o
 have hd:S4m h b6 y oE cE oF cF g k (tg2,x).1.tp (tg2,x).1.bp w:=⟨(u.ly [1] rfl),Ai _ _ ▸ Aw (u.ok _ t3) rfl,Ai _ _ ▸ Aw (u.ok _ t3) rfl,X9 et eb (Ai w _ ▸ Az (o:=6) (u.ok _ t3) (Au he3) rfl)⟩
 refine ⟨λ_=>hd,?_⟩
 refine dE<|bn<|tn<|?_
 replace u:=u.pk [3,2,0] rfl
 have hq:Di (i:Int) k.U.Lines m k.Lk k.Fault k.Faulty x=⟨⟨(6:Int),((i:Nat):Int),y.B,(0:Int),(0:Int)⟩,m,k.Lk,k.Fault,k.Faulty,done xn⟩:=by rw [Ed hz hy,Cc,if_neg (by omega),if_neg (by omega),if_neg (by omega),if_neg (by omega),if_pos (by omega)];rw [hx3];unfold Sg;rw [show y.Kind=7 by omega]
 exact ⟨_,_,_,tg3,xn,⟨(6:Int),((i:Nat):Int),y.B,(0:Int),(0:Int)⟩,_,o.hs,u,he3,hX3,hf3,rfl,rfl,rfl,rfl,hs,kyj _,(by rw [hx3];exact hz),Ea (x2:=xn) ok hat (by rw [hx3]) (by rw [hx3]) (by rw [hx3]) (by rw [hx3]),hq⟩
 replace hb:=of_decide_eq_false hb
 refine th<|rg<|qv o (Ah o rfl rfl) λo=>qa o rfl λo=>re<|tn<|cs o rfl (λhb=>?_) (λhb=>?_)
 replace hb:=of_decide_eq_true hb
 refine rg<|qf o Dv rfl λo=>ls<|Bl o u sizeOf3 rfl rfl rfl rfl .head .zero λw u=>re<|bn<|tn<|?_
 replace u:=u.pk [3,2,0] rfl
 have hq:Di (i:Int) k.U.Lines m k.Lk k.Fault k.Faulty x=⟨⟨(7:Int),((i:Nat):Int),y.B,(0:Int),(0:Int)⟩,m,k.Lk,k.Fault,k.Faulty,done x⟩:=by rw [Ed hz hy,Cc,if_neg (by omega),if_neg (by omega),if_neg (by omega),if_neg (by omega),if_neg (by omega),if_pos (by omega)]
 exact ⟨_,_,_,tg2,x,⟨(7:Int),((i:Nat):Int),y.B,(0:Int),(0:Int)⟩,_,o.hs,u,he2,hX2,hf2,rfl,rfl,rfl,rfl,hs,kyj _,hz,Ea (x2:=x) ok hat rfl rfl rfl rfl,hq⟩
 replace hb:=of_decide_eq_false hb
 refine th<|rg<|qv o (Ah o rfl rfl) λo=>qa o rfl λo=>re<|tn<|cs o rfl (λhb=>?_) (λhb=>?_)
 replace hb:=of_decide_eq_true hb
 have hBM:y.B.toNat < k.R.L.length:=by omega
 have hB0:0≤y.B:=(hB4 (by omega)).1
 refine th<|rxS 12 u wide (by kernel_rfl) λw u=>xm u o rfl λo=>xr u o (Af o rfl) λo=>xr u o (Ad o Hc rfl) λo=>xq u.ld o (λw hl=>Ap o isAgg63 rfl (Ai w _ ▸ Aw (hl.ok _ t3) rfl)) λo=>xr u o (Af o rfl) λo=>xr u o (Ad o Ks rfl) λo=>xq u.ld o (λw hl=>Ap o isAgg28 rfl (Ai w _ ▸ Yk (hl.ok _ t3))) λo=>xr u o (Ad o Ch rfl) λo=>xq u.ld o (λw hl=>eB o isAgg3 rfl hl t1 rfl) λo=>xq u.ld o (λw hl=>Es (i:=(y.B).toNat) o Bn sizeOf3 rfl rfl (by omega) (by omega) ((JbG (hl.ok _ t3)).some (Dl (l:=k.R.L) (by omega)))) λo=>xq u.ld o (λw hl=>Ap o isAgg3 rfl (elR (JbG (hl.ok _ t3)) (Eu (l:=k.R.L) (k:=(y.B).toNat) (by omega)))) λo=>xr u o (Ad o Kp rfl) λo=>xz rfl<|Bl o u sizeOf3 rfl rfl rfl rfl .head (.succ (.succ (.succ .zero))) λw u=>tn<|?_
 have hA0:0≤y.A∧y.A < (x.Regs.length:Int):=hAA (by omega)
 have hAl:y.A.toNat < x.Regs.length:=by omega
 obtain ⟨xn,hxn⟩:∃ q:TS,q={ x with Regs:=x.Regs.set y.A.toNat (k.R.L[(y.B).toNat]'(by omega)) }:=⟨_,rfl⟩
 replace u:=u.pk [3,0,0,0] rfl
 refine th<|rxS 9 u wide (by kernel_rfl) λw u=>xm u o rfl λo=>xr u o (Af o rfl) λo=>xr u o (Ad o Kz rfl) λo=>xq u.ld o (λw hl=>Ap o isAgg28 rfl (Ai w _ ▸ Az (hl.ok _ t0) (Au he2) rfl)) λo=>xr u o (Ad o Dw rfl) λo=>xq u.ld o (λw hl=>eB o isAgg3 rfl hl t2 rfl) λo=>xr u o (Ad o Kp rfl) λo=>xq u.ld o (λw hl=>eB o isAgg3 rfl hl t1 rfl) λo=>xq u.ld o (λw hl=>Es (i:=y.A.toNat) o Bn sizeOf3 rfl rfl (by omega) (by omega) ((Jbh (hl.ok _ t0) (Au he2)).some (Dl (l:=x.Regs) (by omega)))) λo=>xz rfl<|Yr (e2:=(tg2,xn)) (j:=y.A.toNat) o u he2 rfl rfl hAl (by rw [hxn]) λw u=>?_
 have he3:=Gz (e2:=(tg2,xn)) he2
 have hX3:=Iv (e2:=(tg2,xn)) hX2
 have hf3:=MF.set (i:=i) (e:=(tg2,xn)) hf2 (by rw [hxn];exact (hf2.th _ (Au he2)).1) (by rw [hxn];exact (hf2.th _ (Au he2)).2)
 generalize hlg:l2.set i (tg2,xn)=l3 at u hf3 he3 hX3
 clear hlg
 refine tn<|th<|rg<|qf o Dv rfl λo=>ls<|Bl o u sizeOf3 rfl rfl rfl rfl (.tail .head) .zero λw u=>re<|tn<|th<|rg<|qf o Kp rfl λo=>qB o isAgg3 rfl u t1 rfl λo=>qm o rfl λo=>qv o (Ah o rfl rfl) λo=>re<|tn<|cs o rfl (λhb=>?_) (λhb=>?_)
 replace hb:=of_decide_eq_true hb
 have hcas:=hb
 refine th<|rg<|qf o Dv rfl λo=>ls<|Bl o u sizeOf3 rfl rfl rfl rfl (.tail .head) .zero λw u=>re<|tn<|th<|rg<|qm o rfl λo=>qf o Jad rfl λo=>ls<|Bl o u sizeOf3 rfl rfl rfl rfl (.tail .head) (.succ (.succ (.succ (.succ .zero)))) λw u=>re<|tn<|rdX (S:=S4m h b6 y oE cE oF cF g k (tg2,xn).1.tp (tg2,xn).1.bp) 8 u wide λw u=>?_
 have hd:S4m h b6 y oE cE oF cF g k (tg2,xn).1.tp (tg2,xn).1.bp w:=⟨(u.ly [2] rfl),Ai _ _ ▸ Aw (u.ok _ t0) rfl,Ai _ _ ▸ Aw (u.ok _ t0) rfl,(Ai w _ ▸ Az (o:=6) (u.ok _ t0) (Au he3) rfl)⟩
 refine ds 0 hd o rfl (Aa o rfl) λo=>ds 1 hd o rfl (Af o rfl) λo=>ds 2 hd o rfl (Ad o Hc rfl) λo=>dq 3 hd o rfl (λw hl=>Ap o isAgg63 rfl hl.2.1) λo=>ds 4 hd o rfl (Ad o Ch rfl) λo=>dq 5 hd o rfl (λw hl=>eB o isAgg3 rfl hl.1 t0 rfl) λo=>ds 6 hd o rfl (Aa o rfl) λo=>dz 7 rfl<|c1 o rfl call74 (Xk (u.hs _ t0) (u.ok _ t0) (λb hb=>(u.own _ t0 b hb).2 _ t0) hf3 hi hs hw y.B (Hb y.F x.Regs).1) ⟨rfl,rfl,rfl,trivial⟩ (λv w a hR o=>?_)
 obtain ⟨kg,R,-,hs2,hw2,hfm,hmut⟩:=hR
 replace u:=u.mut hmut .head
 clear hmut
 have hd:S4m h b6 y oE cE oF cF g k (tg2,xn).1.tp (tg2,xn).1.bp w:=⟨(u.ly [2] rfl),Ai _ _ ▸ Aw (u.ok _ t0) rfl,Ai _ _ ▸ Aw (u.ok _ t0) rfl,(Ai w _ ▸ Az (o:=6) (u.ok _ t0) (Au he3) rfl)⟩
 refine ⟨λ_=>hd,?_⟩
 refine dE<|bn<|tn<|?_
 replace u:=u.pk [0,2,0] rfl
 have hq:Di (i:Int) k.U.Lines m k.Lk k.Fault k.Faulty x=⟨⟨(8:Int),((i:Nat):Int),y.B,(k.R.L[(y.B).toNat]'(by omega)),(Hb y.F x.Regs).1⟩,Be m y.B (Hb y.F x.Regs).1,k.Lk,k.Fault,k.Faulty,done xn⟩:=by rw [Ed hz hy,Cc,if_neg (by omega),if_neg (by omega),if_neg (by omega),if_neg (by omega),if_neg (by omega),if_neg (by omega),if_pos (by omega)];rw [if_pos (by rw [← hs.l,Cu hBM];exact hcas),hxn,← hs.l,Cu hBM]
 exact ⟨_,_,_,tg2,xn,⟨(8:Int),((i:Nat):Int),y.B,(k.R.L[(y.B).toNat]'(by omega)),(Hb y.F x.Regs).1⟩,_,o.hs,u,he3,hX3,hfm,rfl,rfl,rfl,rfl,hs2,hw2,(by rw [hxn];exact hz),Ea (x2:=xn) ok hat (by rw [hxn]) (by rw [hxn]) (by rw [hxn];exact kxr) (by rw [hxn]),hq⟩
 replace hb:=of_decide_eq_false hb
 have hcas:=hb
 refine wk<|bn<|tn<|?_
 replace u:=u.pk [0,2,0] rfl
 have hq:Di (i:Int) k.U.Lines m k.Lk k.Fault k.Faulty x=⟨⟨(9:Int),((i:Nat):Int),y.B,(k.R.L[(y.B).toNat]'(by omega)),(0:Int)⟩,m,k.Lk,k.Fault,k.Faulty,done xn⟩:=by rw [Ed hz hy,Cc,if_neg (by omega),if_neg (by omega),if_neg (by omega),if_neg (by omega),if_neg (by omega),if_neg (by omega),if_pos (by omega)];rw [if_neg (by rw [← hs.l,Cu hBM];exact hcas),hxn,← hs.l,Cu hBM]
 exact ⟨_,_,_,tg2,xn,⟨(9:Int),((i:Nat):Int),y.B,(k.R.L[(y.B).toNat]'(by omega)),(0:Int)⟩,_,o.hs,u,he3,hX3,hf3,rfl,rfl,rfl,rfl,hs,kyj _,(by rw [hxn];exact hz),Ea (x2:=xn) ok hat (by rw [hxn]) (by rw [hxn]) (by rw [hxn];exact kxr) (by rw [hxn]),hq⟩
 replace hb:=of_decide_eq_false hb
 refine th<|rg<|qv o (Ah o rfl rfl) λo=>qa o rfl λo=>re<|tn<|cs o rfl (λhb=>?_) (λhb=>?_)
 replace hb:=of_decide_eq_true hb
 refine th<|rg<|qf o Dv rfl λo=>ls<|Bl o u sizeOf3 rfl rfl rfl rfl .head .zero λw u=>re<|tn<|?_
 have hBK:y.B.toNat < k.Lk.length:=by have:=hB6 (by omega);omega
 have hB0:0≤y.B:=(hB6 (by omega)).1
 replace u:=u.pk [3,0,0,0] rfl
 refine rxS 8 u wide (by kernel_rfl) λw u=>xm u o rfl λo=>xr u o (Af o rfl) λo=>xr u o (Ad o Kt rfl) λo=>xq u.ld o (λw hl=>Ap o isAgg28 rfl (Ai w _ ▸ Aw (hl.ok _ t0) rfl)) λo=>xr u o (Ad o Ch rfl) λo=>xq u.ld o (λw hl=>eB o isAgg3 rfl hl t2 rfl) λo=>xm u o rfl λo=>xq u.ld o (λw hl=>Es (i:=(y.B).toNat) o Bn sizeOf3 rfl rfl (by omega) (by omega) ((Pd (hl.ok _ t0)).some (Dl (l:=k.Lk) (by omega)))) λo=>xz rfl<|Jcb (j:=y.B.toNat) o u rfl rfl hBK λw u=>?_
 have hfk:MF h g { k with Lk:=k.Lk.set y.B.toNat (i:Int) } l2:=⟨hf2.lc,hf2.lr,hf2.kf,hf2.th⟩
 refine bn<|tn<|?_
 replace u:=u.pk [0,2,0] rfl
 have hq:Di (i:Int) k.U.Lines m k.Lk k.Fault k.Faulty x=⟨⟨(10:Int),((i:Nat):Int),y.B,(0:Int),(0:Int)⟩,m,k.Lk.set y.B.toNat (i:Int),k.Fault,k.Faulty,done x⟩:=by rw [Ed hz hy,Cc,if_neg (by omega),if_neg (by omega),if_neg (by omega),if_neg (by omega),if_neg (by omega),if_neg (by omega),if_neg (by omega),if_pos (by omega)]
 exact ⟨_,_,_,tg2,x,⟨(10:Int),((i:Nat):Int),y.B,(0:Int),(0:Int)⟩,_,o.hs,u,he2,hX2,hfk,rfl,rfl,rfl,rfl,hs,kyj _,hz,Ea (x2:=x) ok hat rfl rfl rfl rfl,hq⟩
 replace hb:=of_decide_eq_false hb
 have hBK:y.B.toNat < k.Lk.length:=by have:=hB6 (by omega);omega
 have hB0:0≤y.B:=(hB6 (by omega)).1
 replace u:=u.pk [3,0,0,0] rfl
 refine th<|th<|rxS 10 u wide (by kernel_rfl) λw u=>xm u o rfl λo=>xr u o (Af o rfl) λo=>xr u o (Ad o Kt rfl) λo=>xq u.ld o (λw hl=>Ap o isAgg28 rfl (Ai w _ ▸ Aw (hl.ok _ t0) rfl)) λo=>xr u o (Ad o Ch rfl) λo=>xq u.ld o (λw hl=>eB o isAgg3 rfl hl t2 rfl) λo=>xq u.ld o (λw hl=>Es (i:=(y.B).toNat) o Bn sizeOf3 rfl rfl (by omega) (by omega) ((Pd (hl.ok _ t0)).some (Dl (l:=k.Lk) (by omega)))) λo=>xq u.ld o (λw hl=>Ap o isAgg3 rfl (elR (Pd (hl.ok _ t0)) (Eu (l:=k.Lk) (k:=(y.B).toNat) (by omega)))) λo=>xm u o rfl λo=>xr u o (Bg o rfl rfl) λo=>xe<|tn<|cs o rfl (λhb=>?_) (λhb=>?_)
 replace hb:=of_decide_eq_true hb
 have hgive:=hb
 refine th<|rg<|qm o rfl λo=>qm o rfl λo=>ls<|c1 o rfl call76 (JaU (u.hs _ t0) (u.ok _ t0) (λb hb=>(u.own _ t0 b hb).2 _ t0) _ _) ⟨rfl,rfl,rfl,trivial⟩ (λv w a hR o=>?_)
 obtain ⟨rfl,hmut⟩:=hR
 replace u:=u.mut hmut .head
 clear hmut
 refine ls<|Ar o u sizeOf48 rfl rfl rfl rfl (Ak rfl) (.tail (.tail (.tail .head))) λw u=>re<|tn<|wr<|tr<|br<|tr<|?_
 have hq:Di (i:Int) k.U.Lines m k.Lk k.Fault k.Faulty x=⟨⟨16,(i:Int),3,0,0⟩,m,k.Lk,3,(i:Int),x⟩:=by rw [Ed hz hy,Cc,if_neg (by omega),if_neg (by omega),if_neg (by omega),if_neg (by omega),if_neg (by omega),if_neg (by omega),if_neg (by omega),if_neg (by omega),if_neg (by rw [Cu hBK];exact hgive)]
 rw [hq]
 refine Go.LM.r1c (vs:=[i6 16,i6 (i:Int),i6 3,i6 0,i6 0]) (.inl rfl) o results41 rfl isAgg48 sizeOf48 rfl (u.ld.cellsB t3) ⟨g,{ k with Fault:=3,Faulty:=(i:Int) },l2,rfl,⟨rfl,rfl,hs,kyj _,rfl,rfl,rfl,hX2,rfl,rfl,⟨hf2.lc,hf2.lr,hf2.kf,hf2.th⟩⟩,?_⟩
 exact St.endMut1 (u.pk [0] rfl)
 replace hb:=kzc.1 (of_decide_eq_false hb)
 have hgive:=hb
 refine wk<|tn<|th<|rg<|qf o Dv rfl λo=>ls<|Bl o u sizeOf3 rfl rfl rfl rfl (.tail .head) .zero λw u=>re<|tn<|?_
 have hBK:y.B.toNat < k.Lk.length:=by have:=hB6 (by omega);omega
 have hB0:0≤y.B:=(hB6 (by omega)).1
 replace u:=u.pk [0,0,0,0] rfl
 refine rxS 7 u wide (by kernel_rfl) λw u=>xm u o rfl λo=>xr u o (Af o rfl) λo=>xr u o (Ad o Kt rfl) λo=>xq u.ld o (λw hl=>Ap o isAgg28 rfl (Ai w _ ▸ Aw (hl.ok _ t0) rfl)) λo=>xr u o (Ad o Ch rfl) λo=>xq u.ld o (λw hl=>eB o isAgg3 rfl hl t2 rfl) λo=>xq u.ld o (λw hl=>Es (i:=(y.B).toNat) o Bn sizeOf3 rfl rfl (by omega) (by omega) ((Pd (hl.ok _ t0)).some (Dl (l:=k.Lk) (by omega)))) λo=>xz rfl<|Jcb (j:=y.B.toNat) o u rfl rfl hBK λw u=>?_
 have hfk:MF h g { k with Lk:=k.Lk.set y.B.toNat (-1) } l2:=⟨hf2.lc,hf2.lr,hf2.kf,hf2.th⟩
 refine bn<|tn<|?_
 replace u:=u.pk [0,2,0] rfl
 have hq:Di (i:Int) k.U.Lines m k.Lk k.Fault k.Faulty x=⟨⟨(11:Int),((i:Nat):Int),y.B,(0:Int),(0:Int)⟩,m,k.Lk.set y.B.toNat (-1),k.Fault,k.Faulty,done x⟩:=by rw [Ed hz hy,Cc,if_neg (by omega),if_neg (by omega),if_neg (by omega),if_neg (by omega),if_neg (by omega),if_neg (by omega),if_neg (by omega),if_neg (by omega)];rw [if_pos (by rw [Cu hBK];exact hgive)]
 exact ⟨_,_,_,tg2,x,⟨(11:Int),((i:Nat):Int),y.B,(0:Int),(0:Int)⟩,_,o.hs,u,he2,hX2,hfk,rfl,rfl,rfl,rfl,hs,kyj _,hz,Ea (x2:=x) ok hat rfl rfl rfl rfl,hq⟩
 rintro a w ⟨g2,k2,l2,tg,x2,ev,m2,o,u,he2,hX2,hf2,ep,epm,eu,ecr,hs2,hw2,hz2,htk,hq⟩
 have hx2a:x2.At+1≤(x2.C.L.length:Int):=htk.at1
 have hx2b:x2.C.L.length≤80:=htk.len
 have hx2c:0≤x2.At+1:=htk.at0
 obtain ⟨x3,hx3⟩:∃ q:TS,q={ x2 with At:=x2.At+1 }:=⟨_,rfl⟩
 refine th<|rg<|qm o rfl λo=>qm o rfl λo=>qv o (Af o rfl) λo=>qf o Fi rfl λo=>qv o (Ap o isAgg3 rfl (Ai w _ ▸ Az (u.ld.ok _ t0) (Au he2) rfl)) λo=>qv o (Dx (m:=x2.At) (n:=1) (r:=x2.At+1) o rfl rfl rfl (by omega)) λo=>qv o (Af o rfl) λo=>qf o Fi rfl λo=>ls<|JgE (e2:=(tg,x3)) o u he2 rfl rfl (by rw [hx3]) λw u=>?_
 have he3:=Gz (e2:=(tg,x3)) he2
 have hX3:=Iv (e2:=(tg,x3)) hX2
 have hf3:=MF.set (i:=i) (e:=(tg,x3)) hf2 (by rw [hx3];exact (hf2.th _ (Au he2)).1) (by rw [hx3];exact (hf2.th _ (Au he2)).2)
 generalize hlg:l2.set i (tg,x3)=l3 at u hf3 he3 hX3
 clear hlg
 refine re<|tn<|th<|rg<|qm o rfl λo=>ls<|c1 o rfl call71 (JfY (u.hs _ t0) (u.ok _ t0) (λb hb=>(u.own _ t0 b hb).2 _ t0) hf3 he3 (p4:=p4) (p5:=p5) (p6:=p6) (by rw [hx3];exact htk) (by rw [hx3];exact hz2)) ⟨rfl,trivial⟩ (λv w a hR o=>?_)
 obtain ⟨⟨tg4,x4⟩,rfl,et,eb,ex,hf4,hmut⟩:=hR
 simp only at et eb ex
 replace u:=u.mut hmut .head
 clear hmut
 have hX4:=Iv (e2:=(tg4,x4)) hX3
 generalize hlg:l3.set i (tg4,x4)=l4 at u hf4 hX4
 clear hlg
 have hx4:x4=done x2:=by rw [ex,hx3];rfl
 refine re<|tn<|th<|rg<|qv o (An o Tryz.isAgg48 Tryz.sizeOf48 rfl rfl (u.ld.cellsB t2)) λo=>ls<|Ar o u sizeOf48 rfl rfl rfl rfl (Ak rfl) (.tail .head) λw u=>re<|tn<|wr<|?_
 rw [hq]
 refine Go.LM.r1c (vs:=evC ev) (.inl rfl) o results41 rfl isAgg48 sizeOf48 rfl (u.ld.cellsB t1) ⟨g2,k2,l4,rfl,⟨eu,ecr,hs2,hw2,rfl,rfl,rfl,by rw [hX4,hx4],ep,epm,hf4⟩,?_⟩
 exact St.endMut1 (u.pk [0] rfl)
end Go.LM.SWAPS
namespace Go.LM.SWAPS
open Go Go.LL Go.MD Go.LM Go.Proofs Go.MD.SWAPS Go.Proofs.Tryz
set_option maxRecDepth 100000
set_option maxHeartbeats 4000000
theorem Jht {w0:World} {h:PH} (hl:h.le w0) {g:MGh} {k:KS} {l:List (TG×TS)} (ho:(mA g k l).ok (hp w0)) (hd:∀ b,(mA g k l).fp b→h b=none) (hf:MF h g k l) {xs:List TS} (hxs:l.map (·.2)=xs) (hn:xs.length≤100) {m:MS} (hi:MInv m) (hs:Sim m k.R) (hw:k.R.W.length≤1000) (hU:(m.l.length:Int)=(k.U.Lines.length:Int)) (hX:∀ x∈xs,XOk m k.U k.Lk x) {i:Nat} {x:TS} (hx:xs[i]? = some x) {kd n:Int} (hp:mkP kd i n∈Er k.Lk k.Fault xs) (hpk:PkT k.Lk x kd n) :
 Tot Tryz.prog 9 #[.pointer (some ⟨g.p,0,none⟩),.agg #[i6 kd,i6 ((i:Nat):Int),i6 n,.slice none 0 0]] w0 (λv w'=>∃ g2 k2 l2,v=.tuple #[.agg (evC (doS kd i n k.U.Lines m k.Lk k.Fault k.Faulty x).ev).toArray,i6 0]∧Aft h g k l i (doS kd i n k.U.Lines m k.Lk k.Fault k.Faulty x) g2 k2 l2∧Mut w0 (mA g k l) (mA g2 k2 l2) w'):=by
 have hkd:kd=1∨kd=2:=by rcases hpk with q | q;exact .inl q.1;exact .inr q.1
 refine fn0 func9 rfl ntmps9 rfl rfl λa o=>?_
 have u:St w0 (mA g k l).fp [h] [mA g k l] w0:=.start1 (by simpa using hl) ho (λb hb x hx=>by simp at hx;subst hx;exact hd b hb)
 refine th<|rg<|ls<|Bo o rfl u rfl rfl λb3 w a u o=>ls<|Aq o rfl u zeroValue48 rfl λbv w a u o=>qa o rfl λo=>re<|tn<|th<|th<|rg<|qf o Ha rfl λo=>qB o isAgg3 rfl u t1 rfl λo=>qv o (As (Ah o rfl rfl) (congrArg Value.bool (decide_eq_false (by omega)))) λo=>re<|tn<|cf o rfl<|wk<|tn<|th<|rg<|qm o rfl λo=>ls<|c1 o rfl call8 (Ue (u.hs _ t0) (u.ok _ t2) (λb hb=>(u.own _ t2 b hb).2 _ t0) hf hxs (λx hx=>(hX x hx).tw) hn) ⟨rfl,trivial⟩ (λv w a hR o=>?_)
 obtain ⟨l2,op,cp,rfl,hl2,hf2,hmut⟩:=hR
 replace u:=(u.mut hmut (.tail (.tail .head))).pickL (.cons (.tail (.tail .head)) (.cons .head (.cons .head .nil)))
 clear hmut
 replace u:=St.unsep2 u
 obtain ⟨P,hP⟩:∃ q,q=(Er k.Lk k.Fault xs):=⟨_,rfl⟩
 have hPl:P.length≤300:=by have:=Qx (lk:=k.Lk) (ft:=k.Fault) (λx hx=>(hX x hx).q);rw [hP];omega
 rw [← hP] at u o
 refine qa o rfl λo=>re<|tn<|?_
 replace u:=u.pk [0,0,1,0] rfl
 refine th<|th<|rg<|qa o rfl λo=>re<|tn<|wb<|lp (α:=Nat) (λgh a w=>match gh with | j=>Fr 126 [(0,.pointer (some ⟨g.p,0,none⟩)),(3,PT b3),(4,PT bv),(8,SL op P cp),(9,i6 ((j:Nat):Int))] a∧St w0 (mA g k l).fp [h] [mA g k l2,sla 52 4 op P.length cp (Cw P),bk b3 [i6 kd,i6 ((i:Nat):Int),i6 n,.slice none 0 0] 52,bk bv [i6 0,i6 0,i6 0,i6 0,i6 0] 48] w∧(j≤P.length∧∀ q,q < j→P[q]?≠some (mkP kd i n))) (λ(gh:Nat)=>match gh with | j=>P.length - j) 0 ⟨o.hs,u,⟨kxt _,λq hq=>absurd hq (kzv _)⟩⟩ ?_
 rintro j a w ⟨o,u,⟨hj,hno⟩⟩
 refine th<|th<|rg<|qm o rfl λo=>qm o rfl λo=>qv o (Cn o Eh rfl) λo=>qv o (Am o rfl rfl) λo=>re<|tn<|cs o rfl (λhb=>?_) (λhb=>?_)
 replace hb:=of_decide_eq_true hb
 refine wk<|tn<|?_
 have hjc:j < P.length:=by omega
 refine th<|wb<|th<|rxS 34 u wide (by kernel_rfl) λw u=>?_
 iterate 2 refine xq u.ld o (λw hl=>Aa o rfl) λo=>?_
 refine xq u.ld o (λw hl=>Es o Eh sizeOf52 rfl rfl rfl (by omega) ((hl.rdO t1).some (Hw (l:=P) (by omega)))) λo=>xr u o (Ad o Ha rfl) λo=>xq u.ld o (λw hl=>Ap o isAgg3 rfl (hl.elO2 t1 (Xl (l:=P) (k:=j) (by omega)))) λo=>xr u o (Ad o Ha rfl) λo=>xq u.ld o (λw hl=>eB o isAgg3 rfl hl t2 rfl) λo=>xr u o (Ah o rfl rfl) λo=>xm u o rfl λo=>Fr.split o (t:=86) rfl (λhb o=>?_) (λhb o=>?_)
 replace hb:=of_decide_eq_true hb
 iterate 2 refine xg u.ld o (λw hl=>Aa o rfl) λo=>?_
 refine xg u.ld o (λw hl=>Es o Eh sizeOf52 rfl rfl rfl (by omega) ((hl.rdO t1).some (Hw (l:=P) (by omega)))) λo=>xg u.ld o (λw hl=>Ad o Gy rfl) λo=>xg u.ld o (λw hl=>Ap o isAgg3 rfl (hl.elO2 t1 (Xz (l:=P) (k:=j) (by omega)))) λo=>xg u.ld o (λw hl=>Ad o Gy rfl) λo=>xg u.ld o (λw hl=>eB o isAgg3 rfl hl t2 rfl) λo=>xg u.ld o (λw hl=>Ah o rfl rfl) λo=>xr u o (Ab o rfl rfl) λo=>xm u o rfl λo=>Fr.split o (t:=96) rfl (λhb o=>?_) (λhb o=>?_)
 replace hb:=of_decide_eq_true hb
 iterate 2 refine xg u.ld o (λw hl=>Aa o rfl) λo=>?_
 refine xg u.ld o (λw hl=>Es o Eh sizeOf52 rfl rfl rfl (by omega) ((hl.rdO t1).some (Hw (l:=P) (by omega)))) λo=>xg u.ld o (λw hl=>Ad o Ml rfl) λo=>xg u.ld o (λw hl=>Ap o isAgg3 rfl (hl.elO2 t1 (Xh (l:=P) (k:=j) (by omega)))) λo=>xg u.ld o (λw hl=>Ad o Ml rfl) λo=>xg u.ld o (λw hl=>eB o isAgg3 rfl hl t2 rfl) λo=>xg u.ld o (λw hl=>Ah o rfl rfl) λo=>xr u o (Ab o rfl rfl) λo=>xm u o rfl λo=>Fr.split o (t:=106) rfl (λhb o=>?_) (λhb o=>?_)
 replace hb:=of_decide_eq_true hb
 refine xg u.ld o (λw hl=>Ad o Yn rfl) λo=>xg u.ld o (λw hl=>eB o isAgg28 rfl hl t2 rfl) λo=>xg u.ld o (λw hl=>Cn o Bn rfl) λo=>xg u.ld o (λw hl=>As (Ah o rfl rfl) (congrArg Value.bool (decide_eq_true rfl))) λo=>xr u o (Ab o rfl rfl) λo=>xe<|tn<|ct o rfl<|th<|th<|rg<|ls<|q1 o rfl (Ad o Ha rfl) λa o=>qB o isAgg3 rfl u t2 rfl λo=>qv o (Ah o rfl rfl) λo=>re<|tn<|cs o rfl (λhb=>?_) (λhb=>?_)
 replace hb:=of_decide_eq_true hb
 obtain ⟨⟨tg,x2⟩,he2,hxe⟩:∃ e,l2[i]? = some e∧e.2=x:=by rw [← hl2,kzg] at hx;exact Option.map_eq_some_iff.1 hx
 simp only at hxe
 replace hxe:=hxe.symm
 subst hxe
 refine th<|rg<|qm o rfl λo=>qf o Gy rfl λo=>qB o isAgg3 rfl u t2 rfl λo=>qf o Ml rfl λo=>qB o isAgg3 rfl u t2 rfl λo=>ls<|c1 o rfl call40 (Jhj (u.hs _ t0) (u.ok _ t0) (λb hb=>(u.own _ t0 b hb).2 _ t0) hf2 he2 (hX x (kyk hx)).q hi hs hw n) ⟨rfl,rfl,rfl,trivial⟩ (λv w a hR o=>?_)
 obtain ⟨g3,k3,l3,rfl,haf,hmut⟩:=hR
 replace u:=u.mut hmut .head
 clear hmut
 refine ls<|Ar o u sizeOf48 rfl rfl rfl rfl (Ak rfl) (.tail (.tail (.tail .head))) λw u=>qa o rfl λo=>re<|tn<|wr<|tr<|br<|tr<|tr<|br<|tr<|?_
 have hr:doS kd i n k.U.Lines m k.Lk k.Fault k.Faulty x=(Mq (i:Int) n m k.Lk k.Fault k.Faulty x):=by unfold doS;rw [if_pos hb]
 rw [hr]
 exact Go.LM.r2c (vs:=evC (Mq (i:Int) n m k.Lk k.Fault k.Faulty x).ev) (.inl rfl) o results9 rfl rfl isAgg48 sizeOf48 rfl (u.ld.cellsB t3) ⟨g3,k3,l3,rfl,haf.of (hl2.trans hxs.symm),St.endMut1 (u.pk [0] rfl)⟩
 replace hb:=of_decide_eq_false hb
 refine wk<|tn<|?_
 obtain ⟨⟨tg,x2⟩,he2,hxe⟩:∃ e,l2[i]? = some e∧e.2=x:=by rw [← hl2,kzg] at hx;exact Option.map_eq_some_iff.1 hx
 simp only at hxe
 replace hxe:=hxe.symm
 subst hxe
 have hcan:Mo k.Lk x=true:=by rcases hpk with q | q;exact q.2.2;exact absurd q.1 hb
 refine th<|rg<|qm o rfl λo=>qf o Gy rfl λo=>qB o isAgg3 rfl u t2 rfl λo=>ls<|c1 o rfl call41 (Jfn (u.hs _ t0) (u.ok _ t0) (λb hb=>(u.own _ t0 b hb).2 _ t0) hf2 he2 (hX x (kyk hx)).q hi hs hw (hX x (kyk hx)).tok (hX x (kyk hx)).stop (λ_=>JaA hcan) rfl hU rfl) ⟨rfl,rfl,trivial⟩ (λv w a hR o=>?_)
 obtain ⟨g3,k3,l3,rfl,haf,hmut⟩:=hR
 replace u:=u.mut hmut .head
 clear hmut
 refine ls<|Ar o u sizeOf48 rfl rfl rfl rfl (Ak rfl) (.tail (.tail (.tail .head))) λw u=>qa o rfl λo=>re<|tn<|wr<|br<|tr<|tr<|br<|tr<|?_
 have hr:doS kd i n k.U.Lines m k.Lk k.Fault k.Faulty x=(Di (i:Int) k.U.Lines m k.Lk k.Fault k.Faulty x):=by unfold doS;rw [if_neg hb]
 rw [hr]
 exact Go.LM.r2c (vs:=evC (Di (i:Int) k.U.Lines m k.Lk k.Fault k.Faulty x).ev) (.inl rfl) o results9 rfl rfl isAgg48 sizeOf48 rfl (u.ld.cellsB t3) ⟨g3,k3,l3,rfl,haf.of (hl2.trans hxs.symm),St.endMut1 (u.pk [0] rfl)⟩
 replace hb:=of_decide_eq_false hb
 iterate 4 refine xn u.ld o λo=>?_
 refine xr u o (Ac o rfl rfl) λo=>xe<|tn<|cf o rfl<|wk<|bn<|tn<|rg<|qm o rfl λo=>qv o (Dx (r:=(((j+1):Nat):Int)) o rfl rfl rfl (by omega)) λo=>qa o rfl λo=>re<|tn<|?_
 have hne:P[j]?≠some (mkP kd i n):=λq=>by rw [kxq hjc] at q;have q:=kyh q;exact hb (by rw [q];rfl)
 exact ⟨j+1,⟨o.hs,u,⟨by omega,λq hq=>by rcases kwq.1 hq with z | z;exact hno q z;rw [z];exact hne⟩⟩,(by dsimp only;omega)⟩
 replace hb:=of_decide_eq_false hb
 iterate 8 refine xn u.ld o λo=>?_
 refine xr u o (Ac o rfl rfl) λo=>xm u o rfl λo=>?_
 iterate 4 refine xn u.ld o λo=>?_
 refine xr u o (Ac o rfl rfl) λo=>xe<|tn<|cf o rfl<|wk<|bn<|tn<|rg<|qm o rfl λo=>qv o (Dx (r:=(((j+1):Nat):Int)) o rfl rfl rfl (by omega)) λo=>qa o rfl λo=>re<|tn<|?_
 have hne:P[j]?≠some (mkP kd i n):=λq=>by rw [kxq hjc] at q;have q:=kyh q;exact hb (by rw [q];rfl)
 exact ⟨j+1,⟨o.hs,u,⟨by omega,λq hq=>by rcases kwq.1 hq with z | z;exact hno q z;rw [z];exact hne⟩⟩,(by dsimp only;omega)⟩
 replace hb:=of_decide_eq_false hb
 iterate 8 refine xn u.ld o λo=>?_
 refine xr u o (Ac o rfl rfl) λo=>xm u o rfl λo=>?_
 iterate 8 refine xn u.ld o λo=>?_
 refine xr u o (Ac o rfl rfl) λo=>xm u o rfl λo=>?_
 iterate 4 refine xn u.ld o λo=>?_
 refine xr u o (Ac o rfl rfl) λo=>xe<|tn<|cf o rfl<|wk<|bn<|tn<|rg<|qm o rfl λo=>qv o (Dx (r:=(((j+1):Nat):Int)) o rfl rfl rfl (by omega)) λo=>qa o rfl λo=>re<|tn<|?_
 have hne:P[j]?≠some (mkP kd i n):=λq=>by rw [kxq hjc] at q;have q:=kyh q;exact hb (by rw [q];rfl)
 exact ⟨j+1,⟨o.hs,u,⟨by omega,λq hq=>by rcases kwq.1 hq with z | z;exact hno q z;rw [z];exact hne⟩⟩,(by dsimp only;omega)⟩
 replace hb:=kyd.1 (of_decide_eq_false hb)
 refine we<|tx<|tx<|bx<|tn<|th<|rg<|qv o (Gk [] [some (i6 0),some (i6 0),some (i6 0),some (i6 0),some (i6 0)] o trivial (λw=>by kernel_rfl)) λo=>ls<|Ar o u sizeOf48 rfl rfl rfl rfl (Ak rfl) (.tail (.tail (.tail .head))) λw u=>qa o rfl λo=>re<|tn<|wr<|?_
 exfalso
 obtain ⟨q,hq,e⟩:=List.mem_iff_getElem.1 hp
 simp only [← hP] at hq e
 exact hno q (by omega) (by rw [kxq hq,e])
end Go.LM.SWAPS
namespace Go.LM.SWAPS
open Go Go.LL Go.MD Go.LM Go.Proofs Go.MD.SWAPS Go.Proofs.Tryz
set_option maxRecDepth 100000
set_option maxHeartbeats 4000000
theorem Jai:FA 57 3 3:=fun _ _=>by kernel_rfl
theorem Ym:FA 57 4 4:=fun _ _=>by kernel_rfl
theorem JcT:FA 66 2 10:=fun _ _=>by kernel_rfl
theorem Jcl {w0:World} {h:PH} (hl:h.le w0) {g:MGh} {k:KS} {l:List (TG×TS)} (ho:(mA g k l).ok (hp w0)) (hd:∀ b,(mA g k l).fp b→h b=none) (hf:MF h g k l) {xs:List TS} (hxs:l.map (·.2)=xs) (hT:∀ x∈xs,TW k.Lk x) (hn:xs.length≤100) :
 Tot Tryz.prog 13 #[.pointer (some ⟨g.p,0,none⟩)] w0 (λv w'=>v=.agg #[i6 k.Crashed,i6 k.Fault,i6 k.Faulty,.bool (stD k.Fault xs),.bool (stK k.Lk k.Fault xs)]∧∃ l2,l2.map (·.2)=xs∧MF h g k l2∧Mut w0 (mA g k l) (mA g k l2) w'):=by
 have hlen:l.length=xs.length:=by rw [← hxs,kxx]
 refine fn0 func13 rfl ntmps13 rfl rfl λa o=>?_
 have u:St w0 (mA g k l).fp [h] [mA g k l] w0:=.start1 (by simpa using hl) ho (λb hb x hx=>by simp at hx;subst hx;exact hd b hb)
 refine th<|rg<|ls<|Aq o rfl u zeroValue57 rfl λbv w a u o=>re<|tn<|th<|rdL (Bh t1 (Bh t0 Ey)) 19 u wide λw u=>ds 0 (u.ly [1,0] rfl) o rfl (Aa o rfl) λo=>ds 1 (u.ly [1,0] rfl) o rfl (Af o rfl) λo=>ds 2 (u.ly [1,0] rfl) o rfl (Ad o JcT rfl) λo=>dq 3 (u.ly [1,0] rfl) o rfl (λw hl=>Ap o isAgg3 rfl (Ai w _ ▸ Aw (hl.ok _ t0) rfl)) λo=>ds 4 (u.ly [1,0] rfl) o rfl (Aa o rfl) λo=>ds 5 (u.ly [1,0] rfl) o rfl (Af o rfl) λo=>ds 6 (u.ly [1,0] rfl) o rfl (Ad o Ow rfl) λo=>dq 7 (u.ly [1,0] rfl) o rfl (λw hl=>Ap o isAgg3 rfl (Ai w _ ▸ Aw (hl.ok _ t0) rfl)) λo=>ds 8 (u.ly [1,0] rfl) o rfl (Aa o rfl) λo=>ds 9 (u.ly [1,0] rfl) o rfl (Af o rfl) λo=>ds 10 (u.ly [1,0] rfl) o rfl (Ad o Jah rfl) λo=>dq 11 (u.ly [1,0] rfl) o rfl (λw hl=>Ap o isAgg3 rfl (Ai w _ ▸ Aw (hl.ok _ t0) rfl)) λo=>ds 12 (u.ly [1,0] rfl) o rfl (Aa o rfl) λo=>ds 13 (u.ly [1,0] rfl) o rfl (Af o rfl) λo=>ds 14 (u.ly [1,0] rfl) o rfl (Ad o Ow rfl) λo=>dq 15 (u.ly [1,0] rfl) o rfl (λw hl=>Ap o isAgg3 rfl (Ai w _ ▸ Aw (hl.ok _ t0) rfl)) λo=>ds 16 (u.ly [1,0] rfl) o rfl (Ah o rfl rfl) λo=>dq 17 (u.ly [1,0] rfl) o rfl (λw hl=>Gk [_,_,_,_] [none,none,none,none,some (.bool false)] o ⟨rfl,rfl,rfl,rfl,trivial⟩ (λw=>by kernel_rfl)) λo=>dz 18 rfl<|Aq o rfl u zeroValue57 rfl λb3 w a u o=>⟨λ_=>(u.ly [2,1] rfl),?_⟩
 refine dz 19 rfl<|Ar o u sizeOf57 rfl rfl rfl rfl (Ak rfl) .head λw u=>⟨λh=>absurd rfl h,?_⟩
 refine dE<|tn<|?_
 replace u:=u.pk [2,0,0] rfl
 replace u:St w0 (mA g k l).fp [h] [mA g k l,bk b3 [i6 k.Crashed,i6 k.Fault,i6 k.Faulty,.bool (stD k.Fault (xs.take 0)),.bool false] 57,bk bv [i6 0,i6 0,i6 0,.bool false,.bool false] 57] w:=by rw [show stD k.Fault (xs.take 0)=decide (k.Fault=0) by simp [stD]];exact u
 refine th<|th<|rg<|qa o rfl λo=>re<|tn<|wb<|lp (α:=Nat) (λgh a w=>match gh with | i=>Fr 91 [(0,.pointer (some ⟨g.p,0,none⟩)),(2,PT bv),(3,PT b3),(4,i6 ((i:Nat):Int))] a∧St w0 (mA g k l).fp [h] [mA g k l,bk b3 [i6 k.Crashed,i6 k.Fault,i6 k.Faulty,.bool (stD k.Fault (xs.take i)),.bool false] 57,bk bv [i6 0,i6 0,i6 0,.bool false,.bool false] 57] w∧i≤xs.length) (λ(gh:Nat)=>match gh with | i=>xs.length - i) 0 ⟨o.hs,u,kxt _⟩ ?_
 rintro i a w ⟨o,u,hin⟩
 refine th<|th<|rg<|qm o rfl λo=>qm o rfl λo=>qv o (Af o rfl) λo=>qf o Dy rfl λo=>qv o (Ap o isAgg64 rfl (Ai w _ ▸ Aw (u.ld.ok _ t0) rfl)) λo=>qv o (Cn o Po rfl) λo=>qv o (Am o rfl rfl) λo=>re<|tn<|cs o rfl (λhb=>?_) (λhb=>?_)
 replace hb:=of_decide_eq_true hb
 refine wk<|tn<|?_
 have hil:i < l.length:=by omega
 obtain ⟨⟨tg,x⟩,he⟩:∃ e,l[i]? = some e:=⟨_,kxq hil⟩
 have hx:xs[i]? = some x:=by rw [← hxs,kzg,he];rfl
 refine th<|wb<|th<|rxS 40 u wide (by kernel_rfl) λw u=>xm u o rfl λo=>xr u o (Af o rfl) λo=>xr u o (Ad o Dy rfl) λo=>xq u.ld o (λw hl=>Ap o isAgg64 rfl (Ai w _ ▸ Aw (hl.ok _ t0) rfl)) λo=>xm u o rfl λo=>xq u.ld o (λw hl=>Es o Po sizeOf105 rfl rfl rfl (by omega) ((Kd (hl.ok _ t0)).some (Hj (i:=i) (by omega)))) λo=>xq u.ld o (λw hl=>Ap o isAgg105 rfl (elR (Kd (hl.ok _ t0)) (Hl he))) λo=>xr u o (Af o rfl) λo=>xr u o (Ad o Fi rfl) λo=>xq u.ld o (λw hl=>Ap o isAgg3 rfl (Ai w _ ▸ Az (hl.ok _ t0) (Au he) rfl)) λo=>xm u o rfl λo=>xr u o (Af o rfl) λo=>xr u o (Ad o Dy rfl) λo=>xq u.ld o (λw hl=>Ap o isAgg64 rfl (Ai w _ ▸ Aw (hl.ok _ t0) rfl)) λo=>xm u o rfl λo=>xq u.ld o (λw hl=>Es o Po sizeOf105 rfl rfl rfl (by omega) ((Kd (hl.ok _ t0)).some (Hj (i:=i) (by omega)))) λo=>xq u.ld o (λw hl=>Ap o isAgg105 rfl (elR (Kd (hl.ok _ t0)) (Hl he))) λo=>xr u o (Af o rfl) λo=>xr u o (Ad o Jr rfl) λo=>xr u o (Ad o Ge rfl) λo=>xq u.ld o (λw hl=>Ap o isAgg31 rfl (Ai w _ ▸ Az (hl.ok _ t0) (Au he) rfl)) λo=>xr u o (Cn o Jl rfl) λo=>xr u o (Am o rfl rfl) λo=>xm u o rfl λo=>Fr.split o (t:=55) rfl (λhb o=>?_) (λhb o=>?_)
 replace hb:=of_decide_eq_true hb
 iterate 15 refine xn u.ld o λo=>?_
 refine xr u o (Ab o rfl rfl) λo=>xe<|tn<|ct o rfl<|rg<|ls<|q1 o rfl (Ad o Jai rfl) λa o=>ls<|Bl o u sizeOf4 rfl rfl rfl rfl (.tail .head) (.succ (.succ (.succ .zero))) λw u=>re<|bn<|tn<|rg<|qm o rfl λo=>qv o (Dx (r:=(((i+1):Nat):Int)) o rfl rfl rfl (by omega)) λo=>qa o rfl λo=>re<|tn<|?_
 replace u:St w0 (mA g k l).fp [h] [mA g k l,bk b3 [i6 k.Crashed,i6 k.Fault,i6 k.Faulty,.bool (stD k.Fault (xs.take (i+1))),.bool false] 57,bk bv [i6 0,i6 0,i6 0,.bool false,.bool false] 57] w:=by rw [Rq hx,show busy x=true by unfold busy;simp_all];simp only [kyl,kzm,kwe,kyy];exact u
 exact ⟨i+1,⟨o.hs,u,(by omega)⟩,(by dsimp only;omega)⟩
 replace hb:=kyd.1 (of_decide_eq_false hb)
 refine xg u.ld o (λw hl=>Aa o rfl) λo=>xg u.ld o (λw hl=>Af o rfl) λo=>xg u.ld o (λw hl=>Ad o Dy rfl) λo=>xg u.ld o (λw hl=>Ap o isAgg64 rfl (Ai w _ ▸ Aw (hl.ok _ t0) rfl)) λo=>xg u.ld o (λw hl=>Aa o rfl) λo=>xg u.ld o (λw hl=>Es o Po sizeOf105 rfl rfl rfl (by omega) ((Kd (hl.ok _ t0)).some (Hj (i:=i) (by omega)))) λo=>xg u.ld o (λw hl=>Ap o isAgg105 rfl (elR (Kd (hl.ok _ t0)) (Hl he))) λo=>xg u.ld o (λw hl=>Af o rfl) λo=>xg u.ld o (λw hl=>Ad o Du rfl) λo=>xg u.ld o (λw hl=>Ap o isAgg98 rfl (Ai w _ ▸ Az (hl.ok _ t0) (Au he) rfl)) λo=>xg u.ld o (λw hl=>Af o rfl) λo=>xg u.ld o (λw hl=>Ad o Cd rfl) λo=>xg u.ld o (λw hl=>Ap o isAgg118 rfl (Ai w _ ▸ Ov (hl.ok _ t0) (Au he) rfl)) λo=>xg u.ld o (λw hl=>Cn o Ff rfl) λo=>xg u.ld o (λw hl=>Ba o rfl rfl) λo=>xr u o (Ac o rfl rfl) λo=>xe<|tn<|cs o rfl (λhb=>?_) (λhb=>?_)
 replace hb:=of_decide_eq_true hb
 refine rg<|qf o Jai rfl λo=>ls<|Bl o u sizeOf4 rfl rfl rfl rfl (.tail .head) (.succ (.succ (.succ .zero))) λw u=>re<|bn<|tn<|rg<|qm o rfl λo=>qv o (Dx (r:=(((i+1):Nat):Int)) o rfl rfl rfl (by omega)) λo=>qa o rfl λo=>re<|tn<|?_
 replace u:St w0 (mA g k l).fp [h] [mA g k l,bk b3 [i6 k.Crashed,i6 k.Fault,i6 k.Faulty,.bool (stD k.Fault (xs.take (i+1))),.bool false] 57,bk bv [i6 0,i6 0,i6 0,.bool false,.bool false] 57] w:=by rw [Rq hx,show busy x=true by unfold busy;simp_all];simp only [kyl,kzm,kwe,kyy];exact u
 exact ⟨i+1,⟨o.hs,u,(by omega)⟩,(by dsimp only;omega)⟩
 replace hb:=kyd.1 (of_decide_eq_false hb)
 refine wk<|bn<|tn<|rg<|qm o rfl λo=>qv o (Dx (r:=(((i+1):Nat):Int)) o rfl rfl rfl (by omega)) λo=>qa o rfl λo=>re<|tn<|?_
 replace u:St w0 (mA g k l).fp [h] [mA g k l,bk b3 [i6 k.Crashed,i6 k.Fault,i6 k.Faulty,.bool (stD k.Fault (xs.take (i+1))),.bool false] 57,bk bv [i6 0,i6 0,i6 0,.bool false,.bool false] 57] w:=by rw [Rq hx,show busy x=false by unfold busy;simp_all];simp only [kyl,kzm,kwe,kyy];exact u
 exact ⟨i+1,⟨o.hs,u,(by omega)⟩,(by dsimp only;omega)⟩
 replace hb:=kyd.1 (of_decide_eq_false hb)
 refine we<|tx<|tx<|bx<|tn<|?_
 have hil:i=xs.length:=by omega
 subst hil
 replace u:St w0 (mA g k l).fp [h] [mA g k l,bk b3 [i6 k.Crashed,i6 k.Fault,i6 k.Faulty,.bool (stD k.Fault xs),.bool false] 57,bk bv [i6 0,i6 0,i6 0,.bool false,.bool false] 57] w:=by rw [kwr] at u;exact u
 refine th<|rg<|qm o rfl λo=>qv o (Af o rfl) λo=>qf o Ow rfl λo=>qv o (Ap o isAgg3 rfl (Ai w _ ▸ Aw (u.ld.ok _ t0) rfl)) λo=>qv o (Ah o rfl rfl) λo=>qm o rfl λo=>Fr.split o (t:=78) rfl (λhb o=>?_) (λhb o=>?_)
 replace hb:=of_decide_eq_true hb
 refine qg o (Ad o Jai rfl) λo=>qg o (eB o isAgg4 rfl u.ld t1 rfl) λo=>qg o (Bi o rfl) λo=>qv o (Ab o rfl rfl) λo=>qm o rfl λo=>Fr.split o (t:=83) rfl (λhb o=>?_) (λhb o=>?_)
 replace hb:=bnt hb
 refine qg o (Aa o rfl) λo=>ls<|gy o rfl rfl<|c1 o rfl call8 (Ue (u.hs _ t0) (u.ok _ t0) (λb hb=>(u.own _ t0 b hb).2 _ t0) hf hxs hT hn) ⟨rfl,trivial⟩ (λv w a hR o=>?_)
 obtain ⟨l2,op,cp,rfl,hl2,hf2,hmut⟩:=hR
 replace u:=(u.mut hmut .head).pickL (.cons .head (.cons .head (.cons .head .nil)))
 clear hmut
 replace u:=St.unsep2 u
 refine qg o (Cn o Eh rfl) λo=>qg o (Ah o rfl rfl) λo=>qv o (Ab o rfl rfl) λo=>qf o Ym rfl λo=>ls<|Bl o u sizeOf4 rfl rfl rfl rfl (.tail (.tail .head)) (.succ (.succ (.succ (.succ .zero)))) λw u=>re<|tn<|th<|rg<|qv o (An o Tryz.isAgg57 Tryz.sizeOf57 rfl rfl (u.ld.cellsB t2)) λo=>ls<|Ar o u sizeOf57 rfl rfl rfl rfl (Ak rfl) (.tail (.tail (.tail .head))) λw u=>re<|tn<|wr<|?_
 rw [show stK k.Lk k.Fault xs=decide (((Er k.Lk k.Fault xs).length:Int)=0) by unfold stK;simp_all]
 exact Go.LM.r1c (vs:=[i6 k.Crashed,i6 k.Fault,i6 k.Faulty,.bool (stD k.Fault xs),.bool (decide (((Er k.Lk k.Fault xs).length:Int)=0))]) (.inl rfl) o results13 rfl isAgg57 sizeOf57 rfl (u.ld.cellsB t3) ⟨rfl,l2,hl2,hf2,St.endMut1 (u.pk [0] rfl)⟩
 replace hb:=bnf hb
 iterate 4 refine qn o λo=>?_
 refine qv o (Ac o rfl rfl) λo=>qf o Ym rfl λo=>ls<|Bl o u sizeOf4 rfl rfl rfl rfl (.tail .head) (.succ (.succ (.succ (.succ .zero)))) λw u=>re<|tn<|th<|rg<|qv o (An o Tryz.isAgg57 Tryz.sizeOf57 rfl rfl (u.ld.cellsB t1)) λo=>ls<|Ar o u sizeOf57 rfl rfl rfl rfl (Ak rfl) (.tail (.tail .head)) λw u=>re<|tn<|wr<|?_
 rw [show stK k.Lk k.Fault xs=false by unfold stK;simp_all]
 exact Go.LM.r1c (vs:=[i6 k.Crashed,i6 k.Fault,i6 k.Faulty,.bool (stD k.Fault xs),.bool (false)]) (.inl rfl) o results13 rfl isAgg57 sizeOf57 rfl (u.ld.cellsB t2) ⟨rfl,l,hxs,hf,St.endMut1 (u.pk [0] rfl)⟩
 replace hb:=of_decide_eq_false hb
 iterate 3 refine qn o λo=>?_
 refine qv o (Ac o rfl rfl) λo=>qm o rfl λo=>?_
 iterate 4 refine qn o λo=>?_
 refine qv o (Ac o rfl rfl) λo=>qf o Ym rfl λo=>ls<|Bl o u sizeOf4 rfl rfl rfl rfl (.tail .head) (.succ (.succ (.succ (.succ .zero)))) λw u=>re<|tn<|th<|rg<|qv o (An o Tryz.isAgg57 Tryz.sizeOf57 rfl rfl (u.ld.cellsB t1)) λo=>ls<|Ar o u sizeOf57 rfl rfl rfl rfl (Ak rfl) (.tail (.tail .head)) λw u=>re<|tn<|wr<|?_
 rw [show stK k.Lk k.Fault xs=false by unfold stK;simp_all]
 exact Go.LM.r1c (vs:=[i6 k.Crashed,i6 k.Fault,i6 k.Faulty,.bool (stD k.Fault xs),.bool (false)]) (.inl rfl) o results13 rfl isAgg57 sizeOf57 rfl (u.ld.cellsB t2) ⟨rfl,l,hxs,hf,St.endMut1 (u.pk [0] rfl)⟩
end Go.LM.SWAPS
namespace Go.LM.SWAPS
open Go Go.LL Go.MD Go.LM Go.Proofs Go.MD.SWAPS Go.Proofs.Tryz
set_option maxRecDepth 100000
set_option maxHeartbeats 4000000
def S1m (h:PH) (g:MGh) (k:KS) (n:Nat) (w:World):Prop:=Lds [h] [] w∧∀ j v,nth (mCs g k n) j=some v→w.cell? ⟨g.p,j,none⟩=some v
def S6m (h:PH) (bm:Nat) (cs:List Value) (tg:TG) (x:TS) (w:World):Prop:=Lds [h] [blk bm (.cells cs.toArray 66 (0,0))] w∧∀ j v,nth (tCs tg x) j=some v→w.cell? ⟨tg.tp,j,none⟩=some v
theorem Jft {w0:World} {h:PH} (hl:h.le w0) {g:MGh} {k:KS} {l:List (TG×TS)} (ho:(mA g k l).ok (hp w0)) (hd:∀ b,(mA g k l).fp b→h b=none) (hf:MF h g k l) {xs:List TS} (hxs:l.map (·.2)=xs) (hn:xs.length≤100) (hX:∀ x∈xs,x.Q.length≤2∧x.Regs.length≤100∧x.Counts.length≤100) {m:MS} (hi:MInv m) (hs:Sim m k.R) (hw:k.R.W.length≤1000) (hLk:k.Lk.length≤100) :
 Tot Tryz.prog 10 #[.pointer (some ⟨g.p,0,none⟩)] w0 (λv w'=>∃ kg l1 g2 l2,v=.pointer (some ⟨g2.p,0,none⟩)∧l1.map (·.2)=xs∧MF h { g with kg:=kg } k l1∧l2.map (·.2)=xs∧MF h g2 k l2∧Mut w0 (mA g k l) (sepA [mA { g with kg:=kg } k l1,mA g2 k l2]) w'):=by
 refine fn0 func10 rfl ntmps10 rfl rfl λa o=>?_
 have u:St w0 (mA g k l).fp [h] [mA g k l] w0:=.start1 (by simpa using hl) ho (λb hb x hx=>by simp at hx;subst hx;exact hd b hb)
 refine th<|rg<|qa o rfl λo=>re<|tn<|mid (λa w=>∃ (kg1:KG) (pm2:Nat) (kg2:KG) (bm:Nat) (olk:Option Addr) (clk:Nat),Fr 96 [(0,.pointer (some ⟨g.p,0,none⟩)),(3,PT bm)] a∧St w0 (mA g k l).fp [h] [mA { g with kg:=kg1 } k l,blk bm (.cells (mCs ⟨0,pm2,kg2,olk,clk,none,0,g.u⟩ k 0).toArray 66 (0,0)),sla 3 1 olk k.Lk.length clk (Bj k.Lk),kA pm2 kg2 k.R] w∧MF h { g with kg:=kg1 } k l∧KF h kg2 k.R) ?_ ?_
 refine rdX (S:=S1m h g k l.length) 34 u wide λw u=>?_
 have hd:S1m h g k l.length w:=⟨(u.ly [] rfl),λ_ _ hv=>Ai _ _ ▸ Aw (u.ok _ t0) hv⟩
 refine ds 0 hd o rfl (Aa o rfl) λo=>ds 1 hd o rfl (Af o rfl) λo=>ds 2 hd o rfl (Ad o Jag rfl) λo=>dq 3 hd o rfl (λw hl=>As (v':=.agg (uCs g.u k.U).toArray) (An o isAgg36 sizeOf36 rfl rfl (Jdo hl.2)) rfl) λo=>ds 4 hd o rfl (Aa o rfl) λo=>ds 5 hd o rfl (Af o rfl) λo=>ds 6 hd o rfl (Ad o Om rfl) λo=>dq 7 hd o rfl (λw hl=>Ap o isAgg3 rfl (hl.2 _ _ rfl)) λo=>ds 8 hd o rfl (Aa o rfl) λo=>ds 9 hd o rfl (Af o rfl) λo=>ds 10 hd o rfl (Ad o JcT rfl) λo=>dq 11 hd o rfl (λw hl=>Ap o isAgg3 rfl (hl.2 _ _ rfl)) λo=>ds 12 hd o rfl (Aa o rfl) λo=>ds 13 hd o rfl (Af o rfl) λo=>ds 14 hd o rfl (Ad o Hc rfl) λo=>dq 15 hd o rfl (λw hl=>Ap o isAgg63 rfl (hl.2 _ _ rfl)) λo=>ds 18 hd o rfl (Aa o rfl) λo=>ds 19 hd o rfl (Af o rfl) λo=>ds 20 hd o rfl (Ad o Kt rfl) λo=>dq 21 hd o rfl (λw hl=>Ap o isAgg28 rfl (hl.2 _ _ rfl)) λo=>ds 23 hd o rfl (Aa o rfl) λo=>ds 24 hd o rfl (Af o rfl) λo=>ds 25 hd o rfl (Ad o Ow rfl) λo=>dq 26 hd o rfl (λw hl=>Ap o isAgg3 rfl (hl.2 _ _ rfl)) λo=>ds 27 hd o rfl (Aa o rfl) λo=>ds 28 hd o rfl (Af o rfl) λo=>ds 29 hd o rfl (Ad o Jah rfl) λo=>dq 30 hd o rfl (λw hl=>Ap o isAgg3 rfl (hl.2 _ _ rfl)) λo=>da2 (i:=16) (j:=17) (by kernel_rfl) ?_ ?_
 refine dI 16 rfl<|c1 o rfl call42 (JaJ (u.hs _ t0) (u.ok _ t0) (λb hb=>(u.own _ t0 b hb).2 _ t0) hf hi hs hw) ⟨rfl,trivial⟩ (λv w a hR o=>?_)
 obtain ⟨kg1,pm2,kg2,rfl,hf1,hkf2,hmut⟩:=hR
 replace u:=(u.mut hmut .head).pickL (.cons .head .nil)
 clear hmut
 replace u:=St.unsep2 u
 have hd:S1m h g k l.length w:=⟨(u.ly [] rfl),λ_ _ hv=>Ai _ _ ▸ Aw (u.ok _ t0) hv⟩
 refine ⟨λ_=>hd,?_⟩
 refine dz 17 rfl<|bw (e:=3) (sz:=1) (Bj []) o u λblk_ w u o=>?_
 have hd:S1m h g k l.length w:=⟨(u.ly [] rfl),λ_ _ hv=>Ai _ _ ▸ Aw (u.ok _ t1) hv⟩
 refine ⟨λ_=>hd,?_⟩
 refine dz 22 rfl<|apI o rfl u underlying28 Bs rfl (by decide) rfl rfl t0 (Ev k.Lk) (Pd (g:={ g with kg:=kg1 }) (u.ok _ t1)) (Fo k.Lk) (by omega) (by unfold maxLen;omega) λolk clk w a hU o=>?_
 replace u:=hU _ .head
 rw [Fx,kxl] at u
 rw [kxs] at u o
 have hd:S1m h g k l.length w:=⟨(u.ly [] rfl),λ_ _ hv=>Ai _ _ ▸ Aw (u.ok _ t1) hv⟩
 refine ⟨λ_=>hd,?_⟩
 refine dq 31 hd o rfl (λw hl=>bL [.agg (uCs g.u k.U).toArray,i6 2,i6 k.Crashed,PT pm2,SL olk k.Lk clk,i6 k.Fault,i6 k.Faulty] (mCs ⟨0,pm2,kg2,olk,clk,none,0,g.u⟩ k 0) o) λo=>dz 32 rfl<|Bo (cs:=(mCs ⟨0,pm2,kg2,olk,clk,none,0,g.u⟩ k 0).toArray) o rfl u rfl rfl λbm w a u o=>?_
 have hd:S1m h g k l.length w:=⟨(u.ly [] rfl),λ_ _ hv=>Ai _ _ ▸ Aw (u.ok _ t2) hv⟩
 refine ⟨λ_=>hd,?_⟩
 refine ds 33 hd o rfl (Ca o rfl) λo=>dE<|tn<|?_
 exact ⟨kg1,pm2,kg2,bm,olk,clk,o.hs,u.pk [2,0,0,0] rfl,hf1,hkf2⟩
 refine dI 17 rfl<|bw (e:=3) (sz:=1) (Bj []) o u λblk_ w u o=>?_
 have hd:S1m h g k l.length w:=⟨(u.ly [] rfl),λ_ _ hv=>Ai _ _ ▸ Aw (u.ok _ t1) hv⟩
 refine ⟨λ_=>hd,?_⟩
 refine dz 16 rfl<|c1 o rfl call42 (JaJ (u.hs _ t0) (u.ok _ t1) (λb hb=>(u.own _ t1 b hb).2 _ t0) hf hi hs hw) ⟨rfl,trivial⟩ (λv w a hR o=>?_)
 obtain ⟨kg1,pm2,kg2,rfl,hf1,hkf2,hmut⟩:=hR
 replace u:=(u.mut hmut (.tail .head)).pickL (.cons (.tail .head) (.cons .head .nil))
 clear hmut
 replace u:=St.unsep2 u
 have hd:S1m h g k l.length w:=⟨(u.ly [] rfl),λ_ _ hv=>Ai _ _ ▸ Aw (u.ok _ t0) hv⟩
 refine ⟨λ_=>hd,?_⟩
 refine dz 22 rfl<|apI o rfl u underlying28 Bs rfl (by decide) rfl rfl t2 (Ev k.Lk) (Pd (g:={ g with kg:=kg1 }) (u.ok _ t0)) (Fo k.Lk) (by omega) (by unfold maxLen;omega) λolk clk w a hU o=>?_
 replace u:=hU _ (.tail (.tail .head))
 rw [Fx,kxl] at u
 rw [kxs] at u o
 have hd:S1m h g k l.length w:=⟨(u.ly [] rfl),λ_ _ hv=>Ai _ _ ▸ Aw (u.ok _ t0) hv⟩
 refine ⟨λ_=>hd,?_⟩
 refine dq 31 hd o rfl (λw hl=>bL [.agg (uCs g.u k.U).toArray,i6 2,i6 k.Crashed,PT pm2,SL olk k.Lk clk,i6 k.Fault,i6 k.Faulty] (mCs ⟨0,pm2,kg2,olk,clk,none,0,g.u⟩ k 0) o) λo=>dz 32 rfl<|Bo (cs:=(mCs ⟨0,pm2,kg2,olk,clk,none,0,g.u⟩ k 0).toArray) o rfl u rfl rfl λbm w a u o=>?_
 have hd:S1m h g k l.length w:=⟨(u.ly [] rfl),λ_ _ hv=>Ai _ _ ▸ Aw (u.ok _ t1) hv⟩
 refine ⟨λ_=>hd,?_⟩
 refine ds 33 hd o rfl (Ca o rfl) λo=>dE<|tn<|?_
 exact ⟨kg1,pm2,kg2,bm,olk,clk,o.hs,u.pk [1,0,1,0] rfl,hf1,hkf2⟩
 rintro a w ⟨kg1,pm2,kg2,bm,olk,clk,o,u,hf1,hkf2⟩
 replace u:=St.nilS (u.nilBig tA) 105 1
 replace u:=u.pk [2,2,2,0,1,0] rfl
 replace u:St w0 (mA g k l).fp [h] [mA { g with kg:=kg1 } k l,blk bm (.cells (mCs (⟨bm,pm2,kg2,olk,clk,none,0,g.u⟩:MGh) k 0).toArray 66 (0,0)),sla 3 1 olk k.Lk.length clk (Bj k.Lk),sla 105 1 none 0 0 (En []),kA pm2 kg2 k.R,Ce tA []] w:=u
 refine th<|th<|rg<|qa o rfl λo=>re<|tn<|wb<|lp (α:=Nat×List (TG×TS)×List (TG×TS)×Option Addr×Nat) (λgh a w=>match gh with | (i,l1,ln,op2,cp2)=>Fr 96 [(0,.pointer (some ⟨g.p,0,none⟩)),(3,PT bm),(4,i6 ((i:Nat):Int))] a∧St w0 (mA g k l).fp [h] [mA { g with kg:=kg1 } k l1,blk bm (.cells (mCs (⟨bm,pm2,kg2,olk,clk,op2,cp2,g.u⟩:MGh) k i).toArray 66 (0,0)),sla 3 1 olk k.Lk.length clk (Bj k.Lk),sla 105 1 op2 i cp2 (En ln),kA pm2 kg2 k.R,Ce tA ln] w∧(l1.map (·.2)=xs∧MF h { g with kg:=kg1 } k l1∧i≤xs.length∧ln.map (·.2)=xs.take i∧∀ e∈ln,e.2.C.L.length≤e.1.cC∧SR h e.1.oC e.2.C.L)) (λ(gh:Nat×List (TG×TS)×List (TG×TS)×Option Addr×Nat)=>match gh with | (i,l1,ln,op2,cp2)=>xs.length - i) (0,l,[],none,0) ⟨o.hs,u,⟨hxs,hf1,kxt _,rfl,λe he=>nomatch he⟩⟩ ?_
 rintro ⟨i,l1,ln,op2,cp2⟩ a w ⟨o,u,⟨hl1,hf1,hin,hln,hth⟩⟩
 have hlen:l1.length=xs.length:=by rw [← hl1,kxx]
 have hni:ln.length=i:=by have:=congrArg List.length hln;simpa [kwf hin] using this
 refine th<|th<|rg<|qm o rfl λo=>qm o rfl λo=>qv o (Af o rfl) λo=>qf o Dy rfl λo=>qv o (Ap o isAgg64 rfl (Ai w _ ▸ Aw (u.ld.ok _ t0) rfl)) λo=>qv o (Cn o Po rfl) λo=>qv o (Am o rfl rfl) λo=>re<|tn<|cs o rfl (λhb=>?_) (λhb=>?_)
 replace hb:=of_decide_eq_true hb
 refine wk<|tn<|?_
 have hil:i < l1.length:=by omega
 obtain ⟨⟨tg,x⟩,he⟩:∃ e,l1[i]? = some e:=⟨_,kxq hil⟩
 have hx:xs[i]? = some x:=by rw [← hl1,kzg,he];rfl
 obtain ⟨hix,hxi⟩:=kxn.1 hx
 have hthx:=hf1.th _ (Au he)
 have hXx:=hX x (kyk hx)
 have hq2:=hXx.1
 have hr4:=hXx.2.1
 have hc12:=hXx.2.2
 refine th<|wb<|th<|rg<|qm o rfl λo=>qv o (Af o rfl) λo=>qf o Dy rfl λo=>qv o (Ap o isAgg64 rfl (Ai w _ ▸ Aw (u.ld.ok _ t0) rfl)) λo=>qm o rfl λo=>qv o (Es o Po sizeOf105 rfl rfl rfl (by omega) ((Kd (u.ld.ok _ t0)).some (Hj (i:=i) (by omega)))) λo=>qv o (Ap o isAgg105 rfl (elR (Kd (u.ld.ok _ t0)) (Hl he))) λo=>qa o rfl λo=>re<|tn<|rdX (S:=S6m h bm (mCs (⟨bm,pm2,kg2,olk,clk,op2,cp2,g.u⟩:MGh) k i) tg x) 40 u wide λw u=>?_
 have hd:S6m h bm (mCs (⟨bm,pm2,kg2,olk,clk,op2,cp2,g.u⟩:MGh) k i) tg x w:=⟨(u.ly [1] rfl),λ_ _ hv=>Ai _ _ ▸ Az (u.ok _ t0) (Au he) hv⟩
 refine Jgx (k:=33) (L:=#[true,true,true,true,true,true,true,true,true,true,true,true,true,true,true,true,true,true,true,true,true,true,true,true,true,true,true,true,true,false,true,true,true,true,false,false,false,false,false,false,false]) (λa w=>∃ (oR2:Option Addr) (cR2:Nat) (oN2:Option Addr) (cN2:Nat),Fr 96 [(0,.pointer (some ⟨g.p,0,none⟩)),(3,PT bm),(4,i6 ((i:Nat):Int)),(55,PT bm),(59,.slice op2 i cp2),(63,.agg #[i6 x.C.Regs,i6 x.C.Counts,.slice tg.oC x.C.L.length tg.cC]),(67,i6 x.At),(73,SL oR2 x.Regs cR2),(79,SL oN2 x.Counts cN2),(83,.pointer (some ⟨tg.bp,0,none⟩)),(88,i6 x.Fault)] a∧St w0 (mA g k l).fp [h] [sla 3 1 oR2 x.Regs.length cR2 (Bj x.Regs),sla 3 1 oN2 x.Counts.length cN2 (Bj x.Counts),mA { g with kg:=kg1 } k l1,blk bm (.cells (mCs (⟨bm,pm2,kg2,olk,clk,op2,cp2,g.u⟩:MGh) k i).toArray 66 (0,0)),sla 3 1 olk k.Lk.length clk (Bj k.Lk),sla 105 1 op2 i cp2 (En ln),kA pm2 kg2 k.R,Ce tA ln] w) ?_ ?_
 intro key
 refine ds 0 hd o rfl (Aa o rfl) λo=>ds 1 hd o rfl (Aa o rfl) λo=>ds 2 hd o rfl (Af o rfl) λo=>ds 3 hd o rfl (Ad o Dy rfl) λo=>dq 4 hd o rfl (λw hl=>eB o isAgg64 rfl hl.1 t0 rfl) λo=>ds 5 hd o rfl (Aa o rfl) λo=>ds 6 hd o rfl (Af o rfl) λo=>ds 7 hd o rfl (Ad o Jr rfl) λo=>dq 8 hd o rfl (λw hl=>An o isAgg33 sizeOf33 rfl rfl (JdD hl.2)) λo=>ds 9 hd o rfl (Aa o rfl) λo=>ds 10 hd o rfl (Af o rfl) λo=>ds 11 hd o rfl (Ad o Fi rfl) λo=>dq 12 hd o rfl (λw hl=>Ap o isAgg3 rfl (hl.2 _ _ rfl)) λo=>ds 14 hd o rfl (Aa o rfl) λo=>ds 15 hd o rfl (Af o rfl) λo=>ds 16 hd o rfl (Ad o Kz rfl) λo=>dq 17 hd o rfl (λw hl=>Ap o isAgg28 rfl (hl.2 _ _ rfl)) λo=>ds 20 hd o rfl (Aa o rfl) λo=>ds 21 hd o rfl (Af o rfl) λo=>ds 22 hd o rfl (Ad o Nl rfl) λo=>dq 23 hd o rfl (λw hl=>Ap o isAgg28 rfl (hl.2 _ _ rfl)) λo=>ds 25 hd o rfl (Aa o rfl) λo=>ds 26 hd o rfl (Af o rfl) λo=>ds 27 hd o rfl (Ad o Du rfl) λo=>dq 28 hd o rfl (λw hl=>Ap o isAgg98 rfl (hl.2 _ _ rfl)) λo=>ds 30 hd o rfl (Aa o rfl) λo=>ds 31 hd o rfl (Af o rfl) λo=>ds 32 hd o rfl (Ad o Ll rfl) λo=>dq 33 hd o rfl (λw hl=>Ap o isAgg3 rfl (hl.2 _ _ rfl)) λo=>da2 (i:=13) (j:=19) (by kernel_rfl) ?_ ?_
 refine dI 13 rfl<|bw (e:=3) (sz:=1) (Bj []) o u λbz1 w u o=>?_
 have hd:S6m h bm (mCs (⟨bm,pm2,kg2,olk,clk,op2,cp2,g.u⟩:MGh) k i) tg x w:=⟨(u.ly [2] rfl),λ_ _ hv=>Ai _ _ ▸ Az (u.ok _ t1) (Au he) hv⟩
 refine ⟨λ_=>hd,?_⟩
 refine da2 (i:=18) (j:=19) (by kernel_rfl) ?_ ?_
 refine dI 18 rfl<|apI o rfl u underlying28 Bs rfl (by decide) rfl rfl t0 (Ev x.Regs) (Jbh (u.ok _ t1) (Au he)) (Fo x.Regs) (by omega) (by unfold maxLen;omega) λoR2 cR2 w a hU o=>?_
 replace u:=hU _ .head
 rw [Fx,kxl] at u
 rw [kxs] at u o
 have hd:S6m h bm (mCs (⟨bm,pm2,kg2,olk,clk,op2,cp2,g.u⟩:MGh) k i) tg x w:=⟨(u.ly [2] rfl),λ_ _ hv=>Ai _ _ ▸ Az (u.ok _ t1) (Au he) hv⟩
 refine ⟨λ_=>hd,?_⟩
 refine dz 19 rfl<|bw (e:=3) (sz:=1) (Bj []) o u λbz2 w u o=>?_
 have hd:S6m h bm (mCs (⟨bm,pm2,kg2,olk,clk,op2,cp2,g.u⟩:MGh) k i) tg x w:=⟨(u.ly [3] rfl),λ_ _ hv=>Ai _ _ ▸ Az (u.ok _ t2) (Au he) hv⟩
 refine ⟨λ_=>hd,?_⟩
 refine dz 24 rfl<|apI o rfl u underlying28 Bs rfl (by decide) rfl rfl t0 (Ev x.Counts) (Jfp (u.ok _ t2) (Au he)) (Fo x.Counts) (by omega) (by unfold maxLen;omega) λoN2 cN2 w a hU o=>?_
 replace u:=hU _ .head
 rw [Fx,kxl] at u
 rw [kxs] at u o
 have hd:S6m h bm (mCs (⟨bm,pm2,kg2,olk,clk,op2,cp2,g.u⟩:MGh) k i) tg x w:=⟨(u.ly [3] rfl),λ_ _ hv=>Ai _ _ ▸ Az (u.ok _ t2) (Au he) hv⟩
 refine ⟨λ_=>hd,?_⟩
 exact Cm (by kernel_rfl) (key _ _ ⟨oR2,cR2,oN2,cN2,o.hs,u.pk [1,0,0,0,0,0,0,0] rfl⟩)
 refine dI 19 rfl<|bw (e:=3) (sz:=1) (Bj []) o u λbz2 w u o=>?_
 have hd:S6m h bm (mCs (⟨bm,pm2,kg2,olk,clk,op2,cp2,g.u⟩:MGh) k i) tg x w:=⟨(u.ly [3] rfl),λ_ _ hv=>Ai _ _ ▸ Az (u.ok _ t2) (Au he) hv⟩
 refine ⟨λ_=>hd,?_⟩
 refine dz 18 rfl<|apI o rfl u underlying28 Bs rfl (by decide) rfl rfl t1 (Ev x.Regs) (Jbh (u.ok _ t2) (Au he)) (Fo x.Regs) (by omega) (by unfold maxLen;omega) λoR2 cR2 w a hU o=>?_
 replace u:=hU _ (.tail .head)
 rw [Fx,kxl] at u
 rw [kxs] at u o
 have hd:S6m h bm (mCs (⟨bm,pm2,kg2,olk,clk,op2,cp2,g.u⟩:MGh) k i) tg x w:=⟨(u.ly [3] rfl),λ_ _ hv=>Ai _ _ ▸ Az (u.ok _ t2) (Au he) hv⟩
 refine ⟨λ_=>hd,?_⟩
 refine dz 24 rfl<|apI o rfl u underlying28 Bs rfl (by decide) rfl rfl t0 (Ev x.Counts) (Jfp (u.ok _ t2) (Au he)) (Fo x.Counts) (by omega) (by unfold maxLen;omega) λoN2 cN2 w a hU o=>?_
 replace u:=hU _ .head
 rw [Fx,kxl] at u
 rw [kxs] at u o
 have hd:S6m h bm (mCs (⟨bm,pm2,kg2,olk,clk,op2,cp2,g.u⟩:MGh) k i) tg x w:=⟨(u.ly [3] rfl),λ_ _ hv=>Ai _ _ ▸ Az (u.ok _ t2) (Au he) hv⟩
 refine ⟨λ_=>hd,?_⟩
 exact Cm (by kernel_rfl) (key _ _ ⟨oR2,cR2,oN2,cN2,o.hs,u.pk [1,0,0,0,0,0,0,0] rfl⟩)
 refine dI 19 rfl<|bw (e:=3) (sz:=1) (Bj []) o u λbz2 w u o=>?_
 have hd:S6m h bm (mCs (⟨bm,pm2,kg2,olk,clk,op2,cp2,g.u⟩:MGh) k i) tg x w:=⟨(u.ly [2] rfl),λ_ _ hv=>Ai _ _ ▸ Az (u.ok _ t1) (Au he) hv⟩
 refine ⟨λ_=>hd,?_⟩
 refine dz 13 rfl<|bw (e:=3) (sz:=1) (Bj []) o u λbz1 w u o=>?_
 have hd:S6m h bm (mCs (⟨bm,pm2,kg2,olk,clk,op2,cp2,g.u⟩:MGh) k i) tg x w:=⟨(u.ly [3] rfl),λ_ _ hv=>Ai _ _ ▸ Az (u.ok _ t2) (Au he) hv⟩
 refine ⟨λ_=>hd,?_⟩
 refine dz 18 rfl<|apI o rfl u underlying28 Bs rfl (by decide) rfl rfl t0 (Ev x.Regs) (Jbh (u.ok _ t2) (Au he)) (Fo x.Regs) (by omega) (by unfold maxLen;omega) λoR2 cR2 w a hU o=>?_
 replace u:=hU _ .head
 rw [Fx,kxl] at u
 rw [kxs] at u o
 have hd:S6m h bm (mCs (⟨bm,pm2,kg2,olk,clk,op2,cp2,g.u⟩:MGh) k i) tg x w:=⟨(u.ly [3] rfl),λ_ _ hv=>Ai _ _ ▸ Az (u.ok _ t2) (Au he) hv⟩
 refine ⟨λ_=>hd,?_⟩
 refine dz 24 rfl<|apI o rfl u underlying28 Bs rfl (by decide) rfl rfl t1 (Ev x.Counts) (Jfp (u.ok _ t2) (Au he)) (Fo x.Counts) (by omega) (by unfold maxLen;omega) λoN2 cN2 w a hU o=>?_
 replace u:=hU _ (.tail .head)
 rw [Fx,kxl] at u
 rw [kxs] at u o
 have hd:S6m h bm (mCs (⟨bm,pm2,kg2,olk,clk,op2,cp2,g.u⟩:MGh) k i) tg x w:=⟨(u.ly [3] rfl),λ_ _ hv=>Ai _ _ ▸ Az (u.ok _ t2) (Au he) hv⟩
 refine ⟨λ_=>hd,?_⟩
 exact Cm (by kernel_rfl) (key _ _ ⟨oR2,cR2,oN2,cN2,o.hs,u.pk [0,0,0,0,0,0,0,0] rfl⟩)
 rintro a w ⟨oR2,cR2,oN2,cN2,o,u⟩
 have hd:S6m h bm (mCs (⟨bm,pm2,kg2,olk,clk,op2,cp2,g.u⟩:MGh) k i) tg x w:=⟨(u.ly [3] rfl),λ_ _ hv=>Ai _ _ ▸ Az (u.ok _ t2) (Au he) hv⟩
 refine dz 29 rfl<|c1 o rfl call43 (JdM (u.hs _ t0) (u.ok _ t2) (λb hb=>(u.own _ t2 b hb).2 _ t0) hf1 he hq2) ⟨rfl,trivial⟩ (λv w a hR o=>?_)
 obtain ⟨oo,co,bq,oq,cq,rfl,hf2,hmut⟩:=hR
 replace u:=(u.mut hmut (.tail (.tail .head))).pickL (.cons (.tail (.tail .head)) (.cons .head (.cons .head (.cons .head (.cons .head (.cons .head (.cons .head (.cons .head .nil))))))))
 clear hmut
 replace u:=St.unsep2 u
 have he2:=Gz (e2:=({ tg with oQ:=oo,cQ:=co },x)) he
 have hl2:=(Ur (e2:=({ tg with oQ:=oo,cQ:=co },x)) he rfl).trans hl1
 generalize hlg:l1.set i ({ tg with oQ:=oo,cQ:=co },x)=l2 at u hf2 he2 hl2
 clear hlg
 have hd:S6m h bm (mCs (⟨bm,pm2,kg2,olk,clk,op2,cp2,g.u⟩:MGh) k i) tg x w:=⟨(u.ly [4] rfl),λ_ _ hv=>Ai _ _ ▸ Az (u.ok _ t0) (Au he2) hv⟩
 refine ⟨λ_=>hd,?_⟩
 refine dq 34 hd o rfl (λw hl=>bL [.agg #[i6 x.C.Regs,i6 x.C.Counts,.slice tg.oC x.C.L.length tg.cC],i6 x.At,SL oR2 x.Regs cR2,SL oN2 x.Counts cN2,PT bq,i6 x.Fault] [i6 x.C.Regs,i6 x.C.Counts,.slice tg.oC x.C.L.length tg.cC,i6 x.At,SL oR2 x.Regs cR2,SL oN2 x.Counts cN2,PT bq,i6 x.Fault] o) λo=>dz 35 rfl<|Bo (cs:=[i6 x.C.Regs,i6 x.C.Counts,.slice tg.oC x.C.L.length tg.cC,i6 x.At,SL oR2 x.Regs cR2,SL oN2 x.Counts cN2,PT bq,i6 x.Fault].toArray) o rfl u rfl rfl λbt w a u o=>?_
 have hd:S6m h bm (mCs (⟨bm,pm2,kg2,olk,clk,op2,cp2,g.u⟩:MGh) k i) tg x w:=⟨(u.ly [5] rfl),λ_ _ hv=>Ai _ _ ▸ Az (u.ok _ t1) (Au he2) hv⟩
 refine ⟨λ_=>hd,?_⟩
 refine dz 36 rfl<|bw (e:=105) (sz:=1) [PT bt] o u λbzp w u o=>?_
 have hd:S6m h bm (mCs (⟨bm,pm2,kg2,olk,clk,op2,cp2,g.u⟩:MGh) k i) tg x w:=⟨(u.ly [6] rfl),λ_ _ hv=>Ai _ _ ▸ Az (u.ok _ t2) (Au he2) hv⟩
 refine ⟨λ_=>hd,?_⟩
 refine dz 37 rfl<|apI o rfl u underlying64 Up rfl (by decide) rfl rfl t8 rfl (u.rdO t0) (λv hv=>by rw [kxo] at hv;subst hv;rfl) (by omega) (by unfold maxLen;omega) λop3 cp3 w a hU o=>?_
 replace u:=hU _ (.tail (.tail (.tail (.tail (.tail (.tail (.tail (.tail .head))))))))
 have hd:S6m h bm (mCs (⟨bm,pm2,kg2,olk,clk,op2,cp2,g.u⟩:MGh) k i) tg x w:=⟨(u.ly [6] rfl),λ_ _ hv=>Ai _ _ ▸ Az (u.ok _ t2) (Au he2) hv⟩
 refine ⟨λ_=>hd,?_⟩
 refine dz 38 rfl<|q1 o rfl (Af o rfl) λa o=>?_
 have hd:S6m h bm (mCs (⟨bm,pm2,kg2,olk,clk,op2,cp2,g.u⟩:MGh) k i) tg x w:=⟨(u.ly [6] rfl),λ_ _ hv=>Ai _ _ ▸ Az (u.ok _ t2) (Au he2) hv⟩
 refine ⟨λ_=>hd,?_⟩
 refine ds 39 hd o rfl (Ad o Dy rfl) λo=>dz 40 rfl<|Bl o u sizeOf64 rfl rfl rfl rfl (.tail (.tail (.tail (.tail (.tail (.tail .head)))))) (.succ (.succ (.succ (.succ (.succ (.succ (.succ (.succ (.succ (.succ (.succ (.succ (.succ .zero))))))))))))) λw u=>⟨λh=>absurd rfl h,?_⟩
 refine dE<|bn<|tn<|?_
 replace u:=u.pk [1,3,3,2,1,1,1,1,1,1] rfl
 replace u:=St.thread (x:=x) u
 obtain ⟨eN,heN⟩:∃ q:TG×TS,q=(⟨bt,bq,tg.oC,tg.cC,oR2,cR2,oN2,cN2,oq,cq⟩,x):=⟨_,rfl⟩
 rw [← heN] at u
 replace u:=u.bigPush (f:=tA) (L2:=[mA { g with kg:=kg1 } k l2,blk bm (.cells (mCs (⟨bm,pm2,kg2,olk,clk,op3,cp3,g.u⟩:MGh) k (i+1)).toArray 66 (0,0)),sla 3 1 olk k.Lk.length clk (Bj k.Lk),sla 105 1 op3 (i+1) cp3 (En (ln ++ [eN])),kA pm2 kg2 k.R,Ce tA (ln ++ [eN])]) .head (by rw [← Ri,show eN.1.tp=bt by rw [heN]];exact .tail (.tail (.tail (.tail (.tail .head)))))
 have hthx:eN.2.C.L.length≤eN.1.cC∧SR h eN.1.oC eN.2.C.L:=by rw [heN];exact hthx
 have hxi:xs[i]=eN.2:=by rw [heN];exact hxi
 refine rg<|qm o rfl λo=>qv o (Dx (r:=(((i+1):Nat):Int)) o rfl rfl rfl (by omega)) λo=>qa o rfl λo=>re<|tn<|?_
 exact ⟨(i+1,l2,ln ++ [eN],op3,cp3),⟨o.hs,u,⟨hl2,hf2,by omega,by rw [kyp,hln,kyi hix,hxi];rfl,λe he=>by rcases kxi.1 he with q | q;exact hth e q;rw [kxo] at q;subst q;exact hthx⟩⟩,(by dsimp only;omega)⟩
 replace hb:=kyd.1 (of_decide_eq_false hb)
 refine we<|tx<|tx<|bx<|tn<|th<|rg<|qm o rfl λo=>qa o rfl λo=>re<|tn<|wr<|?_
 have hie:i=xs.length:=by omega
 rw [hie,kwr] at hln
 rw [← hni] at u
 replace u:=u.pk [1,1,1,1,1,0] rfl
 replace u:=St.sep (mL (⟨bm,pm2,kg2,olk,clk,op2,cp2,g.u⟩:MGh) k ln) u
 exact r1 o results10 rfl ⟨kg1,l1,(⟨bm,pm2,kg2,olk,clk,op2,cp2,g.u⟩:MGh),ln,rfl,hl1,hf1,hln,⟨hf1.lc,hf1.lr,hkf2,hth⟩,(u.pk [1,0] rfl).endMut⟩
end Go.LM.SWAPS
namespace Go.LM.SWAPS
open Go Go.LL Go.MD Go.LM Go.Proofs Go.MD.SWAPS Go.Proofs.Tryz
set_option maxRecDepth 100000
set_option maxHeartbeats 4000000
theorem JdA {w0:World} {h:PH} (hl:h.le w0) {g:MGh} {k:KS} (ho:(mA g k []).ok (hp w0)) (hd:∀ b,(mA g k []).fp b→h b=none) (hf:MF h g k []) (hL:k.U.Locks≤100) {T:List api_Code} {oT:Option Addr} {cT:Nat} (hrT:SR h oT T) (hn:T.length≤100) {p4 p5 p6:Int} (hT:∀ c∈T,TOk p4 p5 p6 ((x0 c).th none)) (hTb:∀ c∈T,(0≤c.Regs∧c.Regs≤100)∧(0≤c.Counts∧c.Counts≤100)) :
 Tot Tryz.prog 34 #[.pointer (some ⟨g.p,0,none⟩),SL oT T cT] w0 (λv w'=>∃ (g2:MGh) (l2:List (TG×TS)),v=.tuple #[]∧l2.map (·.2)=T.map (λc=>onS (x0 c))∧MF h g2 { k with Lk:=List.replicate k.U.Locks.toNat (-1) } l2∧g2.p=g.p∧g2.u=g.u∧Mut w0 (mA g k []) (mA g2 { k with Lk:=List.replicate k.U.Locks.toNat (-1) } l2) w'):=by
 refine fn0 func34 rfl ntmps34 rfl rfl λa o=>?_
 have u:St w0 (mA g k []).fp [h] [mA g k []] w0:=.start1 (by simpa using hl) ho (λb hb x hx=>by simp at hx;subst hx;exact hd b hb)
 replace u:=u.unsep
 refine th<|rg<|qm o rfl λo=>qv o (Af o rfl) λo=>qf o Dy rfl λo=>ls<|Bl o u sizeOf64 rfl rfl rfl rfl .head (.succ (.succ (.succ (.succ (.succ (.succ (.succ (.succ (.succ (.succ (.succ (.succ (.succ .zero))))))))))))) λw u=>re<|tn<|th<|rg<|qm o rfl λo=>qv o (Af o rfl) λo=>qf o Kt rfl λo=>ls<|Bl o u sizeOf28 rfl rfl rfl rfl .head (.succ (.succ (.succ (.succ (.succ (.succ (.succ (.succ (.succ (.succ (.succ (.succ .zero)))))))))))) λw u=>re<|tn<|th<|th<|rg<|qa o rfl λo=>re<|tn<|?_
 replace u:=St.nilS (u.nilS 3 1) 105 1
 replace u:=u.pk [2,1,0,2,2] rfl
 replace u:St w0 (mA g k []).fp [h] [blk g.p (.cells (mCz ({ g with ol:=none,cl:=0,op:=none,cp:=0 }:MGh) k 0 0).toArray 66 (0,0)),sla 3 1 none 0 0 (Bj (List.replicate 0 (-1))),sla 105 1 none 0 0 (En []),kA g.pm g.kg k.R,Ce tA []] w:=u
 refine wb<|lp (α:=Nat×Option Addr×Nat) (λgh a w=>match gh with | (i,ol2,cl2)=>Fr 78 [(0,.pointer (some ⟨g.p,0,none⟩)),(1,SL oT T cT),(4,i6 ((i:Nat):Int))] a∧St w0 (mA g k []).fp [h] [blk g.p (.cells (mCz ({ g with ol:=ol2,cl:=cl2,op:=none,cp:=0 }:MGh) k i 0).toArray 66 (0,0)),sla 3 1 ol2 i cl2 (Bj (List.replicate i (-1))),sla 105 1 none 0 0 (En []),kA g.pm g.kg k.R,Ce tA []] w∧(i≤k.U.Locks.toNat)) (λ(gh:Nat×Option Addr×Nat)=>match gh with | (i,ol2,cl2)=>k.U.Locks.toNat - i) (0,none,0) ⟨o.hs,u,(kxt _)⟩ ?_
 rintro ⟨i,ol2,cl2⟩ a w ⟨o,u,hin⟩
 refine th<|th<|rg<|qm o rfl λo=>qm o rfl λo=>qv o (Af o rfl) λo=>qf o Jag rfl λo=>qf o Se rfl λo=>qB o isAgg3 rfl u t0 rfl λo=>qv o (Am o rfl rfl) λo=>re<|tn<|cs o rfl (λhb=>?_) (λhb=>?_)
 replace hb:=of_decide_eq_true hb
 refine wk<|tn<|th<|wb<|rg<|qm o rfl λo=>qm o rfl λo=>qv o (Af o rfl) λo=>qf o Kt rfl λo=>qB o isAgg28 rfl u t0 rfl λo=>ls<|bw (e:=3) (sz:=1) (Bj [-1]) o u λb w u o=>ls<|apI o rfl u underlying28 Bs rfl (by decide) rfl rfl t2 (Ev [-1]) (u.rdO t0) (Fo [-1]) (by omega) (by unfold maxLen;omega) λoa c w a hU o=>?_
 replace u:=hU _ (.tail (.tail .head))
 replace u:=u.drop .head
 rw [Fx] at u
 refine qv o (Af o rfl) λo=>qf o Kt rfl λo=>ls<|Bl o u sizeOf28 rfl rfl rfl rfl .head (.succ (.succ (.succ (.succ (.succ (.succ (.succ (.succ (.succ (.succ (.succ (.succ .zero)))))))))))) λw u=>re<|bn<|tn<|rg<|qm o rfl λo=>qv o (Dx (r:=(((i+1):Nat):Int)) o rfl rfl rfl (by omega)) λo=>qa o rfl λo=>re<|tn<|?_
 replace u:=u.pk [0,0,0,0,0] rfl
 rw [← List.replicate_succ'] at u
 exact ⟨(i+1,oa,c),⟨o.hs,u,(by omega)⟩,(by dsimp only;omega)⟩
 replace hb:=kyd.1 (of_decide_eq_false hb)
 refine we<|tx<|tx<|bx<|tn<|?_
 have hil:i=k.U.Locks.toNat:=by omega
 subst hil
 refine th<|rg<|qa o rfl λo=>re<|tn<|wb<|lp (α:=Nat×List (TG×TS)×Option Addr×Nat) (λgh a w=>match gh with | (i,ln,op2,cp2)=>Fr 78 [(0,.pointer (some ⟨g.p,0,none⟩)),(1,SL oT T cT),(5,i6 ((i:Nat):Int))] a∧St w0 (mA g k []).fp [h] [blk g.p (.cells (mCz ({ g with ol:=ol2,cl:=cl2,op:=op2,cp:=cp2 }:MGh) k k.U.Locks.toNat i).toArray 66 (0,0)),sla 3 1 ol2 k.U.Locks.toNat cl2 (Bj (List.replicate k.U.Locks.toNat (-1))),sla 105 1 op2 i cp2 (En ln),kA g.pm g.kg k.R,Ce tA ln] w∧(i≤T.length∧ln.map (·.2)=(T.take i).map (λc=>onS (x0 c))∧∀ e∈ln,e.2.C.L.length≤e.1.cC∧SR h e.1.oC e.2.C.L)) (λ(gh:Nat×List (TG×TS)×Option Addr×Nat)=>match gh with | (i,ln,op2,cp2)=>T.length - i) (0,[],none,0) ⟨o.hs,u,⟨kxt _,rfl,λe he=>nomatch he⟩⟩ ?_
 rintro ⟨i,ln,op2,cp2⟩ a w ⟨o,u,⟨hin,hln,hth⟩⟩
 have hni:ln.length=i:=by have:=congrArg List.length hln;simpa [kwf hin] using this
 refine th<|th<|rg<|qm o rfl λo=>qm o rfl λo=>qv o (Cn o Vt rfl) λo=>qv o (Am o rfl rfl) λo=>re<|tn<|cs o rfl (λhb=>?_) (λhb=>?_)
 replace hb:=of_decide_eq_true hb
 refine wk<|tn<|?_
 have hix:i < T.length:=by omega
 obtain ⟨y,hy⟩:∃ y,getI T (i:Int)=some y:=⟨_,Al rfl hix⟩
 have hxi:T[i]=y:=kyh ((Al rfl hix).symm.trans hy)
 obtain ⟨cy,ey,hcy⟩:=SR.get hrT hy
 obtain ⟨oC,cC,rfl,hcC,hrC⟩:=Cp ey
 have hyT:=hT y (hxi ▸ kxj hix)
 have hyb:=hTb y (hxi ▸ kxj hix)
 have hR0:((y.Regs.toNat:Nat):Int)=y.Regs:=by omega
 have hC0:((y.Counts.toNat:Nat):Int)=y.Counts:=by omega
 refine th<|wb<|th<|rg<|qm o rfl λo=>qv o (Af o rfl) λo=>qf o Om rfl λo=>qB o isAgg3 rfl u t0 rfl λo=>ls<|c1 o rfl call32 (Jc4 (u.hs _ t0)) ⟨rfl,trivial⟩ (λv w a hR o=>?_)
 obtain ⟨bq,oq,cq,rfl,hfr⟩:=hR
 replace u:=u.fresh hfr
 clear hfr
 refine qm o rfl λo=>?_
 iterate 2 refine qv o (Dt o rfl rfl) λo=>?_
 iterate 2 refine qa o rfl λo=>?_
 refine re<|tn<|th<|rdL Ey 20 u wide λw u=>ds 0 (u.ly [] rfl) o rfl (Aa o rfl) λo=>ds 1 (u.ly [] rfl) o rfl (Aa o rfl) λo=>ds 2 (u.ly [] rfl) o rfl (Co (xs:=T) (z:=y) o Vt sizeOf33 rfl rfl hy (SR.oaI hrT (by decide) hy)) λo=>dq 3 (u.ly [] rfl) o rfl (λw hl=>An o isAgg33 sizeOf33 rfl rfl (λj v hj=>PH.le.cell (hl.hs _ t0) (hcy j v hj))) λo=>ds 4 (u.ly [] rfl) o rfl (Aa o rfl) λo=>ds 5 (u.ly [] rfl) o rfl (Aa o rfl) λo=>ds 6 (u.ly [] rfl) o rfl (Aa o rfl) λo=>ds 7 (u.ly [] rfl) o rfl (Co (xs:=T) (z:=y) o Vt sizeOf33 rfl rfl hy (SR.oaI hrT (by decide) hy)) λo=>ds 8 (u.ly [] rfl) o rfl (Ad o Jn rfl) λo=>dq 9 (u.ly [] rfl) o rfl (λw hl=>Ap o isAgg3 rfl (PH.le.cell (hl.hs _ t0) (hcy 0 _ rfl))) λo=>ds 11 (u.ly [] rfl) o rfl (Aa o rfl) λo=>ds 12 (u.ly [] rfl) o rfl (Aa o rfl) λo=>ds 13 (u.ly [] rfl) o rfl (Co (xs:=T) (z:=y) o Vt sizeOf33 rfl rfl hy (SR.oaI hrT (by decide) hy)) λo=>ds 14 (u.ly [] rfl) o rfl (Ad o Uf rfl) λo=>dq 15 (u.ly [] rfl) o rfl (λw hl=>Ap o isAgg3 rfl (PH.le.cell (hl.hs _ t0) (hcy 1 _ rfl))) λo=>da2 (i:=10) (j:=16) (by kernel_rfl) ?_ ?_
 refine dI 10 rfl<|Wx (n:=y.Regs.toNat) o rfl u underlying28 Bs rfl (by rw [hR0];rfl) (by rw [hR0];rfl) (by omega) (by unfold maxLen;omega) λbz1 w a u o=>?_
 rw [Iy] at u
 refine ⟨λ_=>(u.ly [] rfl),?_⟩
 refine dz 16 rfl<|Wx (n:=y.Counts.toNat) o rfl u underlying28 Bs rfl (by rw [hC0];rfl) (by rw [hC0];rfl) (by omega) (by unfold maxLen;omega) λbz2 w a u o=>?_
 rw [Iy] at u
 refine ⟨λ_=>(u.ly [] rfl),?_⟩
 refine dq 17 (u.ly [] rfl) o rfl (λw hl=>bL [.agg #[i6 y.Regs,i6 y.Counts,SL oC y.L cC],PT bq,.slice (some ⟨bz1,0,none⟩) y.Regs.toNat y.Regs.toNat,.slice (some ⟨bz2,0,none⟩) y.Counts.toNat y.Counts.toNat] [i6 y.Regs,i6 y.Counts,SL oC y.L cC,i6 0,.slice (some ⟨bz1,0,none⟩) y.Regs.toNat y.Regs.toNat,.slice (some ⟨bz2,0,none⟩) y.Counts.toNat y.Counts.toNat,PT bq,i6 0] o) λo=>dz 18 rfl<|Bo (cs:=[i6 y.Regs,i6 y.Counts,SL oC y.L cC,i6 0,.slice (some ⟨bz1,0,none⟩) y.Regs.toNat y.Regs.toNat,.slice (some ⟨bz2,0,none⟩) y.Counts.toNat y.Counts.toNat,PT bq,i6 0].toArray) o rfl u rfl rfl λbt w a u o=>⟨λ_=>(u.ly [] rfl),?_⟩
 refine ds 19 (u.ly [] rfl) o rfl (Ca o rfl) λo=>dE<|tn<|?_
 replace u:=u.pk [0,1,0,0,0,0,0,0,0] rfl
 obtain ⟨tg,htg⟩:∃ q:TG,q=⟨bt,bq,oC,cC,some ⟨bz1,0,none⟩,y.Regs.toNat,some ⟨bz2,0,none⟩,y.Counts.toNat,oq,cq⟩:=⟨_,rfl⟩
 have hK:tK tg (x0 y)=[bk bt [i6 y.Regs,i6 y.Counts,SL oC y.L cC,i6 0,.slice (some ⟨bz1,0,none⟩) y.Regs.toNat y.Regs.toNat,.slice (some ⟨bz2,0,none⟩) y.Counts.toNat y.Counts.toNat,PT bq,i6 0] 107,sla 3 1 (some ⟨bz1,0,none⟩) y.Regs.toNat y.Regs.toNat (Bj (List.replicate y.Regs.toNat 0)),sla 3 1 (some ⟨bz2,0,none⟩) y.Counts.toNat y.Counts.toNat (Bj (List.replicate y.Counts.toNat 0))]:=by rw [htg];simp [tK,tCs,x0]
 replace u:=St.sep (tK tg (x0 y)) (by rw [hK];exact u)
 have htp:bt=tg.tp:=by rw [htg]
 have hcc:(x0 y).C.L.length≤tg.cC:=by rw [htg];exact hcC
 have hrr:SR h tg.oC (x0 y).C.L:=by rw [htg];exact hrC
 have htq:bq=tg.bp∧oq=tg.oQ∧cq=tg.cQ:=by rw [htg];exact ⟨rfl,rfl,rfl⟩
 clear htg hK;subst htp;obtain ⟨rfl,rfl,rfl⟩:=htq
 refine th<|rg<|qm o rfl λo=>ls<|c1 o rfl call71 (JcN (x:=x0 y) (u.hs _ t0) (u.ok _ t0) (λb hb=>(u.own _ t0 b hb).2 _ t0) hcc hrr hyT rfl) ⟨rfl,trivial⟩ (λv w a hR o=>?_)
 obtain ⟨o1,c1,o2,c2,o3,c3,rfl,hcx,hrx,hmut⟩:=hR
 replace u:=u.mut hmut .head
 clear hmut
 refine re<|tn<|rg<|qm o rfl λo=>qm o rfl λo=>qv o (Af o rfl) λo=>qf o Dy rfl λo=>qB o isAgg64 rfl u t2 rfl λo=>qm o rfl λo=>ls<|bw (e:=105) (sz:=1) [.pointer (some ⟨tg.tp,0,none⟩)] o u λbzp w u o=>ls<|apI o rfl u underlying64 Up rfl (by decide) rfl rfl t5 rfl (u.rdO t0) (λv hv=>by rw [kxo] at hv;subst hv;rfl) (by omega) (by unfold maxLen;omega) λoa c w a hU o=>?_
 replace u:=hU _ (.tail (.tail (.tail (.tail (.tail .head)))))
 refine qv o (Af o rfl) λo=>qf o Dy rfl λo=>ls<|Bl o u sizeOf64 rfl rfl rfl rfl (.tail (.tail (.tail .head))) (.succ (.succ (.succ (.succ (.succ (.succ (.succ (.succ (.succ (.succ (.succ (.succ (.succ .zero))))))))))))) λw u=>re<|bn<|tn<|?_
 have hqe:(onS (x0 y)).Q=[]:=(Iw hyT rfl).2.2
 replace u:=u.pk [1,1,1,1,1,1,1] rfl
 replace u:=St.thread2 (by exact hqe) u
 obtain ⟨eN,heN⟩:∃ q:TG×TS,q=(⟨tg.tp,tg.bp,o1,c1,o2,c2,o3,c3,tg.oQ,tg.cQ⟩,onS (x0 y)):=⟨_,rfl⟩
 rw [← heN] at u
 replace u:=u.bigPush (f:=tA) (L2:=[blk g.p (.cells (mCz ({ g with ol:=ol2,cl:=cl2,op:=oa,cp:=c }:MGh) k k.U.Locks.toNat (i+1)).toArray 66 (0,0)),sla 3 1 ol2 k.U.Locks.toNat cl2 (Bj (List.replicate k.U.Locks.toNat (-1))),sla 105 1 oa (i+1) c (En (ln ++ [eN])),kA g.pm g.kg k.R,Ce tA (ln ++ [eN])]) .head (by rw [← Ri,show eN.1.tp=tg.tp by rw [heN]];exact .tail (.tail (.tail (.tail .head))))
 have hthx:eN.2.C.L.length≤eN.1.cC∧SR h eN.1.oC eN.2.C.L:=by rw [heN];exact ⟨hcx,hrx⟩
 replace hxi:onS (x0 T[i])=eN.2:=by rw [heN,hxi]
 refine rg<|qm o rfl λo=>qv o (Dx (r:=(((i+1):Nat):Int)) o rfl rfl rfl (by omega)) λo=>qa o rfl λo=>re<|tn<|?_
 exact ⟨(i+1,ln ++ [eN],oa,c),⟨o.hs,u,⟨by omega,by rw [kyp,hln,kyi hix,kyp,kyt,List.map_nil,← hxi];rfl,λe he=>by rcases kxi.1 he with q | q;exact hth e q;rw [kxo] at q;subst q;exact hthx⟩⟩,(by dsimp only;omega)⟩
 refine dI 16 rfl<|Wx (n:=y.Counts.toNat) o rfl u underlying28 Bs rfl (by rw [hC0];rfl) (by rw [hC0];rfl) (by omega) (by unfold maxLen;omega) λbz2 w a u o=>?_
 rw [Iy] at u
 refine ⟨λ_=>(u.ly [] rfl),?_⟩
 refine dz 10 rfl<|Wx (n:=y.Regs.toNat) o rfl u underlying28 Bs rfl (by rw [hR0];rfl) (by rw [hR0];rfl) (by omega) (by unfold maxLen;omega) λbz1 w a u o=>?_
 rw [Iy] at u
 refine ⟨λ_=>(u.ly [] rfl),?_⟩
 refine dq 17 (u.ly [] rfl) o rfl (λw hl=>bL [.agg #[i6 y.Regs,i6 y.Counts,SL oC y.L cC],PT bq,.slice (some ⟨bz1,0,none⟩) y.Regs.toNat y.Regs.toNat,.slice (some ⟨bz2,0,none⟩) y.Counts.toNat y.Counts.toNat] [i6 y.Regs,i6 y.Counts,SL oC y.L cC,i6 0,.slice (some ⟨bz1,0,none⟩) y.Regs.toNat y.Regs.toNat,.slice (some ⟨bz2,0,none⟩) y.Counts.toNat y.Counts.toNat,PT bq,i6 0] o) λo=>dz 18 rfl<|Bo (cs:=[i6 y.Regs,i6 y.Counts,SL oC y.L cC,i6 0,.slice (some ⟨bz1,0,none⟩) y.Regs.toNat y.Regs.toNat,.slice (some ⟨bz2,0,none⟩) y.Counts.toNat y.Counts.toNat,PT bq,i6 0].toArray) o rfl u rfl rfl λbt w a u o=>⟨λ_=>(u.ly [] rfl),?_⟩
 refine ds 19 (u.ly [] rfl) o rfl (Ca o rfl) λo=>dE<|tn<|?_
 replace u:=u.pk [0,0,0,0,0,0,0,0,0] rfl
 obtain ⟨tg,htg⟩:∃ q:TG,q=⟨bt,bq,oC,cC,some ⟨bz1,0,none⟩,y.Regs.toNat,some ⟨bz2,0,none⟩,y.Counts.toNat,oq,cq⟩:=⟨_,rfl⟩
 have hK:tK tg (x0 y)=[bk bt [i6 y.Regs,i6 y.Counts,SL oC y.L cC,i6 0,.slice (some ⟨bz1,0,none⟩) y.Regs.toNat y.Regs.toNat,.slice (some ⟨bz2,0,none⟩) y.Counts.toNat y.Counts.toNat,PT bq,i6 0] 107,sla 3 1 (some ⟨bz1,0,none⟩) y.Regs.toNat y.Regs.toNat (Bj (List.replicate y.Regs.toNat 0)),sla 3 1 (some ⟨bz2,0,none⟩) y.Counts.toNat y.Counts.toNat (Bj (List.replicate y.Counts.toNat 0))]:=by rw [htg];simp [tK,tCs,x0]
 replace u:=St.sep (tK tg (x0 y)) (by rw [hK];exact u)
 have htp:bt=tg.tp:=by rw [htg]
 have hcc:(x0 y).C.L.length≤tg.cC:=by rw [htg];exact hcC
 have hrr:SR h tg.oC (x0 y).C.L:=by rw [htg];exact hrC
 have htq:bq=tg.bp∧oq=tg.oQ∧cq=tg.cQ:=by rw [htg];exact ⟨rfl,rfl,rfl⟩
 clear htg hK;subst htp;obtain ⟨rfl,rfl,rfl⟩:=htq
 refine th<|rg<|qm o rfl λo=>ls<|c1 o rfl call71 (JcN (x:=x0 y) (u.hs _ t0) (u.ok _ t0) (λb hb=>(u.own _ t0 b hb).2 _ t0) hcc hrr hyT rfl) ⟨rfl,trivial⟩ (λv w a hR o=>?_)
 obtain ⟨o1,c1,o2,c2,o3,c3,rfl,hcx,hrx,hmut⟩:=hR
 replace u:=u.mut hmut .head
 clear hmut
 refine re<|tn<|rg<|qm o rfl λo=>qm o rfl λo=>qv o (Af o rfl) λo=>qf o Dy rfl λo=>qB o isAgg64 rfl u t2 rfl λo=>qm o rfl λo=>ls<|bw (e:=105) (sz:=1) [.pointer (some ⟨tg.tp,0,none⟩)] o u λbzp w u o=>ls<|apI o rfl u underlying64 Up rfl (by decide) rfl rfl t5 rfl (u.rdO t0) (λv hv=>by rw [kxo] at hv;subst hv;rfl) (by omega) (by unfold maxLen;omega) λoa c w a hU o=>?_
 replace u:=hU _ (.tail (.tail (.tail (.tail (.tail .head)))))
 refine qv o (Af o rfl) λo=>qf o Dy rfl λo=>ls<|Bl o u sizeOf64 rfl rfl rfl rfl (.tail (.tail (.tail .head))) (.succ (.succ (.succ (.succ (.succ (.succ (.succ (.succ (.succ (.succ (.succ (.succ (.succ .zero))))))))))))) λw u=>re<|bn<|tn<|?_
 have hqe:(onS (x0 y)).Q=[]:=(Iw hyT rfl).2.2
 replace u:=u.pk [1,1,1,1,1,1,1] rfl
 replace u:=St.thread2 (by exact hqe) u
 obtain ⟨eN,heN⟩:∃ q:TG×TS,q=(⟨tg.tp,tg.bp,o1,c1,o2,c2,o3,c3,tg.oQ,tg.cQ⟩,onS (x0 y)):=⟨_,rfl⟩
 rw [← heN] at u
 replace u:=u.bigPush (f:=tA) (L2:=[blk g.p (.cells (mCz ({ g with ol:=ol2,cl:=cl2,op:=oa,cp:=c }:MGh) k k.U.Locks.toNat (i+1)).toArray 66 (0,0)),sla 3 1 ol2 k.U.Locks.toNat cl2 (Bj (List.replicate k.U.Locks.toNat (-1))),sla 105 1 oa (i+1) c (En (ln ++ [eN])),kA g.pm g.kg k.R,Ce tA (ln ++ [eN])]) .head (by rw [← Ri,show eN.1.tp=tg.tp by rw [heN]];exact .tail (.tail (.tail (.tail .head))))
 have hthx:eN.2.C.L.length≤eN.1.cC∧SR h eN.1.oC eN.2.C.L:=by rw [heN];exact ⟨hcx,hrx⟩
 replace hxi:onS (x0 T[i])=eN.2:=by rw [heN,hxi]
 refine rg<|qm o rfl λo=>qv o (Dx (r:=(((i+1):Nat):Int)) o rfl rfl rfl (by omega)) λo=>qa o rfl λo=>re<|tn<|?_
 exact ⟨(i+1,ln ++ [eN],oa,c),⟨o.hs,u,⟨by omega,by rw [kyp,hln,kyi hix,kyp,kyt,List.map_nil,← hxi];rfl,λe he=>by rcases kxi.1 he with q | q;exact hth e q;rw [kxo] at q;subst q;exact hthx⟩⟩,(by dsimp only;omega)⟩
 replace hb:=kyd.1 (of_decide_eq_false hb)
 refine we<|tx<|tx<|bx<|?_
 have hie:i=T.length:=by omega
 rw [hie,kwr] at hln
 rw [← hni] at u
 replace u:=u.pk [0,0,0,0,0] rfl
 have hS2:St w0 (mA g k []).fp [h] (mL ({ g with ol:=ol2,cl:=cl2,op:=op2,cp:=cp2 }:MGh) ({ k with Lk:=List.replicate k.U.Locks.toNat (-1) }:KS) ln ++ []) w:=by unfold mL mCs;simp only [kzu];exact u
 replace u:=St.sep (mL ({ g with ol:=ol2,cl:=cl2,op:=op2,cp:=cp2 }:MGh) ({ k with Lk:=List.replicate k.U.Locks.toNat (-1) }:KS) ln) hS2
 exact r0n o rfl ⟨({ g with ol:=ol2,cl:=cl2,op:=op2,cp:=cp2 }:MGh),ln,rfl,hln,⟨hf.lc,hf.lr,hf.kf,hth⟩,rfl,rfl,St.endMut1 u⟩
end Go.LM.SWAPS
namespace Go.LM.SWAPS
open Go Go.LL Go.MD Go.LM Go.Proofs Go.MD.SWAPS Go.Proofs.Tryz
set_option maxRecDepth 100000
set_option maxHeartbeats 4000000
theorem Jho {w0:World} {h:PH} (hl:h.le w0) {un:api_Unit} {ug:UG} (hu:Enc.rep h (uCs ug un) un) (huf:UF h ug un) {N:Nat} (hR9:Z5p N un=some true) (hnew:Vw un.Lines un.Stays un.Firsts) (hL:un.Locks≤100) (hn:un.Threads.length≤100) {p4 p5 p6:Int} (hT:∀ c∈un.Threads,TOk p4 p5 p6 ((x0 c).th none)) (hTb:∀ c∈un.Threads,(0≤c.Regs∧c.Regs≤100)∧(0≤c.Counts∧c.Counts≤100)) :
 Tot Tryz.prog 7 #[.agg (uCs ug un).toArray,i6 2] w0 (λv w'=>∃ (H':PH) (g:MGh) (R:Rm) (l:List (TG×TS)),v=.tuple #[.pointer (some ⟨g.p,0,none⟩),i6 0]∧l.map (·.2)=un.Threads.map (λc=>onS (x0 c))∧Sim (Si un.Lines un.Stays un.Firsts) R∧R.W=[]∧MF H' g (⟨un,0,R,List.replicate un.Locks.toNat (-1),0,0⟩:KS) l∧g.u=ug∧Ext w0 h H'∧St w0 Nil [H'] [mA g (⟨un,0,R,List.replicate un.Locks.toNat (-1),0,0⟩:KS) l] w'):=by
 refine fn0 func7 rfl ntmps7 rfl rfl λa o=>?_
 have u:St w0 Nil [h] [] w0:=start1 hl
 refine th<|rg<|ls<|Bo (cs:=(uCs ug un).toArray) o rfl u rfl rfl λbu w a u o=>?_
 iterate 2 refine qa o rfl λo=>?_
 refine re<|tn<|th<|th<|rg<|qv o (An o Tryz.isAgg36 Tryz.sizeOf36 rfl rfl (u.ld.cellsB t0)) λo=>ls<|cq o call31 (Jhe (u.hs _ t0) hu hR9) ⟨rfl,trivial⟩ u λw a u o=>qv o (Bi o rfl) λo=>re<|tn<|cf o rfl<|wk<|tn<|th<|rg<|qm o rfl λo=>ls<|c1 o rfl call32 (Jc4 (u.hs _ t0)) ⟨rfl,trivial⟩ (λv w a hR o=>?_)
 obtain ⟨bq,oq,cq,rfl,hfr⟩:=hR
 replace u:=(u.fresh hfr).drop .head
 clear hfr
 refine qm o rfl λo=>?_
 iterate 2 refine qv o (Dt o rfl rfl) λo=>?_
 iterate 2 refine qa o rfl λo=>?_
 refine re<|tn<|th<|th<|rg<|qm o rfl λo=>qv o (Bg o rfl rfl) λo=>re<|tn<|cf o rfl<|wk<|tn<|th<|rg<|qf o Et rfl λo=>qB o isAgg28 rfl u t0 rfl λo=>qf o Iq rfl λo=>qB o isAgg3 rfl u t0 rfl λo=>qf o Rf rfl λo=>qB o isAgg28 rfl u t0 rfl λo=>ls<|c1 o rfl call33 (JgI (u.hs _ t0) huf.c0 huf.r0 huf.c2 huf.r2 hnew) ⟨rfl,rfl,rfl,trivial⟩ (λv w a hR o=>?_)
 obtain ⟨pm,kg,kR,rfl,hsim,hW0,hfr⟩:=hR
 replace u:=St.unsep2 (u.fresh hfr)
 clear hfr
 obtain ⟨H2,hO,hx2,u⟩:=Go.LM.St.frz u .head
 have hkf:=Jgi hO
 replace hx2:=hx2.lift (w0:=w0) (kxb _)
 have huf:=huf.mono hx2.sub
 clear hO
 refine qm o rfl λo=>?_
 iterate 2 refine qv o (Dt o rfl rfl) λo=>?_
 iterate 2 refine qa o rfl λo=>?_
 refine re<|tn<|th<|rg<|qv o (An o Tryz.isAgg36 Tryz.sizeOf36 rfl rfl (u.ld.cellsB t1)) λo=>?_
 iterate 2 refine qm o rfl λo=>?_
 refine qv o (bL [.agg (uCs ug un).toArray,i6 2,PT pm] (mCs (⟨0,pm,kg,none,0,none,0,ug⟩:MGh) (⟨un,0,kR,[],0,0⟩:KS) 0) o) λo=>ls<|Bo (cs:=(mCs (⟨0,pm,kg,none,0,none,0,ug⟩:MGh) (⟨un,0,kR,[],0,0⟩:KS) 0).toArray) o rfl u rfl rfl λbm w a u o=>qa o rfl λo=>re<|tn<|?_
 replace u:=St.nilS (St.nilS (u.nilBig tA) 105 1) 3 1
 replace u:=u.pk [3,0,0,1,0,0] rfl
 replace u:=St.sep (L:=[blk bu (.cells (uCs ug un).toArray 36 (0,0))]) (mL (⟨bm,pm,kg,none,0,none,0,ug⟩:MGh) (⟨un,0,kR,[],0,0⟩:KS) []) u
 refine th<|rg<|qm o rfl λo=>qf o Mx rfl λo=>qB o isAgg30 rfl u t1 rfl λo=>ls<|c1 o rfl call34 (JdA (u.hs _ t0) (u.ok _ t0) (λb hb=>(u.own _ t0 b hb).2 _ t0) (k:=(⟨un,0,kR,[],0,0⟩:KS)) ⟨huf.c0,huf.r0,hkf,λe he=>nomatch he⟩ hL huf.r4 hn hT hTb) ⟨rfl,rfl,trivial⟩ (λv w a hR o=>?_)
 obtain ⟨g2,l2,rfl,hl2,hf2,hg1,hg2,hmut⟩:=hR
 replace u:=u.mut hmut .head
 clear hmut
 refine re<|tn<|th<|rg<|qm o rfl λo=>?_
 iterate 2 refine qa o rfl λo=>?_
 refine re<|tn<|wr<|?_
 have hgp:g2.p=bm:=hg1
 subst hgp
 exact r2 o results7 rfl rfl ⟨H2,g2,kR,l2,rfl,hl2,hsim,hW0,hf2,hg2,hx2,u.pk [0] rfl⟩
end Go.LM.SWAPS
namespace Go.LM.SWAPS
open Go Go.LL Go.MD Go.LM Go.Proofs Go.MD.SWAPS Go.Proofs.Tryz
set_option maxRecDepth 100000
set_option maxHeartbeats 4000000
theorem JdP {w0:World} {p:Nat} {g:KG} {k:Rm} (ho:(kA p g k).ok (hp w0)) (hf:KF (hp w0) g k) {m:MS} (hi:MInv m) (hs:Sim m k) :
 Tot Tryz.prog 48 #[PT p] w0 (λv w'=>v=i6 (nlines m:Int)∧Keep Nil w0 w'):=by
 refine fn0 func48 rfl ntmps48 rfl rfl λa o=>?_
 have u:St w0 Nil [hp w0] [] w0:=.start (by simp [Ag])
 refine th<|rg<|qa o rfl λo=>re<|tn<|?_
 have hof:k.Of.length=m.of.length:=by rw [hs.of]
 have h20:m.of.length≤20:=by have:=hi.len3;have:=hi.len4;omega
 refine th<|th<|rg<|qm o rfl λo=>qv o (Af o rfl) λo=>qf o Jt rfl λo=>qv o (Ap o isAgg28 rfl (u.ld.cellH t0 (kcR ho rfl))) λo=>qv o (Cn o Bn rfl) λo=>qv o (Ah o rfl rfl) λo=>re<|tn<|cs o rfl (λhb=>?_) (λhb=>?_)
 replace hb:=of_decide_eq_true hb
 refine th<|rg<|qa o rfl λo=>re<|tn<|wr<|tr<|?_
 have hz:nlines m=0:=by unfold nlines;rw [kza (show m.of.length=0 by omega)];rfl
 exact r1 o results48 rfl ⟨by rw [hz];rfl,u.keep⟩
 replace hb:=of_decide_eq_false hb
 refine wk<|tn<|?_
 have hpos:0 < m.of.length:=by omega
 have hlast:=hi.last hpos
 obtain ⟨j,hj⟩:∃ j,k.Of.length=j+1:=⟨k.Of.length - 1,by omega⟩
 have hjj:((k.Of.length:Nat):Int) - 1=(j:Int):=by omega
 have hix:j < k.Of.length:=by omega
 have hval:k.Of[j]'hix+1=(nlines m:Int):=by have e:k.Of[j]'hix=m.of[m.of.length - 1]'(by omega):=(by simp only [hs.of,show m.of.length - 1=j by omega]);rw [hlast,e]
 have hnl:=hi.nl
 refine th<|rxS 14 u wide (by kernel_rfl) λw u=>xm u o rfl λo=>xr u o (Af o rfl) λo=>xr u o (Ad o Jt rfl) λo=>xq u.ld o (λw hl=>Ap o isAgg28 rfl (hl.cellH t0 (kcR ho rfl))) λo=>xm u o rfl λo=>xr u o (Af o rfl) λo=>xr u o (Ad o Jt rfl) λo=>xq u.ld o (λw hl=>Ap o isAgg28 rfl (hl.cellH t0 (kcR ho rfl))) λo=>xr u o (Cn o Bn rfl) λo=>xr u o (As (JeT (r:=(((k.Of.length:Nat):Int) - 1)) o rfl rfl rfl (by omega)) (congrArg (Value.int .i64) hjj)) λo=>xr u o (Es o Bn sizeOf3 rfl rfl rfl (by omega) ((Tl hf.ro).some (Dl (l:=k.Of) (by omega)))) λo=>xq u.ld o (λw hl=>Ap o isAgg3 rfl (hl.elH t0 (Tl hf.ro) (Eu (l:=k.Of) (k:=j) (by omega)))) λo=>xr u o (As (Dx (r:=k.Of[j]+1) o rfl rfl rfl (by omega)) (congrArg (Value.int .i64) hval)) λo=>xr u o (Ca o rfl) λo=>xe<|tn<|wr<|?_
 exact r1 o results48 rfl ⟨rfl,u.keep⟩
theorem lines_rw {w0 w:World} {p:Nat} {g:KG} {k:Rm} (ho:(kA p g k).ok (hp w0)) (hf:KF (hp w0) g k) {m:MS} (hi:MInv m) (hs:Sim m k) (hl:(hp w0).le w):Tot Tryz.prog 48 #[.pointer (some ⟨p,0,none⟩)] w (fun v w'=>v=.int .i64 (nlines m:Int)∧Keep Nil w w'):=
  JdP ((kA p g k).loc _ _ (fun b hb=>by
    have hne:=(kA p g k).dom _ b ho hb
    cases hq:hp w0 b with
    | none=>exact absurd hq hne
    | some o=>exact hl b o hq) ho) (hf.mono fun b o h=>hl b o h) hi hs
theorem Jf7 {w0:World} {p:Nat} {g:KG} {k:Rm} (ho:(kA p g k).ok (hp w0)) (hf:KF (hp w0) g k) {m:MS} (hi:MInv m) (hs:Sim m k) (hw:k.W.length≤1000) :
 Tot Tryz.prog 15 #[PT p] w0 (λv w'=>∃ oa c,v=.slice oa (nlines m) c∧Fresh w0 (sla 3 1 oa (nlines m) c (Bj (Me m (nlines m)))) w'):=by
 refine fn0 func15 rfl ntmps15 rfl rfl λa o=>?_
 have u:St w0 Nil [hp w0] [] w0:=.start (by simp [Ag])
 refine th<|rg<|qa o rfl λo=>re<|tn<|?_
 have hnl:=hi.nl
 refine th<|rg<|qm o rfl λo=>ls<|cq o call48 ((Go.LM.SWAPS.lines_rw ho hf hi hs (u.hs _ t0))) ⟨rfl,trivial⟩ u λw a u o=>ls<|Wx (n:=nlines m) o rfl u underlying28 Bs rfl rfl rfl (by omega) (by unfold maxLen;omega) λbo w a u o=>?_
 rw [Iy,JeJ m k] at u
 refine qa o rfl λo=>re<|tn<|th<|th<|rg<|qa o rfl λo=>re<|tn<|wb<|lp (α:=Nat) (λgh a w=>match gh with | i=>Fr 35 [(0,PT p),(3,.slice (some ⟨bo,0,none⟩) (nlines m) (nlines m)),(4,i6 ((i:Nat):Int))] a∧St w0 Nil [hp w0] [sla 3 1 (some ⟨bo,0,none⟩) (nlines m) (nlines m) (Bj (Ih m k i))] w∧(i≤k.W.length)) (λ(gh:Nat)=>match gh with | i=>k.W.length - i) 0 ⟨o.hs,u,(kxt _)⟩ ?_
 rintro i a w ⟨o,u,hin⟩
 refine th<|th<|rg<|qm o rfl λo=>qm o rfl λo=>qv o (Af o rfl) λo=>qf o Gh rfl λo=>qv o (Ap o isAgg60 rfl (u.ld.cellH t0 (kcR ho rfl))) λo=>qv o (Cn o Jat rfl) λo=>qv o (Am o rfl rfl) λo=>re<|tn<|cs o rfl (λhb=>?_) (λhb=>?_)
 replace hb:=of_decide_eq_true hb
 refine wk<|tn<|?_
 have hix:i < k.W.length:=by omega
 have hq0:=JdJ hi hs (kxj hix)
 obtain ⟨q,hql⟩:∃ q:Nat,(k.W[i]).Line=(q:Int):=⟨(k.W[i]).Line.toNat,by omega⟩
 have hqn:q < nlines m:=by omega
 have hbd:=Jeo (m:=m) (k:=k) (i:=i) hw (q:=q) (by rw [Qw];exact hqn)
 have hcl:=Qw m k i
 refine th<|wb<|th<|rg<|qm o rfl λo=>qv o (Af o rfl) λo=>qf o Gh rfl λo=>qv o (Ap o isAgg60 rfl (u.ld.cellH t0 (kcR ho rfl))) λo=>qm o rfl λo=>qv o (Es o Jat sizeOf123 rfl rfl rfl (by omega) ((JgD ho).some (Jc7 (l:=k.W) (by omega)))) λo=>qf o JaD rfl λo=>qv o (Ap o isAgg3 rfl (u.ld.elH2 t0 (JgD ho) (Yg (l:=k.W) (k:=i) (by omega)))) λo=>qa o rfl λo=>re<|tn<|?_
 rw [hql] at o
 refine rg<|qm o rfl λo=>?_
 iterate 3 refine qm o rfl λo=>?_
 refine qv o (Es o Bn sizeOf3 rfl rfl rfl (by omega) ((u.ld.rdO t0).some (Dl (l:=(Ih m k i)) (by omega)))) λo=>qv o (Ap o isAgg3 rfl (u.ld.elO t0 (Eu (l:=(Ih m k i)) (k:=q) (by omega)))) λo=>qv o (Dx o rfl rfl rfl (by omega)) λo=>qv o (Es o Bn sizeOf3 rfl rfl rfl (by omega) ((u.ld.rdO t0).some (Dl (l:=(Ih m k i)) (by omega)))) λo=>ls<|Jf6 o u sizeOf3 rfl rfl rfl rfl .head (by simp only [Ev,kxr];omega) λw u=>?_
 rw [Ra] at u
 refine re<|bn<|tn<|rg<|qm o rfl λo=>qv o (Dx (r:=(((i+1):Nat):Int)) o rfl rfl rfl (by omega)) λo=>qa o rfl λo=>re<|tn<|?_
 rw [JbM hix hql (by rw [Qw];exact hqn)] at u
 exact ⟨i+1,⟨o.hs,u,(by omega)⟩,(by dsimp only;omega)⟩
 replace hb:=kyd.1 (of_decide_eq_false hb)
 refine we<|tx<|tx<|bx<|tn<|th<|rg<|qm o rfl λo=>qa o rfl λo=>re<|tn<|wr<|?_
 rw [Jc0 hs (by omega)] at u
 exact r1 o results15 rfl ⟨_,_,rfl,u.endFresh t0⟩
end Go.LM.SWAPS
namespace Go.MD.SWAPS
open Go Go.MD Go.LL
theorem Jdm {N:Nat} {p:List Int} (hp:p.length≤1000):∀ (d j n:Nat),j+d=p.length→d < n→Z3k N Z3j p p n (j:Int)=some true:=by
  intro d
  induction d with
  | zero =>
    intro j n hj hn
    obtain ⟨n,rfl⟩:∃ q,n=q+1:=⟨n - 1,by omega⟩
    rw [Z3k,if_neg (by omega)];rfl
  | succ d ih =>
    intro j n hj hn
    obtain ⟨n,rfl⟩:∃ q,n=q+1:=⟨n - 1,by omega⟩
    have h1:j < p.length:=by omega
    rw [Z3k,if_pos (by omega),Al rfl h1]
    simp only [kxa]
    rw [if_neg (fun q=>q rfl),Bf h1 (by omega)]
    exact ih (j+1) n (by omega) (by omega)
theorem Te {N:Nat} {p q:List Int} (e:p=q) (hp:p.length≤1000) (hN:1000 < N):Z3i N p q=some true:=by
  subst e
  unfold Z3i
  rw [if_neg (fun q=>q rfl)]
  exact Jdm hp p.length 0 N (by omega) (by omega)
theorem JcH {N:Nat} {p:List api_Pick} (hN:1000 < N) (hp:p.length≤1000) (hc:∀ x∈p,x.Cut=[]):∀ (d j n:Nat),j+d=p.length→d < n→Z7o N Z7m p p n (j:Int)=some true:=by
  intro d
  induction d with
  | zero =>
    intro j n hj hn
    obtain ⟨n,rfl⟩:∃ q,n=q+1:=⟨n - 1,by omega⟩
    rw [Z7o,if_neg (by omega)];rfl
  | succ d ih =>
    intro j n hj hn
    obtain ⟨n,rfl⟩:∃ q,n=q+1:=⟨n - 1,by omega⟩
    have h1:j < p.length:=by omega
    rw [Z7o,if_pos (by omega),Al rfl h1]
    simp only [kxa]
    rw [if_neg (fun q=>q rfl),if_neg (fun q=>q rfl),if_neg (fun q=>q rfl),Te (N:=N) rfl (by rw [hc _ (kxj h1)];exact kxt _) hN]
    simp only [kxa,kyl]
    rw [Z7n,if_neg (by decide),Bf h1 (by omega)]
    exact ih (j+1) n (by omega) (by omega)
theorem Yl {N:Nat} {p:List api_Pick} (hN:1000 < N) (hp:p.length≤1000) (hc:∀ x∈p,x.Cut=[]):Z7l N p p=some true:=by
  unfold Z7l
  rw [if_neg (fun q=>q rfl)]
  exact JcH hN hp hc p.length 0 N (by omega) (by omega)
theorem Yf {s:PSt}:∀ x∈Dd s,x.Cut=[]:=fun x hx=>by
  obtain ⟨_,i,y,kd,n,_,rfl,_⟩:=Ig hx
  rfl
theorem Jam {u:api_Unit} {s:PSt} (h:OKP u s):(Dd s).length≤300:=by
  have:=Qx (lk:=s.lk) (ft:=s.ft) (xs:=s.xs) fun x hx=>(h.xok x hx).q
  have:=h.n
  unfold Dd
  omega
end Go.MD.SWAPS
namespace Go.LM.SWAPS
open Go Go.LL Go.MD Go.LM Go.Proofs Go.MD.SWAPS
structure GM (h:PH) (g:MGh) (k:KS) (l:List (TG×TS)) (u:api_Unit) (s:PSt) (c:Nat):Prop where
  mf:MF h g k l
  hu:k.U=u
  sim:Sim s.m k.R
  wl:k.R.W.length≤c
  lk:k.Lk=s.lk
  ft:k.Fault=s.ft
  fy:k.Faulty=s.fy
  cr:k.Crashed=0
  xs:l.map (·.2)=s.xs
  ok:OKP u s
theorem GM.setl {h:PH} {g g2:MGh} {k:KS} {l l2:List (TG×TS)} {u:api_Unit} {s:PSt} {c:Nat} (G:GM h g k l u s c) (hl:l2.map (·.2)=s.xs) (hf:MF h g2 k l2):GM h g2 k l2 u s c:=⟨hf,G.hu,G.sim,G.wl,G.lk,G.ft,G.fy,G.cr,hl,G.ok⟩
section
variable {w0:World} {h:PH} (hl:h.le w0) {g:MGh} {k:KS} {l:List (TG×TS)} (ho:(mA g k l).ok (hp w0)) (hd:∀ b,(mA g k l).fp b→h b=none) {u:api_Unit} {s:PSt} {c:Nat} (G:GM h g k l u s c)
include hl ho hd G
theorem Py:Tot Tryz.prog 8 #[.pointer (some ⟨g.p,0,none⟩)] w0 (fun v w'=>∃ l2 oa cc,v=.slice oa (Dd s).length cc∧GM h g k l2 u s c∧Mut w0 (mA g k l) (sepA [mA g k l2,sla 52 4 oa (Dd s).length cc (Cw (Dd s))]) w'):=by
  have e:Er k.Lk k.Fault s.xs=Dd s:=by unfold Dd;rw [G.lk,G.ft]
  refine (Ue hl ho hd G.mf G.xs (fun x hx=>by rw [G.lk];exact (G.ok.xok x hx).tw) G.ok.n).mono fun v w' hR=>?_
  obtain ⟨l2,oa,cc,rfl,hl2,hf2,hm⟩:=hR
  rw [e] at hm ⊢
  exact ⟨l2,oa,cc,rfl,G.setl hl2 hf2,hm⟩
theorem JcP (hc:c≤900) {p:api_Pick} (hp:p∈Dd s):Tot Tryz.prog 9 #[.pointer (some ⟨g.p,0,none⟩),.agg (Ib p).toArray] w0 (fun v w'=>∃ g2 k2 l2,v=.tuple #[.agg (evC (evP u.Lines s p)).toArray,.int .i64 0]∧g2.p=g.p∧GM h g2 k2 l2 u (Gq u.Lines s p) (c+1)∧Mut w0 (mA g k l) (mA g2 k2 l2) w'):=by
  obtain ⟨hft,i,x,kd,n,hx,rfl,hk⟩:=Ig hp
  have few:∀ q,(s.m.pend q).length < 1000000:=fun q=>by
    rw [G.sim.pend]
    have:=JaM k.R.W q;have:=G.wl
    omega
  have hw:k.R.W.length≤1000:=by have:=G.wl;omega
  refine (Jht (kd:=kd) (n:=n) hl ho hd G.mf G.xs G.ok.n G.ok.inv G.sim hw (by rw [G.hu];exact G.ok.len) (fun y hy=>by rw [G.hu,G.lk];exact G.ok.xok y hy) hx (by rw [G.lk,G.ft];exact hp) (by rw [G.lk];exact hk)).mono fun v w' hR=>?_
  obtain ⟨g2,k2,l2,rfl,a,hm⟩:=hR
  rw [G.hu,G.lk,G.ft,G.fy] at a ⊢
  refine ⟨g2,k2,l2,by rw [Sb hx],a.p,?_,hm⟩
  have ok:=G.ok.next few hp
  rw [Gs hx] at ok ⊢
  exact ⟨a.mf,a.u.trans G.hu,a.sim,by have:=a.wl;have:=G.wl;omega,a.lk,a.ft,a.fy,a.cr.trans G.cr,by rw [a.l,G.xs],ok⟩
theorem Vn:Tot Tryz.prog 13 #[.pointer (some ⟨g.p,0,none⟩)] w0 (fun v w'=>v=.agg #[.int .i64 0,.int .i64 s.ft,.int .i64 s.fy,.bool (stD s.ft s.xs),.bool (stK s.lk s.ft s.xs)]∧∃ l2,GM h g k l2 u s c∧Mut w0 (mA g k l) (mA g k l2) w'):=by
  refine (Jcl hl ho hd G.mf G.xs (fun x hx=>by rw [G.lk];exact (G.ok.xok x hx).tw) G.ok.n).mono fun v w' hR=>?_
  obtain ⟨rfl,l2,hl2,hf2,hm⟩:=hR
  rw [G.cr,G.ft,G.fy,G.lk]
  exact ⟨rfl,l2,G.setl hl2 hf2,hm⟩
theorem Jfo (hc:c≤900):Tot Tryz.prog 10 #[.pointer (some ⟨g.p,0,none⟩)] w0 (fun v w'=>∃ g1 l1 g2 l2,v=.pointer (some ⟨g2.p,0,none⟩)∧g1.p=g.p∧GM h g1 k l1 u s c∧GM h g2 k l2 u s c∧Mut w0 (mA g k l) (sepA [mA g1 k l1,mA g2 k l2]) w'):=by
  refine (Jft hl ho hd G.mf G.xs G.ok.n (fun x hx=>?_) G.ok.inv G.sim (by have:=G.wl;omega) (by rw [G.lk];exact G.ok.lkn)).mono fun v w' hR=>?_
  · have hx2 := G.ok.xok x hx
    obtain ⟨r1,r2⟩:=Oj (c:=x.C) hx2.tok.code
    have h1:((x.Regs.length:Nat):Int)=x.C.Regs:=hx2.tok.regs
    have h2:((x.Counts.length:Nat):Int)=x.C.Counts:=hx2.tok.cnts
    exact ⟨hx2.q,by omega,by omega⟩
  obtain ⟨kg,l1,g2,l2,rfl,h1,f1,h2,f2,hm⟩:=hR
  exact ⟨{ g with kg:=kg },l1,g2,l2,rfl,rfl,G.setl h1 f1,G.setl h2 f2,hm⟩
omit hl hd in
theorem JbX (hle:h.le w0) (hc:c≤900):Tot Tryz.prog 15 #[.pointer (some ⟨g.pm,0,none⟩)] w0 (fun v w'=>∃ oa cc,v=.slice oa (Me s.m (nlines s.m)).length cc∧Fresh w0 (sla 3 1 oa (Me s.m (nlines s.m)).length cc (Bj (Me s.m (nlines s.m)))) w'):=by
  rw [Tp]
  exact Jf7 (mok ho (kA g.pm g.kg k.R) (.tail _ (.tail _ (.tail _ (.head _))))) (G.mf.kf.mono fun b o e=>hle b o e) G.ok.inv G.sim (by have:=G.wl;omega)
end
def Cl (w:World) (g:MGh) (k:KS):Prop:=w.cell? ⟨g.p,11,none⟩=some (.pointer (some ⟨g.pm,0,none⟩))∧w.cell? ⟨g.pm,2,none⟩=some (.slice g.kg.lo k.R.L.length g.kg.cl)∧w.cell? ⟨g.pm,3,none⟩=some (.slice g.kg.ko k.R.K.length g.kg.ck)
theorem Cl.of {w:World} {g:MGh} {k:KS} {l:List (TG×TS)} (ho:(mA g k l).ok (hp w)):Cl w g k:=
  ⟨Ai w _ ▸ Aw ho rfl,Ai w _ ▸ Yk ho,Ai w _ ▸ Ii ((Bz.1 (mok ho (kA g.pm g.kg k.R) (.tail _ (.tail _ (.tail _ (.head _)))))).1 (blk g.pm _) (.head _)) rfl⟩
theorem Ot {h:PH}:∀ {xs:List api_Pick},(∀ x∈xs,x.Cut=[])→Rows h (Cw xs) xs
  | [],_=>.nil
  | x :: r, hc => by
    obtain ⟨a,b,c,d⟩:=x
    have:d=[]:=hc _ (.head _)
    subst this
    refine .cons (c:=Ib ⟨a,b,c,[]⟩) ⟨[.int .i64 a],_,rfl,rfl,[.int .i64 b],_,rfl,rfl,[.int .i64 c],_,rfl,rfl,none,0,rfl,kxb _,[],?_,.nil⟩ (Ot fun y hy=>hc y (.tail _ hy))
    exact ⟨fun h=>absurd rfl h,fun j v hj=>by simp at hj⟩
theorem JdS {w:World} {oa ob:Option Addr} {c d:Nat} {L:List HA} {w0:World} {M:Nat→Prop} {Hs:List PH} {P:List api_Pick} (hS:St w0 M Hs L w) (h1:sla 52 4 oa P.length c (Cw P)∈L) (h2:sla 52 4 ob P.length d (Cw P)∈L) (hc:∀ x∈P,x.Cut=[]) (hn:P.length≤1000) :
    Tot Tryz.prog 12 #[.slice oa P.length c,.slice ob P.length d] w (fun v w'=>v=.bool true∧Keep Nil w w'):=
  JgK (N:=2000) (H:=hp w) (Ag w) (SlOk.cap (hS.ok _ h1)) ⟨_,SlOk.rd (hS.ok _ h1),Ot hc⟩ (SlOk.cap (hS.ok _ h2)) ⟨_,SlOk.rd (hS.ok _ h2),Ot hc⟩ (Yl (by decide) hn hc)
theorem Jae {w:World} {oa ob:Option Addr} {c d:Nat} {p q:List Int} (c1:p.length≤c) (h1:Rd (hp w) oa (Bj p)) (c2:q.length≤d) (h2:Rd (hp w) ob (Bj q)) (e:p=q) (hn:p.length≤1000) :
    Tot Tryz.prog 14 #[.slice oa p.length c,.slice ob q.length d] w (fun v w'=>v=.bool true∧Keep Nil w w'):=
  Jew (N:=2000) (H:=hp w) (Ag w) c1 (Ps h1) c2 (Ps h2) (Te e hn (by decide))
section
variable {w0 w:World} {M:Nat→Prop} {Hs:List PH} {L:List HA} {g g':MGh} {k k':KS} {l l':List (TG×TS)} {h h':PH} {u:api_Unit} {s:PSt} {c c':Nat}
theorem JfX (ho:(mA g k l).ok (hp w)):k.R.L.length≤g.kg.cl:=SlOk.cap ((Bz.1 (mok ho (kA g.pm g.kg k.R) (.tail _ (.tail _ (.tail _ (.head _)))))).1 (sla 3 1 g.kg.lo k.R.L.length g.kg.cl (Bj k.R.L)) (.tail _ (.head _)))
theorem Jg8 (ho:(mA g k l).ok (hp w)):k.R.K.length≤g.kg.ck:=SlOk.cap ((Bz.1 (mok ho (kA g.pm g.kg k.R) (.tail _ (.tail _ (.tail _ (.head _)))))).1 (sla 3 1 g.kg.ko k.R.K.length g.kg.ck (Bj k.R.K)) (.tail _ (.tail _ (.head _))))
theorem eqL (ho:(mA g k l).ok (hp w)) (ho':(mA g' k' l').ok (hp w)) (G:GM h g k l u s c) (G':GM h' g' k' l' u s c'):Tot Tryz.prog 14 #[.slice g.kg.lo k.R.L.length g.kg.cl,.slice g'.kg.lo k'.R.L.length g'.kg.cl] w (fun v w'=>v=.bool true∧Keep Nil w w'):=
  Jae (JfX ho) (JbG ho) (JfX ho') (JbG ho') (G.sim.l.trans G'.sim.l.symm) (by rw [G.sim.l];have:=G.ok.inv.len2;have:=G.ok.inv.len4;omega)
theorem eqK (ho:(mA g k l).ok (hp w)) (ho':(mA g' k' l').ok (hp w)) (G:GM h g k l u s c) (G':GM h' g' k' l' u s c'):Tot Tryz.prog 14 #[.slice g.kg.ko k.R.K.length g.kg.ck,.slice g'.kg.ko k'.R.K.length g'.kg.ck] w (fun v w'=>v=.bool true∧Keep Nil w w'):=
  Jae (Jg8 ho) (JgR ho) (Jg8 ho') (JgR ho') (G.sim.kept.trans G'.sim.kept.symm) (by rw [G.sim.kept];have:=G.ok.inv.len1;have:=G.ok.inv.len3;have:=G.ok.inv.len4;omega)
theorem eqP (hS:St w0 M Hs L w) {oa ob:Option Addr} {d e:Nat} {P:List Int} (h1:sla 3 1 oa P.length d (Bj P)∈L) (h2:sla 3 1 ob P.length e (Bj P)∈L) (hn:P.length≤1000):Tot Tryz.prog 14 #[.slice oa P.length d,.slice ob P.length e] w (fun v w'=>v=.bool true∧Keep Nil w w'):=
  Jae (SlOk.cap (hS.ok _ h1)) (SlOk.rd (hS.ok _ h1)) (SlOk.cap (hS.ok _ h2)) (SlOk.rd (hS.ok _ h2)) rfl hn
end
end Go.LM.SWAPS
