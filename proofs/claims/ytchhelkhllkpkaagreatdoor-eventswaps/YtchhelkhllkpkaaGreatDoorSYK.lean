/- A walk: the law EventSwaps answers true. No condition beyond the theorem's own premises. -/
import Derived.Test.YtchhelkhllkpkaaGreatDoorSYB
import Derived.Test.YtchhelkhllkpkaaGreatDoorSWQ5
set_option linter.unusedSectionVars false
namespace Go.LM.SWAPS
open Go Go.LL Go.MD Go.LM Go.Proofs Go.MD.SWAPS Go.MD.SWAPS.R Go.Proofs.Tryz
set_option maxRecDepth 100000
set_option maxHeartbeats 4000000
def S25 (h3:PH) (ea eb ec ed:Nat) (va vb:api_Event) (g5:MGh) (k5:KS) (g6:MGh) (k6:KS) (w:World):Prop:=Lds [h3] [blk ea (.cells (evC va).toArray 48 (0,0)),blk eb (.cells (evC vb).toArray 48 (0,0)),blk ec (.cells (evC vb).toArray 48 (0,0)),blk ed (.cells (evC va).toArray 48 (0,0))] w∧(Cl w g5 k5∧Cl w g6 k6)
theorem Jhl {w0:World} {h:PH} (hl:h.le w0) (hT:Tab h) {vs0:List Value} {p1:api_Prog} (g3:Enc.rep h vs0 p1) (hcs:vs0.length=6) {oh:Option Addr} {ch:Nat} {how:List Int} (hch:how.length≤ch) (hrh:SR h oh how) (tz0 tz1:Int) :
 Tot Tryz.prog 3 #[.agg vs0.toArray,SL oh how ch,.agg #[i6 tz0,i6 tz1]] w0 (λv w'=>v=.bool true∧Keep Nil w0 w'):=by
 obtain ⟨p,hp1,hsm⟩:=Jhw p1
 obtain ⟨un,e,hu1,hu2⟩:=JbA hsm
 refine fn0 func3 rfl ntmps3 rfl rfl λa o=>?_
 have u:St w0 Nil [h] [] w0:=start1 hl
 refine th<|rg<|ls<|Bo (cs:=vs0.toArray) o rfl u rfl rfl λbp w a u o=>ls<|Bo (cs:=[i6 tz0,i6 tz1].toArray) o rfl u rfl rfl λb2 w a u o=>qa o rfl λo=>re<|tn<|th<|rg<|qv o (An (vs:=vs0) o Tryz.isAgg27 Tryz.sizeOf27 rfl hcs (u.ld.cellsB t1)) λo=>ls<|c1 o rfl call5 (Jh0 (u.hs _ t0) g3 hp1) ⟨rfl,trivial⟩ (λv w a hR o=>?_)
 obtain ⟨h1,cs1,rfl,hr1,hx1,hle1,hk1⟩:=hR
 replace u:=Go.LM.St.passH u hk1 hx1 hle1
 replace hT:=hT.mono hx1.sub
 replace hrh:=hrh.mono hx1.sub
 clear hk1 hle1 hx1
 refine ls<|c1 o rfl call4 (Jhb (u.hs _ t0) hr1 hu1) ⟨rfl,trivial⟩ (λv w a hR o=>?_)
 obtain ⟨h2,cs2,rfl,hr2,hx2,hle2,hk2⟩:=hR
 replace u:=Go.LM.St.passH u hk2 hx2 hle2
 replace hT:=hT.mono hx2.sub
 replace hrh:=hrh.mono hx2.sub
 clear hk2 hle2 hx2
 replace hr2:Enc.rep h2 cs2 un:=hr2
 obtain ⟨ug,rfl,huf⟩:=JbE hr2
 refine qm o rfl λo=>?_
 iterate 2 refine qv o (Dt o rfl rfl) λo=>?_
 refine ls<|Aq o rfl u zeroValue36 rfl λbu w a u o=>ls<|Ar o u sizeOf36 rfl rfl rfl rfl (Ak rfl) .head λw u=>qa o rfl λo=>re<|tn<|th<|th<|rg<|qm o rfl λo=>qv o (Bg o rfl rfl) λo=>re<|tn<|cs o rfl (λhb=>?_) (λhb=>?_)
 replace hb:=of_decide_eq_true hb
 refine th<|rg<|ls<|c1 o rfl call6 (Ty (u.hs _ t0) hT (E.fixed_eq (N:=30) (kxb _))) trivial (λv w a hR o=>?_)
 obtain ⟨rfl,hk⟩:=hR
 replace u:=u.pass hk
 refine qa o rfl λo=>re<|tn<|wr<|tr<|?_
 exact r1 o results3 rfl ⟨rfl,u.keep⟩
 replace hb:=kzc.1 (of_decide_eq_false hb)
 refine wk<|tn<|?_
 obtain ⟨hub,hsm2,hone⟩:=hu2 hb
 have hok:=JbQ hub hone
 have hR9:=Jbo (N:=1000001) (by decide) hsm2
 rw [hub] at hR9
 refine th<|rg<|qv o (An o Tryz.isAgg36 Tryz.sizeOf36 rfl rfl (u.ld.cellsB t0)) λo=>ls<|c1 o rfl call7 (Jho (u.hs _ t0) hr2 huf hR9 hok.new (by have:=hok.locks;omega) (by have:=hok.n;omega) (λc hc=>Jdb hok hc) (λc hc=>by have:=Oj (hok.code c hc);omega)) ⟨rfl,rfl,trivial⟩ (λv w a hR o=>?_)
 obtain ⟨h3,g0,kR,l0,rfl,hl0,hsim0,hW0,hf0,hgu,hx3,hS0⟩:=hR
 replace u:=St.joinH u hx3 hS0
 replace hT:=hT.mono hx3.sub
 replace hrh:=hrh.mono hx3.sub
 replace huf:=huf.mono hx3.sub
 have G0:GM h3 g0 ⟨un,0,kR,List.replicate un.Locks.toNat (-1),0,0⟩ l0 un (s0 un) 0:=⟨hf0,rfl,hsim0,by rw [hW0];exact kxt _,rfl,rfl,rfl,rfl,hl0,Jgc hok⟩
 clear hf0 hsim0 hW0 hl0 hgu hx3 hS0
 obtain ⟨k0,hk0⟩:∃ q:KS,q=⟨un,0,kR,List.replicate un.Locks.toNat (-1),0,0⟩:=⟨_,rfl⟩
 rw [← hk0] at G0 u
 refine qm o rfl λo=>?_
 iterate 2 refine qv o (Dt o rfl rfl) λo=>?_
 iterate 2 refine qa o rfl λo=>?_
 refine re<|tn<|mid (λa w=>∃ (i:Nat) (g:MGh) (k:KS) (l:List (TG×TS)) (s:PSt),Fr 212 [(1,SL oh how ch),(5,PT b2),(7,PT bu),(9,.pointer (some ⟨g.p,0,none⟩))] a∧St w0 Nil [h3] [mA g k l,blk bu (.cells (uCs ug un).toArray 36 (0,0)),bk b2 [i6 tz0,i6 tz1] 29] w∧i≤30∧GM h3 g k l un s i) ?_ ?_
 replace u:=u.pk [0,0,0] rfl
 refine th<|rg<|qa o rfl λo=>re<|tn<|wb<|lp (α:=Nat×MGh×KS×List (TG×TS)×PSt) (λgh a w=>match gh with | (i,g,k,l,s)=>Fr 212 [(1,SL oh how ch),(5,PT b2),(7,PT bu),(9,.pointer (some ⟨g.p,0,none⟩)),(11,i6 ((i:Nat):Int))] a∧St w0 Nil [h3] [mA g k l,blk bu (.cells (uCs ug un).toArray 36 (0,0)),bk b2 [i6 tz0,i6 tz1] 29] w∧(i≤30∧GM h3 g k l un s i)) (λ(gh:Nat×MGh×KS×List (TG×TS)×PSt)=>match gh with | (i,g,k,l,s)=>30 - i) (0,g0,k0,l0,s0 un) ⟨o.hs,u,⟨by omega,G0⟩⟩ ?_
 rintro ⟨i,g,k,l,s⟩ a w ⟨o,u,⟨hin,G⟩⟩
 refine th<|th<|rg<|qm o rfl λo=>qm o rfl λo=>qv o (Cn o Bn rfl) λo=>qv o (Am o rfl rfl) λo=>qm o rfl λo=>Fr.split o (t:=43) rfl (λhb o=>?_) (λhb o=>?_)
 replace hb:=of_decide_eq_true hb
 refine qg o (Aa o rfl) λo=>qg o (Am o rfl rfl) λo=>qv o (Ab o rfl rfl) λo=>re<|tn<|cs o rfl (λhb=>?_) (λhb=>?_)
 replace hb:=of_decide_eq_true hb
 refine wk<|tn<|th<|wb<|th<|rg<|qm o rfl λo=>ls<|c1 o rfl call8 (Py (u.hs _ t0) (u.ok _ t0) (λb hb=>(u.own _ t0 b hb).2 _ t0) G) ⟨rfl,trivial⟩ (λv w a hR o=>?_)
 obtain ⟨l2,op,cp,rfl,G1,hmut⟩:=hR
 replace u:=St.unsep2 ((u.mut hmut .head).pickL (.cons .head (.cons .head (.cons .head .nil))))
 clear hmut
 obtain ⟨P,hP⟩:∃ q,q=Dd s:=⟨_,rfl⟩
 rw [← hP] at u o
 refine qa o rfl λo=>re<|tn<|th<|th<|rg<|qm o rfl λo=>qv o (Cn o Eh rfl) λo=>qv o (Ah o rfl rfl) λo=>re<|tn<|cs o rfl (λhb=>?_) (λhb=>?_)
 replace hb:=of_decide_eq_true hb
 refine th<|rg<|ls<|c1 o rfl call6 (Ty (u.hs _ t0) hT (E.fixed_eq (N:=30) (kxb _))) trivial (λv w a hR o=>?_)
 obtain ⟨rfl,hk⟩:=hR
 replace u:=u.pass hk
 refine qa o rfl λo=>re<|tn<|wr<|tr<|br<|tr<|tr<|br<|tr<|?_
 exact r1 o results3 rfl ⟨rfl,u.keep⟩
 replace hb:=of_decide_eq_false hb
 refine wk<|tn<|?_
 have hPl:0 < P.length:=by omega
 have hj0:lo 65535 how[i] % P.length < P.length:=Nat.mod_lt _ hPl
 obtain ⟨pa,hpa⟩:∃ q,q=P[lo 65535 how[i] % P.length]'hj0:=⟨_,rfl⟩
 have hpaP:pa∈Dd s:=hP ▸ (hpa ▸ kxj hj0)
 refine rg<|qm o rfl λo=>?_
 iterate 3 refine qm o rfl λo=>?_
 refine qv o (Es o Bn sizeOf3 rfl rfl rfl (by omega) ((Tl hrh).some (Dl (l:=how) (by omega)))) λo=>qv o (Ap o isAgg3 rfl (u.ld.elH t0 (Tl hrh) (Eu (l:=how) (k:=i) (by omega)))) λo=>qv o (Jav (n:=65535) o (by omega) rfl rfl) λo=>qm o rfl λo=>qv o (Cn o Eh rfl) λo=>qv o (Yx (m:=(lo 65535 how[i])) (n:=P.length) o rfl rfl (by omega)) λo=>qv o (Es o Eh sizeOf52 rfl rfl rfl (by omega) ((u.ld.rdO t1).some (Hw (l:=P) hPl))) λo=>qv o (As (v':=.agg (Ib pa).toArray) (An o isAgg52 sizeOf52 rfl rfl (u.ld.elsO t1 (Mi (l:=P) (k:=((lo 65535 how[i]) % P.length)) hj0))) (by rw [hpa])) λo=>ls<|c1 o rfl call9 (JcP (u.hs _ t0) (u.ok _ t0) (λb hb=>(u.own _ t0 b hb).2 _ t0) G1 (by omega) (p:=pa) hpaP) ⟨rfl,rfl,trivial⟩ (λv w a hR o=>?_)
 obtain ⟨g2,k2,l3,rfl,hgp,G2,hmut⟩:=hR
 replace u:=u.mut hmut .head
 clear hmut
 rw [← hgp] at o
 clear hgp
 refine re<|bn<|tn<|rg<|qm o rfl λo=>qv o (Dx (r:=(((i+1):Nat):Int)) o rfl rfl rfl (by omega)) λo=>qa o rfl λo=>re<|tn<|?_
 replace u:=u.pk [0,1,1] rfl
 exact ⟨(i+1,g2,k2,l3,Gq un.Lines s pa),⟨o.hs,u,⟨by omega,G2⟩⟩,(by dsimp only;omega)⟩
 replace hb:=kyd.1 (of_decide_eq_false hb)
 refine we<|tx<|tx<|bx<|tn<|?_
 exact ⟨i,g,k,l,s,o.hs,u,hin,G⟩
 replace hb:=kyd.1 (of_decide_eq_false hb)
 iterate 2 refine qn o λo=>?_
 refine qv o (Ac o rfl rfl) λo=>re<|tn<|cf o rfl<|we<|tx<|tx<|bx<|tn<|?_
 exact ⟨i,g,k,l,s,o.hs,u,hin,G⟩
 rintro a w ⟨i,g,k,l,s,o,u,hin,G⟩
 refine th<|rg<|qm o rfl λo=>ls<|c1 o rfl call8 (Py (u.hs _ t0) (u.ok _ t0) (λb hb=>(u.own _ t0 b hb).2 _ t0) G) ⟨rfl,trivial⟩ (λv w a hR o=>?_)
 obtain ⟨l2,op,cp,rfl,G1,hmut⟩:=hR
 replace u:=St.unsep2 ((u.mut hmut .head).pickL (.cons .head (.cons .head (.cons .head .nil))))
 clear hmut
 obtain ⟨P,hP⟩:∃ q,q=Dd s:=⟨_,rfl⟩
 rw [← hP] at u o
 refine qa o rfl λo=>re<|tn<|th<|th<|rg<|qm o rfl λo=>qv o (Cn o Eh rfl) λo=>qv o (Ah o rfl rfl) λo=>re<|tn<|cs o rfl (λhb=>?_) (λhb=>?_)
 replace hb:=of_decide_eq_true hb
 refine th<|rg<|ls<|c1 o rfl call6 (Ty (u.hs _ t0) hT (E.fixed_eq (N:=30) (kxb _))) trivial (λv w a hR o=>?_)
 obtain ⟨rfl,hk⟩:=hR
 replace u:=u.pass hk
 refine qa o rfl λo=>re<|tn<|wr<|tr<|?_
 exact r1 o results3 rfl ⟨rfl,u.keep⟩
 replace hb:=of_decide_eq_false hb
 have hPl:0 < P.length:=by omega
 have hj0:lo 65535 tz0 % P.length < P.length:=Nat.mod_lt _ hPl
 have hj1:lo 65535 tz1 % P.length < P.length:=Nat.mod_lt _ hPl
 obtain ⟨pa,hpa⟩:∃ q,q=P[lo 65535 tz0 % P.length]'hj0:=⟨_,rfl⟩
 obtain ⟨pb,hpb⟩:∃ q,q=P[lo 65535 tz1 % P.length]'hj1:=⟨_,rfl⟩
 have hpaP:pa∈Dd s:=hP ▸ (hpa ▸ kxj hj0)
 have hpbP:pb∈Dd s:=hP ▸ (hpb ▸ kxj hj1)
 refine wk<|tn<|mid (λa w=>∃ (ba bb:Nat),Fr 212 [(7,PT bu),(9,.pointer (some ⟨g.p,0,none⟩)),(14,PT ba),(15,PT bb)] a∧St w0 Nil [h3] [mA g k l2,blk bu (.cells (uCs ug un).toArray 36 (0,0)),blk ba (.cells (Ib pa).toArray 52 (0,0)),blk bb (.cells (Ib pb).toArray 52 (0,0))] w) ?_ ?_
 refine rdL (Bh t1 (Bh t3 Ey)) 21 u wide λw u=>ds 0 (u.ly [1,3] rfl) o rfl (Aa o rfl) λo=>ds 1 (u.ly [1,3] rfl) o rfl (Je8 (i:=0) o JgZ sizeOf3 rfl rfl rfl (by decide)) λo=>dq 2 (u.ly [1,3] rfl) o rfl (λw hl=>eB o isAgg3 rfl hl t1 rfl) λo=>ds 3 (u.ly [1,3] rfl) o rfl (Jav (n:=65535) o (by omega) rfl rfl) λo=>ds 4 (u.ly [1,3] rfl) o rfl (Aa o rfl) λo=>ds 5 (u.ly [1,3] rfl) o rfl (Cn o Eh rfl) λo=>ds 6 (u.ly [1,3] rfl) o rfl (Yx (m:=(lo 65535 tz0)) (n:=P.length) o rfl rfl (by omega)) λo=>dq 7 (u.ly [1,3] rfl) o rfl (λw hl=>Es o Eh sizeOf52 rfl rfl rfl (by omega) ((hl.rdO t0).some (Hw (l:=P) hPl))) λo=>dq 8 (u.ly [1,3] rfl) o rfl (λw hl=>As (v':=.agg (Ib pa).toArray) (An o isAgg52 sizeOf52 rfl rfl (hl.elsO t0 (Mi (l:=P) (k:=((lo 65535 tz0) % P.length)) hj0))) (by rw [hpa])) λo=>ds 9 (u.ly [1,3] rfl) o rfl (Aa o rfl) λo=>ds 10 (u.ly [1,3] rfl) o rfl (Je8 (i:=1) o JgZ sizeOf3 rfl rfl rfl (by decide)) λo=>dq 11 (u.ly [1,3] rfl) o rfl (λw hl=>eB o isAgg3 rfl hl t1 rfl) λo=>ds 12 (u.ly [1,3] rfl) o rfl (Jav (n:=65535) o (by omega) rfl rfl) λo=>ds 13 (u.ly [1,3] rfl) o rfl (Aa o rfl) λo=>ds 14 (u.ly [1,3] rfl) o rfl (Cn o Eh rfl) λo=>ds 15 (u.ly [1,3] rfl) o rfl (Yx (m:=(lo 65535 tz1)) (n:=P.length) o rfl rfl (by omega)) λo=>dq 16 (u.ly [1,3] rfl) o rfl (λw hl=>Es o Eh sizeOf52 rfl rfl rfl (by omega) ((hl.rdO t0).some (Hw (l:=P) hPl))) λo=>dq 17 (u.ly [1,3] rfl) o rfl (λw hl=>As (v':=.agg (Ib pb).toArray) (An o isAgg52 sizeOf52 rfl rfl (hl.elsO t0 (Mi (l:=P) (k:=((lo 65535 tz1) % P.length)) hj1))) (by rw [hpb])) λo=>da2 (i:=18) (j:=19) (by kernel_rfl) ?_ ?_
 refine dI 18 rfl<|Aq o rfl u zeroValue52 rfl λba w a u o=>⟨λ_=>(u.ly [2,4] rfl),?_⟩
 refine dz 19 rfl<|Aq o rfl u zeroValue52 rfl λbb w a u o=>⟨λ_=>(u.ly [3,5] rfl),?_⟩
 refine dz 20 rfl<|Ar o u sizeOf52 rfl rfl rfl rfl (Ak rfl) (.tail .head) λw u=>⟨λ_=>(u.ly [3,5] rfl),?_⟩
 refine dz 21 rfl<|Ar o u sizeOf52 rfl rfl rfl rfl (Ak rfl) .head λw u=>⟨λh=>absurd rfl h,?_⟩
 refine dE<|tn<|?_
 exact ⟨ba,bb,o.hs,u.pk [2,3,1,0] rfl⟩
 refine dI 19 rfl<|Aq o rfl u zeroValue52 rfl λbb w a u o=>⟨λ_=>(u.ly [2,4] rfl),?_⟩
 refine dz 18 rfl<|Aq o rfl u zeroValue52 rfl λba w a u o=>⟨λ_=>(u.ly [3,5] rfl),?_⟩
 refine dz 20 rfl<|Ar o u sizeOf52 rfl rfl rfl rfl (Ak rfl) .head λw u=>⟨λ_=>(u.ly [3,5] rfl),?_⟩
 refine dz 21 rfl<|Ar o u sizeOf52 rfl rfl rfl rfl (Ak rfl) (.tail .head) λw u=>⟨λh=>absurd rfl h,?_⟩
 refine dE<|tn<|?_
 exact ⟨ba,bb,o.hs,u.pk [2,3,0,0] rfl⟩
 rintro a w ⟨ba,bb,o,u⟩
 refine th<|th<|rg<|qf o Gy rfl λo=>qB o isAgg3 rfl u t2 rfl λo=>qf o Gy rfl λo=>qB o isAgg3 rfl u t3 rfl λo=>qv o (Ah o rfl rfl) λo=>re<|tn<|cs o rfl (λhb=>?_) (λhb=>?_)
 replace hb:=of_decide_eq_true hb
 refine th<|rg<|ls<|c1 o rfl call6 (Ty (u.hs _ t0) hT (E.fixed_eq (N:=30) (kxb _))) trivial (λv w a hR o=>?_)
 obtain ⟨rfl,hk⟩:=hR
 replace u:=u.pass hk
 refine qa o rfl λo=>re<|tn<|wr<|tr<|?_
 exact r1 o results3 rfl ⟨rfl,u.keep⟩
 replace hb:=of_decide_eq_false hb
 refine wk<|tn<|?_
 have hab:=hb
 refine th<|rg<|qm o rfl λo=>ls<|c1 o rfl call10 (Jfo (u.hs _ t0) (u.ok _ t0) (λb hb=>(u.own _ t0 b hb).2 _ t0) G1 (by omega)) ⟨rfl,trivial⟩ (λv w a hR o=>?_)
 obtain ⟨g1,l1,gc,lc,rfl,hgp,Ga,Gb,hmut⟩:=hR
 replace u:=St.unsep2 (u.mut hmut .head)
 clear hmut
 rw [← hgp] at o
 clear hgp
 refine qa o rfl λo=>re<|tn<|th<|rg<|qm o rfl λo=>qv o (An (vs:=Ib pa) o isAgg52 sizeOf52 rfl rfl (u.ld.cellsB t3)) λo=>ls<|c1 o rfl call9 (JcP (u.hs _ t0) (u.ok _ t0) (λb hb=>(u.own _ t0 b hb).2 _ t0) Ga (by omega) (p:=pa) hpaP) ⟨rfl,rfl,trivial⟩ (λv w a hR o=>?_)
 obtain ⟨g3,k3,l3,rfl,hgp,G3,hmut⟩:=hR
 replace u:=u.mut hmut .head
 clear hmut
 rw [← hgp] at o
 clear hgp
 obtain ⟨va,hva⟩:∃ q,q=evP un.Lines s pa:=⟨_,rfl⟩
 rw [← hva] at o
 refine qm o rfl λo=>?_
 iterate 2 refine qv o (Dt o rfl rfl) λo=>?_
 refine ls<|Aq o rfl u zeroValue48 rfl λea w a u o=>ls<|Ar o u sizeOf48 rfl rfl rfl rfl (Ak rfl) .head λw u=>qa o rfl λo=>re<|tn<|th<|rg<|qm o rfl λo=>qv o (An (vs:=Ib pb) o isAgg52 sizeOf52 rfl rfl (u.ld.cellsB t5)) λo=>ls<|c1 o rfl call9 (JcP (u.hs _ t0) (u.ok _ t2) (λb hb=>(u.own _ t2 b hb).2 _ t0) Gb (by omega) (p:=pb) hpbP) ⟨rfl,rfl,trivial⟩ (λv w a hR o=>?_)
 obtain ⟨g4,k4,l4,rfl,hgp,G4,hmut⟩:=hR
 replace u:=u.mut hmut (.tail (.tail .head))
 clear hmut
 rw [← hgp] at o
 clear hgp
 obtain ⟨vb,hvb⟩:∃ q,q=evP un.Lines s pb:=⟨_,rfl⟩
 rw [← hvb] at o
 refine qm o rfl λo=>?_
 iterate 2 refine qv o (Dt o rfl rfl) λo=>?_
 refine ls<|Aq o rfl u zeroValue48 rfl λeb w a u o=>ls<|Ar o u sizeOf48 rfl rfl rfl rfl (Ak rfl) .head λw u=>qa o rfl λo=>re<|tn<|th<|th<|rg<|qv o (An (vs:=evC va) o Tryz.isAgg48 Tryz.sizeOf48 rfl rfl (u.ld.cellsB t1)) λo=>qv o (An (vs:=evC vb) o isAgg48 sizeOf48 rfl rfl (u.ld.cellsB t0)) λo=>qf o Et rfl λo=>qB o isAgg28 rfl u t4 rfl λo=>qf o Iq rfl λo=>qB o isAgg3 rfl u t4 rfl λo=>ls<|cq o call11 (Jan (p1:=va) (p2:=vb) (u.hs _ t0) huf.c0 huf.r0 (E.Depend_eq (N:=3) (kxb _) va vb un.Lines un.Stays)) ⟨rfl,rfl,rfl,rfl,trivial⟩ u λw a u o=>re<|tn<|cs o rfl (λhb=>?_) (λhb=>?_)
 refine th<|rg<|ls<|c1 o rfl call6 (Ty (u.hs _ t0) hT (E.fixed_eq (N:=30) (kxb _))) trivial (λv w a hR o=>?_)
 obtain ⟨rfl,hk⟩:=hR
 replace u:=u.pass hk
 refine qa o rfl λo=>re<|tn<|wr<|tr<|?_
 exact r1 o results3 rfl ⟨rfl,u.keep⟩
 refine wk<|tn<|?_
 obtain ⟨zz1,zz2,zz3,zz4,zz5⟩:=Jg1 G.ok (Jhz G.sim) hpaP hpbP hab (by rw [← hva,← hvb];exact hb)
 refine th<|rg<|qm o rfl λo=>qv o (An (vs:=Ib pb) o isAgg52 sizeOf52 rfl rfl (u.ld.cellsB t6)) λo=>ls<|c1 o rfl call9 (JcP (u.hs _ t0) (u.ok _ t2) (λb hb=>(u.own _ t2 b hb).2 _ t0) G3 (by omega) (p:=pb) zz1) ⟨rfl,rfl,trivial⟩ (λv w a hR o=>?_)
 obtain ⟨g5,k5,l5,rfl,hgp,G5,hmut⟩:=hR
 replace u:=u.mut hmut (.tail (.tail .head))
 clear hmut
 rw [← hgp] at o
 clear hgp
 rw [zz3,← hvb] at o
 refine qm o rfl λo=>?_
 iterate 2 refine qv o (Dt o rfl rfl) λo=>?_
 refine ls<|Aq o rfl u zeroValue48 rfl λec w a u o=>ls<|Ar o u sizeOf48 rfl rfl rfl rfl (Ak rfl) .head λw u=>qa o rfl λo=>re<|tn<|th<|rg<|qm o rfl λo=>qv o (An (vs:=Ib pa) o isAgg52 sizeOf52 rfl rfl (u.ld.cellsB t6)) λo=>ls<|c1 o rfl call9 (JcP (u.hs _ t0) (u.ok _ t4) (λb hb=>(u.own _ t4 b hb).2 _ t0) G4 (by omega) (p:=pa) zz2) ⟨rfl,rfl,trivial⟩ (λv w a hR o=>?_)
 obtain ⟨g6,k6,l6,rfl,hgp,G6,hmut⟩:=hR
 replace u:=u.mut hmut (.tail (.tail (.tail (.tail .head))))
 clear hmut
 rw [← hgp] at o
 clear hgp
 rw [zz4,← hva] at o
 rw [← zz5] at G6
 generalize Gq un.Lines (Gq un.Lines s pa) pb=sf at G5 G6
 refine qm o rfl λo=>?_
 iterate 2 refine qv o (Dt o rfl rfl) λo=>?_
 refine ls<|Aq o rfl u zeroValue48 rfl λed w a u o=>ls<|Ar o u sizeOf48 rfl rfl rfl rfl (Ak rfl) .head λw u=>qa o rfl λo=>re<|tn<|?_
 replace u:=u.pk [4,4,3,2,1,0] rfl
 have hPc:=Yf (s:=sf)
 have hPn:(Dd sf).length≤1000:=by have:=Jam G5.ok;omega
 have hnl:(Me sf.m (nlines sf.m)).length≤1000:=by rw [Tp];have:=G5.ok.inv.nl;omega
 refine th<|rdX (S:=S25 h3 ea eb ec ed va vb g5 k5 g6 k6) 81 u wide λw u=>?_
 have hd:S25 h3 ea eb ec ed va vb g5 k5 g6 k6 w:=⟨(u.ly [2,3,4,5] rfl),Cl.of (u.ok _ t0),Cl.of (u.ok _ t1)⟩
 refine ds 0 hd o rfl (Aa o rfl) λo=>ds 1 hd o rfl (Ah o rfl rfl) λo=>ds 2 hd o rfl (Aa o rfl) λo=>dg 3 hd o rfl (λw hl=>Aa o rfl) λo=>dg 4 hd o rfl (λw hl=>Ah o rfl rfl) λo=>ds 5 hd o rfl (Ab o rfl rfl) λo=>ds 6 hd o rfl (Aa o rfl) λo=>dg 7 hd o rfl (λw hl=>An (vs:=evC vb) o isAgg48 sizeOf48 rfl rfl (hl.1.cellsB t2)) λo=>dg 8 hd o rfl (λw hl=>An (vs:=evC vb) o isAgg48 sizeOf48 rfl rfl (hl.1.cellsB t1)) λo=>dg 9 hd o rfl (λw hl=>Jcq (k:=vb.Kind) (t:=vb.T) (a:=vb.A) (n:=vb.N) (m:=vb.M) o rfl rfl) λo=>ds 10 hd o rfl (Ab o rfl rfl) λo=>ds 11 hd o rfl (Aa o rfl) λo=>dg 12 hd o rfl (λw hl=>An (vs:=evC va) o isAgg48 sizeOf48 rfl rfl (hl.1.cellsB t3)) λo=>dg 13 hd o rfl (λw hl=>An (vs:=evC va) o isAgg48 sizeOf48 rfl rfl (hl.1.cellsB t0)) λo=>dg 14 hd o rfl (λw hl=>Jcq (k:=va.Kind) (t:=va.T) (a:=va.A) (n:=va.N) (m:=va.M) o rfl rfl) λo=>ds 15 hd o rfl (Ab o rfl rfl) λo=>ds 16 hd o rfl (Aa o rfl) λo=>dg 17 hd o rfl (λw hl=>Aa o rfl) λo=>dg 19 hd o rfl (λw hl=>Aa o rfl) λo=>dz 18 rfl<|gy o rfl rfl<|c1 o rfl call8 (Py (u.hs _ t0) (u.ok _ t0) (λb hb=>(u.own _ t0 b hb).2 _ t0) G5) ⟨rfl,trivial⟩ (λv w a hR o=>?_)
 obtain ⟨l7,op1,cp1,rfl,G7,hmut⟩:=hR
 replace u:=St.unsep2 ((u.mut hmut .head).pickL (.cons .head (.cons .head (.cons .head (.cons .head (.cons .head (.cons .head .nil)))))))
 clear hmut
 have hd:S25 h3 ea eb ec ed va vb g5 k5 g6 k6 w:=⟨(u.ly [3,4,5,6] rfl),Cl.of (u.ok _ t0),Cl.of (u.ok _ t2)⟩
 refine ⟨λ_=>hd,?_⟩
 refine dz 20 rfl<|gy o rfl rfl<|c1 o rfl call8 (Py (u.hs _ t0) (u.ok _ t2) (λb hb=>(u.own _ t2 b hb).2 _ t0) G6) ⟨rfl,trivial⟩ (λv w a hR o=>?_)
 obtain ⟨l8,op2,cp2,rfl,G8,hmut⟩:=hR
 replace u:=St.unsep2 ((u.mut hmut (.tail (.tail .head))).pickL (.cons (.tail (.tail .head)) (.cons .head (.cons .head (.cons .head (.cons .head (.cons .head (.cons .head .nil))))))))
 clear hmut
 have hd:S25 h3 ea eb ec ed va vb g5 k5 g6 k6 w:=⟨(u.ly [4,5,6,7] rfl),Cl.of (u.ok _ t2),Cl.of (u.ok _ t0)⟩
 refine ⟨λ_=>hd,?_⟩
 refine dz 21 rfl<|gy o rfl rfl<|cq o call12 (JdS u t3 t1 hPc hPn) ⟨rfl,rfl,trivial⟩ u λw a u o=>?_
 have hd:S25 h3 ea eb ec ed va vb g5 k5 g6 k6 w:=⟨(u.ly [4,5,6,7] rfl),Cl.of (u.ok _ t2),Cl.of (u.ok _ t0)⟩
 refine ⟨λ_=>hd,?_⟩
 refine ds 22 hd o rfl (Ab o rfl rfl) λo=>ds 23 hd o rfl (Aa o rfl) λo=>dg 24 hd o rfl (λw hl=>Aa o rfl) λo=>dg 26 hd o rfl (λw hl=>Aa o rfl) λo=>dz 25 rfl<|gy o rfl rfl<|c1 o rfl call13 (Vn (u.hs _ t0) (u.ok _ t2) (λb hb=>(u.own _ t2 b hb).2 _ t0) G7) ⟨rfl,trivial⟩ (λv w a hR o=>?_)
 obtain ⟨rfl,l9,G9,hmut⟩:=hR
 replace u:=u.mut hmut (.tail (.tail .head))
 clear hmut
 have hd:S25 h3 ea eb ec ed va vb g5 k5 g6 k6 w:=⟨(u.ly [4,5,6,7] rfl),Cl.of (u.ok _ t2),Cl.of (u.ok _ t0)⟩
 refine ⟨λ_=>hd,?_⟩
 refine dz 27 rfl<|gy o rfl rfl<|c1 o rfl call13 (Vn (u.hs _ t0) (u.ok _ t0) (λb hb=>(u.own _ t0 b hb).2 _ t0) G8) ⟨rfl,trivial⟩ (λv w a hR o=>?_)
 obtain ⟨rfl,l10,G10,hmut⟩:=hR
 replace u:=u.mut hmut .head
 clear hmut
 have hd:S25 h3 ea eb ec ed va vb g5 k5 g6 k6 w:=⟨(u.ly [4,5,6,7] rfl),Cl.of (u.ok _ t2),Cl.of (u.ok _ t0)⟩
 refine ⟨λ_=>hd,?_⟩
 refine dg 28 hd o rfl (λw hl=>Jf9 o rfl rfl) λo=>ds 29 hd o rfl (Ab o rfl rfl) λo=>ds 30 hd o rfl (Aa o rfl) λo=>dg 31 hd o rfl (λw hl=>Aa o rfl) λo=>dg 32 hd o rfl (λw hl=>Af o rfl) λo=>dg 33 hd o rfl (λw hl=>Ad o Hc rfl) λo=>dg 34 hd o rfl (λw hl=>Ap o isAgg63 rfl hl.2.1.1) λo=>dg 35 hd o rfl (λw hl=>Af o rfl) λo=>dg 36 hd o rfl (λw hl=>Ad o Ks rfl) λo=>dg 37 hd o rfl (λw hl=>Ap o isAgg28 rfl hl.2.1.2.1) λo=>dg 38 hd o rfl (λw hl=>Aa o rfl) λo=>dg 39 hd o rfl (λw hl=>Af o rfl) λo=>dg 40 hd o rfl (λw hl=>Ad o Hc rfl) λo=>dg 41 hd o rfl (λw hl=>Ap o isAgg63 rfl hl.2.2.1) λo=>dg 42 hd o rfl (λw hl=>Af o rfl) λo=>dg 43 hd o rfl (λw hl=>Ad o Ks rfl) λo=>dg 44 hd o rfl (λw hl=>Ap o isAgg28 rfl hl.2.2.2.1) λo=>dz 45 rfl<|gy o rfl rfl<|cq o call14 (eqL (u.ok _ t2) (u.ok _ t0) G9 G10) ⟨rfl,rfl,trivial⟩ u λw a u o=>?_
 have hd:S25 h3 ea eb ec ed va vb g5 k5 g6 k6 w:=⟨(u.ly [4,5,6,7] rfl),Cl.of (u.ok _ t2),Cl.of (u.ok _ t0)⟩
 refine ⟨λ_=>hd,?_⟩
 refine ds 46 hd o rfl (Ab o rfl rfl) λo=>ds 47 hd o rfl (Aa o rfl) λo=>dg 48 hd o rfl (λw hl=>Aa o rfl) λo=>dg 49 hd o rfl (λw hl=>Af o rfl) λo=>dg 50 hd o rfl (λw hl=>Ad o Hc rfl) λo=>dg 51 hd o rfl (λw hl=>Ap o isAgg63 rfl hl.2.1.1) λo=>dg 52 hd o rfl (λw hl=>Af o rfl) λo=>dg 53 hd o rfl (λw hl=>Ad o Qn rfl) λo=>dg 54 hd o rfl (λw hl=>Ap o isAgg28 rfl hl.2.1.2.2) λo=>dg 55 hd o rfl (λw hl=>Aa o rfl) λo=>dg 56 hd o rfl (λw hl=>Af o rfl) λo=>dg 57 hd o rfl (λw hl=>Ad o Hc rfl) λo=>dg 58 hd o rfl (λw hl=>Ap o isAgg63 rfl hl.2.2.1) λo=>dg 59 hd o rfl (λw hl=>Af o rfl) λo=>dg 60 hd o rfl (λw hl=>Ad o Qn rfl) λo=>dg 61 hd o rfl (λw hl=>Ap o isAgg28 rfl hl.2.2.2.2) λo=>dz 62 rfl<|gy o rfl rfl<|cq o call14 (eqK (u.ok _ t2) (u.ok _ t0) G9 G10) ⟨rfl,rfl,trivial⟩ u λw a u o=>?_
 have hd:S25 h3 ea eb ec ed va vb g5 k5 g6 k6 w:=⟨(u.ly [4,5,6,7] rfl),Cl.of (u.ok _ t2),Cl.of (u.ok _ t0)⟩
 refine ⟨λ_=>hd,?_⟩
 refine ds 63 hd o rfl (Ab o rfl rfl) λo=>ds 64 hd o rfl (Aa o rfl) λo=>dg 65 hd o rfl (λw hl=>Aa o rfl) λo=>dg 66 hd o rfl (λw hl=>Af o rfl) λo=>dg 67 hd o rfl (λw hl=>Ad o Hc rfl) λo=>dg 68 hd o rfl (λw hl=>Ap o isAgg63 rfl hl.2.1.1) λo=>dg 70 hd o rfl (λw hl=>Aa o rfl) λo=>dg 71 hd o rfl (λw hl=>Af o rfl) λo=>dg 72 hd o rfl (λw hl=>Ad o Hc rfl) λo=>dg 73 hd o rfl (λw hl=>Ap o isAgg63 rfl hl.2.2.1) λo=>dz 69 rfl<|gy o rfl rfl<|c1 o rfl call15 (JbX (u.ok _ t2) G9 (u.hs _ t0) (by omega)) ⟨rfl,trivial⟩ (λv w a hR o=>?_)
 obtain ⟨oe1,ce1,rfl,hfr⟩:=hR
 replace u:=u.fresh hfr
 clear hfr
 have hd:S25 h3 ea eb ec ed va vb g5 k5 g6 k6 w:=⟨(u.ly [5,6,7,8] rfl),Cl.of (u.ok _ t3),Cl.of (u.ok _ t1)⟩
 refine ⟨λ_=>hd,?_⟩
 refine dz 74 rfl<|gy o rfl rfl<|c1 o rfl call15 (JbX (u.ok _ t1) G10 (u.hs _ t0) (by omega)) ⟨rfl,trivial⟩ (λv w a hR o=>?_)
 obtain ⟨oe2,ce2,rfl,hfr⟩:=hR
 replace u:=u.fresh hfr
 clear hfr
 have hd:S25 h3 ea eb ec ed va vb g5 k5 g6 k6 w:=⟨(u.ly [6,7,8,9] rfl),Cl.of (u.ok _ t4),Cl.of (u.ok _ t2)⟩
 refine ⟨λ_=>hd,?_⟩
 refine dz 75 rfl<|gy o rfl rfl<|cq o call14 (eqP u t1 t0 hnl) ⟨rfl,rfl,trivial⟩ u λw a u o=>?_
 have hd:S25 h3 ea eb ec ed va vb g5 k5 g6 k6 w:=⟨(u.ly [6,7,8,9] rfl),Cl.of (u.ok _ t4),Cl.of (u.ok _ t2)⟩
 refine ⟨λ_=>hd,?_⟩
 refine ds 76 hd o rfl (Ab o rfl rfl) λo=>ds 77 hd o rfl (Aa o rfl) λo=>dz 78 rfl<|gy o rfl rfl<|c1 o rfl call6 (Ty (u.hs _ t0) hT (E.fixed_eq (N:=30) (kxb _))) trivial (λv w a hR o=>?_)
 obtain ⟨rfl,hk⟩:=hR
 replace u:=u.pass hk
 have hd:S25 h3 ea eb ec ed va vb g5 k5 g6 k6 w:=⟨(u.ly [6,7,8,9] rfl),Cl.of (u.ok _ t4),Cl.of (u.ok _ t2)⟩
 refine ⟨λ_=>hd,?_⟩
 refine ds 79 hd o rfl (Ab o rfl rfl) λo=>ds 80 hd o rfl (Ca o rfl) λo=>dE<|tn<|wr<|?_
 exact r1 o results3 rfl ⟨rfl,u.keep⟩
end Go.LM.SWAPS
