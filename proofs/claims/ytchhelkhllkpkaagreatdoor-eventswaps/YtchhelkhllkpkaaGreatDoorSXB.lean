/- The machine's parts: Jb their calls make. No condition beyond the theorems' own premises. -/
import Derived.Test.YtchhelkhllkpkaaGreatDoorSUC
import Derived.Laws.StructEq
import Derived.ChangeKeysEq
import Derived.Test.YtchhelkhllkpkaaGreatDoorSWP
import Derived.Test.YtchhelkhllkpkaaGreatDoorLM
set_option linter.unusedSectionVars false
namespace Go.MD.SWAPS
open Go Go.MD Go.LL
open Go.IntKind (i64)
noncomputable def onS (x:TS):TS:=open Classical in
  if h:∃ r:leadlineref13_Thread,∃ B:Nat,∀ b N,B≤N→Z7p N (x.th b)=some { r with B:=b } then x.of (Classical.choose h) else x
theorem Iw {p4 p5 p6:Int} {x:TS} (ok:TOk p4 p5 p6 (x.th none)) (hf:x.Fault=0):(∃ B:Nat,∀ b N,B≤N→Z7p N (x.th b)=some ((onS x).th b))∧OnR p4 p5 p6 (x.th none) ((onS x).th none)∧(onS x).Q=x.Q:=by
  obtain ⟨r,B,h1,h2⟩:=JfG ok hf
  have h:∃ r:leadlineref13_Thread,∃ B:Nat,∀ b N,B≤N→Z7p N (x.th b)=some { r with B:=b }:=⟨r,B,h1⟩
  have e:onS x=x.of (Classical.choose h):=dif_pos h
  obtain ⟨B2,h3⟩:=kye h
  generalize Classical.choose h=r2 at e h3
  have h4:=h1 none (B+B2) (by omega)
  have h5:=h3 none (B+B2) (by omega)
  have h6:Z7p (B+B2) (x.th none)=some { r with B:=none }:=h4
  rw [h5] at h6
  have h7:=kyh h6
  have hr:r={ r with B:=none }:=by
    have:=h2.b
    cases r;simp at this;subst this;rfl
  rw [e]
  refine ⟨⟨B2,h3⟩,?_,rfl⟩
  show OnR p4 p5 p6 (x.th none) { r2 with B:=none }
  rw [h7,← hr];exact h2
theorem Rv {Q:List api_Entry} (hQ:Q.length≤2) (cell:Int):∃ n b,∀ N,10≤N→Z7b N ⟨2,Q⟩ cell=some (n,b,⟨2,Q⟩):=by
  have key:∀ (d j:Nat),j≤d→d≤Q.length→∃ n b,∀ N m,d < m→Z7e N (Z7c ⟨2,Q⟩) ⟨2,Q⟩ cell m ((j:Int) - 1)=some (n,b,⟨2,Q⟩):=by
    intro d
    induction d with
    | zero =>
      intro j hj _
      refine ⟨0,false,fun N m hm=>?_⟩
      obtain ⟨m,rfl⟩:∃ q,m=q+1:=⟨m - 1,by omega⟩
      rw [Z7e,if_neg (by omega)];rfl
    | succ d ih =>
      intro j hj hd
      by_cases z:j=0
      · subst z
        refine ⟨0,false,fun N m hm=>?_⟩
        obtain ⟨m,rfl⟩:∃ q,m=q+1:=⟨m - 1,by omega⟩
        rw [Z7e,if_neg (by omega)];rfl
      · obtain ⟨n, b, h⟩ := ih (j - 1) (by omega) (by omega)
        have hj2:j - 1 < Q.length:=by omega
        have e1:i64.wrap ((j:Int) - 1 - 1)=((j - 1:Nat):Int) - 1:=by rw [w64 (by omega) (by omega)];omega
        have g1:getI Q ((j:Int) - 1)=some Q[j - 1]:=Al (j:=j - 1) (by omega) hj2
        by_cases k:Q[j - 1].Kind=3∧Q[j - 1].Cell=cell
        · refine ⟨Q[j - 1].N, true, fun N m hm => ?_⟩
          obtain ⟨m,rfl⟩:∃ q,m=q+1:=⟨m - 1,by omega⟩
          rw [Z7e,if_pos (by omega)]
          simp only [g1,kxa]
          rw [if_pos k.1,Z7d,if_pos (by simpa using k.2)]
          simp only [g1,kxa]
        · refine ⟨n, b, fun N m hm => ?_⟩
          obtain ⟨m,rfl⟩:∃ q,m=q+1:=⟨m - 1,by omega⟩
          have h0:=h N m (by omega)
          rw [Z7e,if_pos (by omega)]
          simp only [g1,kxa]
          split
          · rename_i k3
            rw [Z7d,if_neg (by simpa using fun q=>k ⟨k3,q⟩),e1]
            exact h0
          · rw [Z7d, if_neg (by decide), e1]
            exact h0
  obtain ⟨n,b,h⟩:=key Q.length Q.length (kxb _) (kxb _)
  refine ⟨n,b,fun N hN=>?_⟩
  unfold Z7b
  rw [w64 (by show _≤((Q.length:Nat):Int) - 1;omega) (by show ((Q.length:Nat):Int) - 1≤_;omega)]
  exact h N N (by omega)
theorem JaT {Q:List api_Entry} (hQ:Q.length≤2) (i:Int):∃ b,∀ N,10≤N→Z73 N ⟨2,Q⟩ i=some (b,⟨2,Q⟩):=by
  unfold Z73
  by_cases c:((decide (i < 0)) || (decide ((Q.length:Int)≤i)))=true
  · exact ⟨false,fun N _=>by rw [if_pos c]⟩
  · have hi : 0 ≤ i ∧ i < (Q.length : Int) := by simp at c; omega
    have key:∀ (d j:Nat),(j:Int)+d=i→∃ b,∀ N m,d < m→Z75 N (Z74 ⟨2,Q⟩) ⟨2,Q⟩ i m (j:Int)=some (b,⟨2,Q⟩):=by
      intro d
      induction d with
      | zero =>
        intro j hj
        refine ⟨true,fun N m hm=>?_⟩
        obtain ⟨m,rfl⟩:∃ q,m=q+1:=⟨m - 1,by omega⟩
        rw [Z75,if_neg (by omega)];rfl
      | succ d ih =>
        intro j hj
        obtain ⟨b,h⟩:=ih (j+1) (by omega)
        have g1:getI Q i=some Q[i.toNat]:=Al (j:=i.toNat) (by omega) (by omega)
        have g2:getI Q (j:Int)=some Q[j]:=Al rfl (by omega)
        have hp:∀ x y,∃ b,∀ N,Z7j N x y=some b:=fun x y=>by
          unfold Z7j
          split
          · exact ⟨_,fun _=>rfl⟩
          · exact ⟨_,fun _=>rfl⟩
        obtain ⟨q,hq⟩:=hp Q[i.toNat] Q[j]
        have e1:i64.wrap ((j:Int)+1)=((j+1:Nat):Int):=by rw [w64 (by omega) (by omega)];omega
        cases q with
        | true =>
          refine ⟨b,fun N m hm=>?_⟩
          obtain ⟨m,rfl⟩:∃ q,m=q+1:=⟨m - 1,by omega⟩
          rw [Z75,if_pos (by omega)]
          simp only [g1,g2,kxa]
          rw [hq N]
          simp only [kxa,if_true]
          rw [e1]
          exact h N m (by omega)
        | false =>
          refine ⟨false,fun N m hm=>?_⟩
          obtain ⟨m,rfl⟩:∃ q,m=q+1:=⟨m - 1,by omega⟩
          rw [Z75,if_pos (by omega)]
          simp only [g1,g2,kxa]
          rw [hq N]
          rfl
    obtain ⟨b,h⟩:=key i.toNat 0 (by omega)
    exact ⟨b,fun N hN=>by rw [if_neg c];exact h N N (by omega)⟩
theorem Xs {Q:List api_Entry} (hQ:Q.length≤2):∃ l:List Int,l.length≤2∧∀ N,10≤N→Z76 N ⟨2,Q⟩=some (l,⟨2,Q⟩):=by
  have key:∀ (d j:Nat) (a:List Int),j+d=Q.length→a.length≤j→∃ l:List Int,l.length≤Q.length∧∀ N m,10≤N→d < m→Z79 N Z77 m 2 Q a (j:Int)=some (l,⟨2,Q⟩):=by
    intro d
    induction d with
    | zero =>
      intro j a hj ha
      refine ⟨a,by omega,fun N m hN hm=>?_⟩
      obtain ⟨m,rfl⟩:∃ q,m=q+1:=⟨m - 1,by omega⟩
      rw [Z79,if_neg (by omega)];rfl
    | succ d ih =>
      intro j a hj ha
      obtain ⟨b,hb⟩:=JaT hQ (j:Int)
      have e1:i64.wrap ((j:Int)+1)=((j+1:Nat):Int):=by rw [w64 (by omega) (by omega)];omega
      cases b with
      | true =>
        obtain ⟨l,h0,h⟩:=ih (j+1) (a ++ [(j:Int)]) (by omega) (by simp;omega)
        refine ⟨l,h0,fun N m hN hm=>?_⟩
        obtain ⟨m,rfl⟩:∃ q,m=q+1:=⟨m - 1,by omega⟩
        rw [Z79,if_pos (by omega),hb N hN]
        simp only [kxa,if_true]
        rw [Ax (by simp;omega) (by decide)]
        simp only [kxa]
        rw [Z78,e1]
        exact h N m hN (by omega)
      | false =>
        obtain ⟨l,h0,h⟩:=ih (j+1) a (by omega) (by omega)
        refine ⟨l,h0,fun N m hN hm=>?_⟩
        obtain ⟨m,rfl⟩:∃ q,m=q+1:=⟨m - 1,by omega⟩
        rw [Z79,if_pos (by omega),hb N hN]
        simp only [kxa]
        rw [if_neg (by decide),Z78,e1]
        exact h N m hN (by omega)
  obtain ⟨l,h0,h⟩:=key Q.length 0 [] (by omega) (kxb _)
  exact ⟨l,by omega,fun N hN=>h N N hN (by omega)⟩
theorem Nz {Q:List api_Entry} (hQ:Q.length≤2) (i:Int):∃ e c Q2,Q2.length≤2∧∀ N,10≤N→Z7h N ⟨2,Q⟩ i=some (e,c,⟨2,Q2⟩):=by
  unfold Z7h
  by_cases c:((decide (i < 0)) || (decide ((Q.length:Int)≤i)))=true
  · exact ⟨_,_,Q,hQ,fun N _=>by rw [if_pos c]⟩
  · have hi : 0 ≤ i ∧ i < (Q.length : Int) := by simp at c; omega
    obtain ⟨b,hb⟩:=JaT hQ i
    cases b with
    | false=>exact ⟨_,_,Q,hQ,fun N hN=>by rw [if_neg c,hb N hN];rfl⟩
    | true =>
      refine ⟨Q[i.toNat],0,Q.take i.toNat ++ (Q.take Q.length).drop (i+1).toNat,by simp;omega,fun N hN=>?_⟩
      rw [if_neg c,hb N hN]
      simp only [kxa,if_true]
      rw [Al (j:=i.toNat) (by omega) (by omega)]
      simp only [kxa]
      rw [Ef (by omega) (by omega) (by omega)]
      simp only [kxa,kwc,kxf]
      rw [Ax (by simp;omega) (by decide)]
      simp only [kxa,kxl]
      rw [w64 (by omega) (by omega),Ef (by omega) (by omega) (by omega)]
      simp only [kxa,kya]
      rw [Ax (by simp;omega) (by decide)]
      rfl
theorem Ux {Q:List api_Entry} (hQ:Q.length≤2) (e:api_Entry):∃ c Q2,Q2.length≤2∧∀ N,Z7f N ⟨2,Q⟩ e=some (c,⟨2,Q2⟩):=by
  have hr:∃ b,∀ N,Z7k N e=some b:=by
    unfold Z7k
    split
    · exact ⟨_,fun _=>rfl⟩
    · split
      · exact ⟨_,fun _=>rfl⟩
      · exact ⟨_,fun _=>rfl⟩
  obtain ⟨b,hb⟩:=hr
  unfold Z7f
  cases b with
  | false=>exact ⟨1,Q,hQ,fun N=>by rw [hb N];rfl⟩
  | true =>
    by_cases z:(2:Int)≤(Q.length:Int)
    · exact ⟨2,Q,hQ,fun N=>by rw [hb N];simp only [kxa,if_true];rw [if_pos z]⟩
    · refine ⟨0, Q ++ [e], by simp; omega, fun N => ?_⟩
      rw [hb N]
      simp only [kxa,if_true]
      rw [if_neg z,Ax (by simp;omega) (by decide)]
      rfl
noncomputable def He (Q:List api_Entry) (cell:Int):Int×Bool:=open Classical in
  if h:Q.length≤2 then ((Classical.choose (Rv h cell)),Classical.choose (kye (Rv h cell))) else (0,false)
theorem JcG {Q:List api_Entry} (h:Q.length≤2) (cell:Int):∀ N,10≤N→Z7b N ⟨2,Q⟩ cell=some ((He Q cell).1,(He Q cell).2,⟨2,Q⟩):=by
  unfold He;rw [dif_pos h]
  exact kye (kye (Rv h cell))
noncomputable def Bt (Q:List api_Entry):List Int:=open Classical in
  if h:Q.length≤2 then Classical.choose (Xs h) else []
theorem N0 {Q:List api_Entry} (h:Q.length≤2):(Bt Q).length≤2∧∀ N,10≤N→Z76 N ⟨2,Q⟩=some (Bt Q,⟨2,Q⟩):=by
  unfold Bt;rw [dif_pos h]
  exact kye (Xs h)
noncomputable def Bb (Q:List api_Entry) (i:Int):api_Entry×Int×List api_Entry:=open Classical in
  if h:Q.length≤2 then (Classical.choose (Nz h i),Classical.choose (kye (Nz h i)),Classical.choose (kye (kye (Nz h i)))) else (⟨0,0,0,0⟩,0,[])
theorem Xt {Q:List api_Entry} (h:Q.length≤2) (i:Int):(Bb Q i).2.2.length≤2∧∀ N,10≤N→Z7h N ⟨2,Q⟩ i=some ((Bb Q i).1,(Bb Q i).2.1,⟨2,(Bb Q i).2.2⟩):=by
  unfold Bb;rw [dif_pos h]
  exact kye (kye (kye (Nz h i)))
noncomputable def Sk (Q:List api_Entry) (e:api_Entry):Int×List api_Entry:=open Classical in
  if h:Q.length≤2 then (Classical.choose (Ux h e),Classical.choose (kye (Ux h e))) else (0,[])
theorem JaG {Q:List api_Entry} (h:Q.length≤2) (e:api_Entry):(Sk Q e).2.length≤2∧∀ N,Z7f N ⟨2,Q⟩ e=some ((Sk Q e).1,⟨2,(Sk Q e).2⟩):=by
  unfold Sk;rw [dif_pos h]
  exact kye (kye (Ux h e))
end Go.MD.SWAPS
namespace Go.LM.SWAPS
open Go Go.LL Go.MD Go.LM Go.Proofs Go.MD.SWAPS
theorem St.bigTake {α:Type} {f:α→HA} {w0 w:World} {M:Nat→Prop} {Hs:List PH} {L:List HA} {l1 l2:List α} {x:α} (hS:St w0 M Hs (Ce f (l1 ++ x :: l2) :: L) w):St w0 M Hs (f x :: Ce f (l1 ++ l2) :: L) w:=by
  have hb:(Ce f (l1 ++ x :: l2)).ok (hp w):=hS.ok _ (.head _)
  have hpw:=kyu.1 hb.2
  have hc:=kxy.1 hpw.2.1
  have hd:=kxy.1 hS.disj
  refine ⟨hS.keep,hS.hs,fun A hA=>?_,fun A hA b hb2=>?_,?_⟩
  · rcases kxg.1 hA with rfl | hA
    · exact hb.1 x (by simp)
    · rcases kxg.1 hA with rfl | hA
      · refine ⟨fun y hy => hb.1 y ?_, kyu.2 ⟨hpw.1, hc.2, fun y hy z hz => hpw.2.2 y hy z (.tail _ hz)⟩⟩
        rcases kxi.1 hy with h | h <;> simp [h]
      · exact hS.ok A (.tail _ hA)
  · rcases kxg.1 hA with rfl | hA
    · exact hS.own (Ce f (l1 ++ x :: l2)) (.head _) b ⟨x,by simp,hb2⟩
    · rcases kxg.1 hA with rfl | hA
      · obtain ⟨y, hy, hb3⟩ := hb2
        exact hS.own (Ce f (l1 ++ x :: l2)) (.head _) b ⟨y,by rcases kxi.1 hy with h | h <;> simp [h],hb3⟩
      · exact hS.own A (.tail _ hA) b hb2
  · refine kxy.2 ⟨fun B hB => ?_, kxy.2 ⟨fun B hB b hb2 => ?_, hd.2⟩⟩
    · rcases kxg.1 hB with rfl | hB
      · intro b h1 ⟨y, hy, h2⟩
        rcases kxi.1 hy with h | h
        · exact hpw.2.2 y h x (.head _) b h2 h1
        · exact hc.1 y h b h1 h2
      · exact fun b h1 h2=>hd.1 B hB b ⟨x,by simp,h1⟩ h2
    · obtain ⟨y, hy, hb3⟩ := hb2
      exact fun h2=>hd.1 B hB b ⟨y,by rcases kxi.1 hy with h | h <;> simp [h],hb3⟩ h2
theorem St.bigPut {α:Type} {f:α→HA} {w0 w:World} {M:Nat→Prop} {Hs:List PH} {L:List HA} {l1 l2:List α} {x:α} (hS:St w0 M Hs (f x :: Ce f (l1 ++ l2) :: L) w):St w0 M Hs (Ce f (l1 ++ x :: l2) :: L) w:=by
  have hx:(f x).ok (hp w):=hS.ok _ (.head _)
  have hb:(Ce f (l1 ++ l2)).ok (hp w):=hS.ok _ (.tail _ (.head _))
  have hpw:=kyu.1 hb.2
  have hd:=kxy.1 hS.disj
  have hd2:=kxy.1 hd.2
  have hax:∀ y∈l1 ++ l2,Apart (f x) (f y):=fun y hy b h1 h2=>hd.1 (Ce f (l1 ++ l2)) (.head _) b h1 ⟨y,hy,h2⟩
  have sub:∀ b,(Ce f (l1 ++ x :: l2)).fp b→(f x).fp b∨(Ce f (l1 ++ l2)).fp b:=fun b ⟨y,hy,hb⟩=>by
    rcases kxi.1 hy with h | h
    · exact .inr ⟨y,by simp [h],hb⟩
    · rcases kxg.1 h with rfl | h
      · exact .inl hb
      · exact .inr ⟨y,by simp [h],hb⟩
  refine ⟨hS.keep,hS.hs,fun A hA=>?_,fun A hA b hb2=>?_,kxy.2 ⟨fun B hB b h1 h2=>?_,hd2.2⟩⟩
  · rcases kxg.1 hA with rfl | hA
    · refine ⟨fun y hy => ?_, kyu.2 ⟨hpw.1, kxy.2 ⟨fun y hy => hax y (by simp [hy]), hpw.2.1⟩, fun y hy z hz => ?_⟩⟩
      · rcases kxi.1 hy with h | h
        · exact hb.1 y (by simp [h])
        · rcases kxg.1 h with rfl | h
          · exact hx
          · exact hb.1 y (by simp [h])
      · rcases kxg.1 hz with rfl | hz
        · exact fun b h1 h2=>hax y (by simp [hy]) b h2 h1
        · exact hpw.2.2 y hy z hz
    · exact hS.ok A (.tail _ (.tail _ hA))
  · rcases kxg.1 hA with rfl | hA
    · rcases sub b hb2 with h | h
      · exact hS.own _ (.head _) b h
      · exact hS.own _ (.tail _ (.head _)) b h
    · exact hS.own A (.tail _ (.tail _ hA)) b hb2
  · rcases sub b h1 with h | h
    · exact hd.1 B (.tail _ hB) b h h2
    · exact hd2.1 B hB b h h2
section
variable {w0:World} {h:PH} (hl:h.le w0) {g:MGh} {k:KS} {l:List (TG×TS)} (ho:(mA g k l).ok (hp w0)) (hd:∀ b,(mA g k l).fp b→h b=none) (hf:MF h g k l)
theorem fpT {i:Nat} (hi:i < l.length) {b:Nat} (hb:(tA l[i]).fp b):(mA g k l).fp b:=⟨Ce tA l,.tail _ (.tail _ (.tail _ (.tail _ (.head _)))),l[i],kxj hi,hb⟩
theorem MF.set {h:PH} {g:MGh} {k:KS} {l:List (TG×TS)} (hf:MF h g k l) {i:Nat} {e:TG×TS} (h1:e.2.C.L.length≤e.1.cC) (h2:SR h e.1.oC e.2.C.L):MF h g k (l.set i e):=
  ⟨hf.lc,hf.lr,hf.kf,fun x hx=>by
    rcases List.mem_or_eq_of_mem_set hx with q | q
    · exact hf.th x q
    · subst q;exact ⟨h1,h2⟩⟩
include hl ho hd hf
theorem Jgy {i:Nat} (hi:i < l.length) {p4 p5 p6:Int} (ok:TOk p4 p5 p6 (l[i].2.th none)) (hz:l[i].2.Fault=0):Tot Tryz.prog 71 #[.pointer (some ⟨l[i].1.tp,0,none⟩)] w0 (fun v w'=>∃ e:TG×TS,v=.tuple #[]∧e.1.tp=l[i].1.tp∧e.1.bp=l[i].1.bp∧e.2=onS l[i].2∧MF h g k (l.set i e)∧Mut w0 (mA g k l) (mA g k (l.set i e)) w'):=by
  obtain ⟨⟨B,hB⟩,_,hQ⟩:=Iw ok hz
  have hth:=hf.th _ (kxj hi)
  refine (Jeq (b2:=l[i].1.tp) (p1:=l[i].2.th (some ⟨l[i].1.bp,0,none⟩)) (oa7:=l[i].1.oR) (cap8:=l[i].1.cR) (oa12:=l[i].1.oN) (cap13:=l[i].1.cN) hl hth.1 hth.2 (Cs _) (Cs _) ((Bz.1 (tok ho hi)).1 (sepA (tK l[i].1 l[i].2)) (.head _)) (fun b hb=>hd b (fpT hi ⟨sepA (tK l[i].1 l[i].2),.head _,hb⟩)) (hB (some ⟨l[i].1.bp,0,none⟩) B (kxb _))).mono fun v w' hR=>?_
  obtain ⟨o1,c1,o2,c2,v2,o3,c3,v3,rfl,q1,q2,q3,q4,hm⟩:=hR
  have e2:=Bu (q3 h);have e3:=Bu (q4 h)
  subst e2;subst e3
  exact ⟨(⟨l[i].1.tp,l[i].1.bp,o1,c1,o2,c2,o3,c3,l[i].1.oQ,l[i].1.cQ⟩,onS l[i].2),rfl,rfl,rfl,rfl,hf.set q1 q2,Mut.thK ho hd hl hi rfl (by unfold tB bCs;rw [hQ]) hm⟩
theorem Jfz {i:Nat} (hi:i < l.length) {oe:Option Addr} {ce:Nat} {E:List api_Op} (hE:(E.length:Int)=0∨Cg E (l[i].2.Regs.length:Int)=true) (hc:E.length≤ce) (hr:SR h oe E):Tot Tryz.prog 77 #[.pointer (some ⟨l[i].1.tp,0,none⟩),.slice oe E.length ce] w0 (fun v w'=>∃ e:TG×TS,v=.tuple #[.int .i64 (Hb E l[i].2.Regs).1,.bool (Hb E l[i].2.Regs).2]∧e.1.tp=l[i].1.tp∧e.1.bp=l[i].1.bp∧e.2=l[i].2∧MF h g k (l.set i e)∧Mut w0 (mA g k l) (mA g k (l.set i e)) w'):=by
  have hth:=hf.th _ (kxj hi)
  refine (Jca (b2:=l[i].1.tp) (p1:=l[i].2.th (some ⟨l[i].1.bp,0,none⟩)) (oa7:=l[i].1.oR) (cap8:=l[i].1.cR) (oa12:=l[i].1.oN) (cap13:=l[i].1.cN) hl hth.1 hth.2 (Cs _) (Cs _) hc hr ((Bz.1 (tok ho hi)).1 (sepA (tK l[i].1 l[i].2)) (.head _)) (fun b hb=>hd b (fpT hi ⟨sepA (tK l[i].1 l[i].2),.head _,hb⟩)) (Jaj (N:=50) (kxb _) (l[i].2.th (some ⟨l[i].1.bp,0,none⟩)) hE)).mono fun v w' hR=>?_
  obtain ⟨o1,c1,o2,c2,v2,o3,c3,v3,rfl,q1,q2,q3,q4,hm⟩:=hR
  have e2:=Bu (q3 h);have e3:=Bu (q4 h)
  subst e2;subst e3
  exact ⟨(⟨l[i].1.tp,l[i].1.bp,o1,c1,o2,c2,o3,c3,l[i].1.oQ,l[i].1.cQ⟩,l[i].2),rfl,rfl,rfl,rfl,hf.set q1 q2,Mut.thK ho hd hl hi rfl rfl hm⟩
theorem JeX {i:Nat} (hi:i < l.length) (hQ:l[i].2.Q.length≤2) (x:api_Entry):Tot Tryz.prog 79 #[.pointer (some ⟨l[i].1.bp,0,none⟩),.agg #[.int .i64 x.Kind,.int .i64 x.Line,.int .i64 x.Cell,.int .i64 x.N]] w0 (fun v w'=>∃ e:TG×TS,v=.int .i64 (Sk l[i].2.Q x).1∧e.1.tp=l[i].1.tp∧e.1.bp=l[i].1.bp∧e.2={ l[i].2 with Q:=(Sk l[i].2.Q x).2 }∧MF h g k (l.set i e)∧Mut w0 (mA g k l) (mA g k (l.set i e)) w'):=by
  have hth:=hf.th _ (kxj hi)
  refine (Jgz (b2:=l[i].1.bp) (p1:=⟨2,l[i].2.Q⟩) (oa3:=l[i].1.oQ) (cap4:=l[i].1.cQ) hl (Je _) ((Bz.1 (tok ho hi)).1 (sepA (tB l[i].1 l[i].2)) (.tail _ (.head _))) (fun b hb=>hd b (fpT hi ⟨sepA (tB l[i].1 l[i].2),.tail _ (.head _),hb⟩)) ((JaG hQ x).2 0)).mono fun v w' hR=>?_
  obtain ⟨o1,c1,v1,rfl,q1,hm⟩:=hR
  have e1:=H9 (q1 h)
  subst e1
  exact ⟨(⟨l[i].1.tp,l[i].1.bp,l[i].1.oC,l[i].1.cC,l[i].1.oR,l[i].1.cR,l[i].1.oN,l[i].1.cN,o1,c1⟩,{ l[i].2 with Q:=(Sk l[i].2.Q x).2 }),rfl,rfl,rfl,rfl,hf.set hth.1 hth.2,Mut.thB ho hd hl hi rfl rfl hm⟩
theorem Jd3 {i:Nat} (hi:i < l.length) (hQ:l[i].2.Q.length≤2) (n:Int):Tot Tryz.prog 73 #[.pointer (some ⟨l[i].1.bp,0,none⟩),.int .i64 n] w0 (fun v w'=>∃ e:TG×TS,v=.tuple #[.agg #[.int .i64 (Bb l[i].2.Q n).1.Kind,.int .i64 (Bb l[i].2.Q n).1.Line,.int .i64 (Bb l[i].2.Q n).1.Cell,.int .i64 (Bb l[i].2.Q n).1.N],.int .i64 (Bb l[i].2.Q n).2.1]∧e.1.tp=l[i].1.tp∧e.1.bp=l[i].1.bp∧e.2={ l[i].2 with Q:=(Bb l[i].2.Q n).2.2 }∧MF h g k (l.set i e)∧Mut w0 (mA g k l) (mA g k (l.set i e)) w'):=by
  have hth:=hf.th _ (kxj hi)
  refine (Jhd (b2:=l[i].1.bp) (p1:=⟨2,l[i].2.Q⟩) (oa3:=l[i].1.oQ) (cap4:=l[i].1.cQ) hl (Je _) ((Bz.1 (tok ho hi)).1 (sepA (tB l[i].1 l[i].2)) (.tail _ (.head _))) (fun b hb=>hd b (fpT hi ⟨sepA (tB l[i].1 l[i].2),.tail _ (.head _),hb⟩)) ((Xt hQ n).2 10 (kxb _))).mono fun v w' hR=>?_
  obtain ⟨o1,c1,v1,rfl,q1,hm⟩:=hR
  have e1:=H9 (q1 h)
  subst e1
  exact ⟨(⟨l[i].1.tp,l[i].1.bp,l[i].1.oC,l[i].1.cC,l[i].1.oR,l[i].1.cR,l[i].1.oN,l[i].1.cN,o1,c1⟩,{ l[i].2 with Q:=(Bb l[i].2.Q n).2.2 }),rfl,rfl,rfl,rfl,hf.set hth.1 hth.2,Mut.thB ho hd hl hi rfl rfl hm⟩
theorem JdX {i:Nat} (hi:i < l.length) (hQ:l[i].2.Q.length≤2) (n:Int):Tot Tryz.prog 78 #[.pointer (some ⟨l[i].1.bp,0,none⟩),.int .i64 n] w0 (fun v w'=>∃ e:TG×TS,v=.tuple #[.int .i64 (He l[i].2.Q n).1,.bool (He l[i].2.Q n).2]∧e.1.tp=l[i].1.tp∧e.1.bp=l[i].1.bp∧e.2=l[i].2∧MF h g k (l.set i e)∧Mut w0 (mA g k l) (mA g k (l.set i e)) w'):=by
  have hth:=hf.th _ (kxj hi)
  refine (JgP (b2:=l[i].1.bp) (p1:=⟨2,l[i].2.Q⟩) (oa3:=l[i].1.oQ) (cap4:=l[i].1.cQ) hl (Je _) ((Bz.1 (tok ho hi)).1 (sepA (tB l[i].1 l[i].2)) (.tail _ (.head _))) (fun b hb=>hd b (fpT hi ⟨sepA (tB l[i].1 l[i].2),.tail _ (.head _),hb⟩)) (JcG hQ n 10 (kxb _))).mono fun v w' hR=>?_
  obtain ⟨o1,c1,v1,rfl,q1,hm⟩:=hR
  have e1:=H9 (q1 h)
  subst e1
  exact ⟨(⟨l[i].1.tp,l[i].1.bp,l[i].1.oC,l[i].1.cC,l[i].1.oR,l[i].1.cR,l[i].1.oN,l[i].1.cN,o1,c1⟩,l[i].2),rfl,rfl,rfl,rfl,hf.set hth.1 hth.2,Mut.thB ho hd hl hi rfl rfl hm⟩
theorem Xk {m:MS} (hi:MInv m) (hs:Sim m k.R) (hw:k.R.W.length≤1000) (cell n:Int):Tot Tryz.prog 74 #[.pointer (some ⟨g.pm,0,none⟩),.int .i64 cell,.int .i64 n] w0 (fun v w'=>∃ kg R,v=.int .i64 (if 0≤cell∧cell < (m.l.length:Int) then 0 else 1)∧Sim (Be m cell n) R∧R.W.length≤k.R.W.length+1∧MF h { g with kg:=kg } { k with R:=R } l∧Mut w0 (mA g k l) (mA { g with kg:=kg } { k with R:=R } l) w'):=by
  refine (Jct hl (mok ho (kA g.pm g.kg k.R) (.tail _ (.tail _ (.tail _ (.head _))))) (fun b hb=>hd b ⟨kA g.pm g.kg k.R,.tail _ (.tail _ (.tail _ (.head _))),hb⟩) hf.kf hi hs hw cell n).mono fun v w' hR=>?_
  obtain ⟨kg,R,rfl,q1,q2,q3,hm⟩:=hR
  exact ⟨kg,R,rfl,q2,q3,⟨hf.lc,hf.lr,q1,hf.th⟩,Mut.mem ho hd hl hm⟩
theorem JeW {m:MS} (hi:MInv m) (hs:Sim m k.R) (hw:k.R.W.length≤1000) (line:Int):Tot Tryz.prog 75 #[.pointer (some ⟨g.pm,0,none⟩),.int .i64 line] w0 (fun v w'=>∃ kg R,v=.int .i64 (if 0≤line∧line < (nlines m:Int) then 0 else 1)∧Sim (Eb m line) R∧R.W.length≤k.R.W.length∧MF h { g with kg:=kg } { k with R:=R } l∧Mut w0 (mA g k l) (mA { g with kg:=kg } { k with R:=R } l) w'):=by
  refine (JfB hl (mok ho (kA g.pm g.kg k.R) (.tail _ (.tail _ (.tail _ (.head _))))) (fun b hb=>hd b ⟨kA g.pm g.kg k.R,.tail _ (.tail _ (.tail _ (.head _))),hb⟩) hf.kf hi hs hw line).mono fun v w' hR=>?_
  obtain ⟨kg,R,rfl,q1,q2,q3,hm⟩:=hR
  exact ⟨kg,R,rfl,q2,q3,⟨hf.lc,hf.lr,q1,hf.th⟩,Mut.mem ho hd hl hm⟩
theorem Jd1 {i:Nat} (hi:i < l.length) (hQ:l[i].2.Q.length≤2):Tot Tryz.prog 36 #[.pointer (some ⟨l[i].1.bp,0,none⟩)] w0 (fun v w'=>∃ (e:TG×TS) (oa:Option Addr) (c:Nat),v=.slice oa (Bt l[i].2.Q).length c∧e.1.tp=l[i].1.tp∧e.1.bp=l[i].1.bp∧e.2=l[i].2∧MF h g k (l.set i e)∧Mut w0 (mA g k l) (sepA [mA g k (l.set i e),sla 3 1 oa (Bt l[i].2.Q).length c (Bj (Bt l[i].2.Q))]) w'):=by
  have hth:=hf.th _ (kxj hi)
  refine (Jgs (b2:=l[i].1.bp) (p1:=⟨2,l[i].2.Q⟩) (oa3:=l[i].1.oQ) (cap4:=l[i].1.cQ) hl (Je _) ((Bz.1 (tok ho hi)).1 (sepA (tB l[i].1 l[i].2)) (.tail _ (.head _))) (fun b hb=>hd b (fpT hi ⟨sepA (tB l[i].1 l[i].2),.tail _ (.head _),hb⟩)) ((N0 hQ).2 10 (kxb _))).mono fun v w' hR=>?_
  obtain ⟨oa,ca,va,o1,c1,v1,rfl,q0,q1,hm⟩:=hR
  have e1:=H9 (q1 h);have e0:=Bu (q0 h)
  subst e1;subst e0
  let e:TG×TS:=(⟨l[i].1.tp,l[i].1.bp,l[i].1.oC,l[i].1.cC,l[i].1.oR,l[i].1.cR,l[i].1.oN,l[i].1.cN,o1,c1⟩,l[i].2)
  refine ⟨e,oa,ca,rfl,rfl,rfl,rfl,hf.set hth.1 hth.2,?_⟩
  have hS:St w0 (mA g k l).fp [h] (mL g k l) w0:=.startL (by simpa using hl) ho (fun b hb x hx=>by simp at hx;subst hx;exact hd b hb)
  have hle:l=l.take i ++ l[i] :: l.drop (i+1):=by rw [kwn,kys]
  have hse:l.set i e=l.take i ++ e :: l.drop (i+1):=kwo.trans (if_pos hi)
  have ep:En (l.set i e)=En l:=by
    unfold En
    rw [kzt]
    refine kyv (by simp) fun j h1 h2=>?_
    rw [kzh]
    split
    · rename_i q;subst q;simp [e]
    · rfl
  have h1:=hS.pickL (.cons (.tail (.tail (.tail (.tail .head)))) (.cons .head (.cons .head (.cons .head (.cons .head .nil)))))
  rw [show Ce tA l=Ce tA (l.take i ++ l[i] :: l.drop (i+1)) from congrArg (Ce tA) hle] at h1
  have h2:=(St.bigTake h1)
  have h3:St w0 _ [h] ([sepA (tK l[i].1 l[i].2),sepA (tB l[i].1 l[i].2)] ++ _) w0:=St.unsep (K:=tL l[i]) h2
  have h4:=h3.mut hm (.tail .head)
  have h5:=h4.pickL (.cons (.tail .head) (.cons .head (.cons .head (.cons .head (.cons .head (.cons .head (.cons .head .nil)))))))
  have h6:=h5.unsep
  have h7:=St.sep (tB e.1 e.2) h6
  have h8:=h7.pickL (.cons (.tail (.tail .head)) (.cons .head (.cons (.tail .head) (.cons (.tail .head) (.cons (.tail .head) (.cons (.tail .head) (.cons (.tail .head) (.cons .head .nil))))))))
  have h9:=St.sep (tL e) h8
  have h10:=St.bigPut (f:=tA) (x:=e) h9
  rw [← hse] at h10
  have h11:=h10.pickL (.cons (.tail .head) (.cons (.tail .head) (.cons (.tail .head) (.cons (.tail .head) (.cons .head (.cons .head .nil))))))
  rw [← ep,← show (l.set i e).length=l.length from kxr] at h11
  exact (St.sep (mL g k (l.set i e)) h11).endMut
end
end Go.LM.SWAPS
namespace Go.MD.SWAPS
open Go Go.MD Go.LL
def Hn (lk:List Int) (x:TS) (y:api_Instr):Bool:=
  if x.Fault≠0∨y.Kind=2 then true
  else if y.Kind=3∨y.Kind=5∨y.Kind=6∨y.Kind=7 then decide ((x.Q.length:Int) < 2)
  else decide ((x.Q.length:Int)=0) && (decide (y.Kind≠9) || decide (lk.getD y.B.toNat 0 = -1))
def Mo (lk:List Int) (x:TS):Bool:=match getI x.C.L x.At with | some y=>Hn lk x y | none=>false
theorem Br {lk:List Int} {x:TS} {y:api_Instr} (h:getI x.C.L x.At=some y):Mo lk x=Hn lk x y:=by unfold Mo;rw [h]
theorem Dq {lk:List Int} {x:TS} (h:(x.C.L.length:Int)≤x.At):Mo lk x=false:=by
  have:getI x.C.L x.At=none:=by
    cases hg:getI x.C.L x.At with
    | none=>rfl
    | some y=>have:=Lr hg;omega
  unfold Mo;rw [this]
def Ib (x:api_Pick):List Value:=[.int .i64 x.Kind,.int .i64 x.T,.int .i64 x.I,.slice none 0 0]
noncomputable def Is (lk:List Int) (i:Int) (x:TS):List api_Pick:=(if Mo lk x=true then [⟨1,i,0,[]⟩] else []) ++ (Bt x.Q).map fun j=>⟨2,i,j,[]⟩
noncomputable def Ci (lk:List Int):Int→List TS→List api_Pick
  | _,[]=>[]
  | i,x :: r=>Is lk i x ++ Ci lk (i+1) r
noncomputable def Er (lk:List Int) (fault:Int) (L:List TS):List api_Pick:=if fault=0 then Ci lk 0 L else []
end Go.MD.SWAPS
namespace Go.LM.SWAPS
open Go Go.LL Go.MD Go.LM Go.Proofs Go.MD.SWAPS
section
variable {h:PH} {g:MGh} {k:KS} {l:List (TG×TS)}
theorem JbU {h:PH} (ho:(mA g k l).ok h) {e:TG×TS} (he:e∈l):(tA e).ok h:=(mok ho (Ce tA l) (.tail _ (.tail _ (.tail _ (.tail _ (.head _)))))).1 _ he
theorem Aw (ho:(mA g k l).ok h) {o:Nat} {v:Value} (hv:nth (mCs g k l.length) o=some v):h.cell? ⟨g.p,o,none⟩=some v:=Ii (mok ho (blk g.p _) (.head _)) hv
theorem Az (ho:(mA g k l).ok h) {e:TG×TS} (he:e∈l) {o:Nat} {v:Value} (hv:nth (tCs e.1 e.2) o=some v):h.cell? ⟨e.1.tp,o,none⟩=some v:=
  Ii ((Bz.1 ((Bz.1 (JbU ho he)).1 (sepA (tK e.1 e.2)) (.head _))).1 (blk e.1.tp _) (.head _)) hv
theorem Ov (ho:(mA g k l).ok h) {e:TG×TS} (he:e∈l) {o:Nat} {v:Value} (hv:nth (bCs e.1 e.2) o=some v):h.cell? ⟨e.1.bp,o,none⟩=some v:=
  Ii ((Bz.1 ((Bz.1 (JbU ho he)).1 (sepA (tB e.1 e.2)) (.tail _ (.head _)))).1 (blk e.1.bp _) (.head _)) hv
theorem Yk (ho:(mA g k l).ok h):h.cell? ⟨g.pm,2,none⟩=some (.slice g.kg.lo k.R.L.length g.kg.cl):=
  Ii ((Bz.1 (mok ho (kA g.pm g.kg k.R) (.tail _ (.tail _ (.tail _ (.head _)))))).1 (blk g.pm _) (.head _)) rfl
end
end Go.LM.SWAPS
namespace Go.LM.SWAPS
open Go Go.LL Go.MD Go.LM Go.Proofs Go.MD.SWAPS
theorem Yy:(Tryz.prog.info? 52).map (fun i=>(i.zero,i.size,i.bytes))=some (some (.agg #[.int .i64 0,.int .i64 0,.int .i64 0,.slice none 0 0]),4,48):=by kernel_rfl
def Cw (l:List api_Pick):List Value:=l.flatMap Ib
theorem Hu (x:api_Pick):(Ib x).length=4:=rfl
theorem Mn (l:List api_Pick):(Cw l).length=l.length * 4:=flat_len Hu l
theorem Mw (a b:List api_Pick):Cw a ++ Cw b=Cw (a ++ b):=by simp [Cw]
theorem Mm (l:List api_Pick):∀ v∈Cw l,v.oneCell'=true:=by
  intro v hv
  obtain ⟨x,_,hx⟩:=List.mem_flatMap.1 hv
  simp [Ib] at hx
  rcases hx with rfl | rfl | rfl | rfl <;> rfl
theorem Hw {l:List api_Pick} (h:0 < l.length):Cw l≠[]:=Ja5 Hu (by omega) h
theorem Mi {l:List api_Pick} {k:Nat} (h:k < l.length):∀ (j:Nat) (v:Value),(Ib l[k])[j]? = some v→(Cw l)[k * 4+j]? = some v:=Jdi Hu h
theorem Hl {l:List (TG×TS)} {i:Nat} {e:TG×TS} (h:l[i]? = some e):(En l)[i * 1]? = some (.pointer (some ⟨e.1.tp,0,none⟩)):=by simp [En,h]
theorem Jbd {α:Type} {l:List α} {i:Nat} {e:α} (h:l[i]? = some e):i < l.length:=(kxn.1 h).1
theorem Au {α:Type} {l:List α} {i:Nat} {e:α} (h:l[i]? = some e):e∈l:=kyk h
theorem Ur {l:List (TG×TS)} {i:Nat} {e e2:TG×TS} (h:l[i]? = some e) (h2:e2.2=e.2):(l.set i e2).map (·.2)=l.map (·.2):=by
  rw [kzt]
  obtain ⟨hi,rfl⟩:=kxn.1 h
  refine kyv (by simp) fun j h1 h3=>?_
  rw [kzh]
  split
  · rename_i q;subst q;simp [h2]
  · rfl
theorem Gz {l:List (TG×TS)} {i:Nat} {e e2:TG×TS} (h:l[i]? = some e):(l.set i e2)[i]? = some e2:=by simp [Jbd h]
section
variable {w0:World} {h:PH} (hl:h.le w0) {g:MGh} {k:KS} {l:List (TG×TS)} (ho:(mA g k l).ok (hp w0)) (hd:∀ b,(mA g k l).fp b→h b=none) (hf:MF h g k l) {i:Nat} {e:TG×TS} (he:l[i]? = some e)
include hl ho hd hf he
theorem JfY {p4 p5 p6:Int} (ok:TOk p4 p5 p6 (e.2.th none)) (hz:e.2.Fault=0):Tot Tryz.prog 71 #[.pointer (some ⟨e.1.tp,0,none⟩)] w0 (fun v w'=>∃ e2:TG×TS,v=.tuple #[]∧e2.1.tp=e.1.tp∧e2.1.bp=e.1.bp∧e2.2=onS e.2∧MF h g k (l.set i e2)∧Mut w0 (mA g k l) (mA g k (l.set i e2)) w'):=by
  obtain ⟨hi,rfl⟩:=kxn.1 he
  exact Jgy hl ho hd hf hi ok hz
theorem Jcp {oe:Option Addr} {ce:Nat} {E:List api_Op} (hE:(E.length:Int)=0∨Cg E (e.2.Regs.length:Int)=true) (hc:E.length≤ce) (hr:SR h oe E):Tot Tryz.prog 77 #[.pointer (some ⟨e.1.tp,0,none⟩),.slice oe E.length ce] w0 (fun v w'=>∃ e2:TG×TS,v=.tuple #[.int .i64 (Hb E e.2.Regs).1,.bool (Hb E e.2.Regs).2]∧e2.1.tp=e.1.tp∧e2.1.bp=e.1.bp∧e2.2=e.2∧MF h g k (l.set i e2)∧Mut w0 (mA g k l) (mA g k (l.set i e2)) w'):=by
  obtain ⟨hi,rfl⟩:=kxn.1 he
  exact Jfz hl ho hd hf hi hE hc hr
theorem Vh (hQ:e.2.Q.length≤2) (x:api_Entry):Tot Tryz.prog 79 #[.pointer (some ⟨e.1.bp,0,none⟩),.agg #[.int .i64 x.Kind,.int .i64 x.Line,.int .i64 x.Cell,.int .i64 x.N]] w0 (fun v w'=>∃ e2:TG×TS,v=.int .i64 (Sk e.2.Q x).1∧e2.1.tp=e.1.tp∧e2.1.bp=e.1.bp∧e2.2={ e.2 with Q:=(Sk e.2.Q x).2 }∧MF h g k (l.set i e2)∧Mut w0 (mA g k l) (mA g k (l.set i e2)) w'):=by
  obtain ⟨hi,rfl⟩:=kxn.1 he
  exact JeX hl ho hd hf hi hQ x
theorem JdE (hQ:e.2.Q.length≤2) (n:Int):Tot Tryz.prog 73 #[.pointer (some ⟨e.1.bp,0,none⟩),.int .i64 n] w0 (fun v w'=>∃ e2:TG×TS,v=.tuple #[.agg #[.int .i64 (Bb e.2.Q n).1.Kind,.int .i64 (Bb e.2.Q n).1.Line,.int .i64 (Bb e.2.Q n).1.Cell,.int .i64 (Bb e.2.Q n).1.N],.int .i64 (Bb e.2.Q n).2.1]∧e2.1.tp=e.1.tp∧e2.1.bp=e.1.bp∧e2.2={ e.2 with Q:=(Bb e.2.Q n).2.2 }∧MF h g k (l.set i e2)∧Mut w0 (mA g k l) (mA g k (l.set i e2)) w'):=by
  obtain ⟨hi,rfl⟩:=kxn.1 he
  exact Jd3 hl ho hd hf hi hQ n
theorem JdI (hQ:e.2.Q.length≤2) (n:Int):Tot Tryz.prog 78 #[.pointer (some ⟨e.1.bp,0,none⟩),.int .i64 n] w0 (fun v w'=>∃ e2:TG×TS,v=.tuple #[.int .i64 (He e.2.Q n).1,.bool (He e.2.Q n).2]∧e2.1.tp=e.1.tp∧e2.1.bp=e.1.bp∧e2.2=e.2∧MF h g k (l.set i e2)∧Mut w0 (mA g k l) (mA g k (l.set i e2)) w'):=by
  obtain ⟨hi,rfl⟩:=kxn.1 he
  exact JdX hl ho hd hf hi hQ n
theorem JaB (hQ:e.2.Q.length≤2):Tot Tryz.prog 36 #[.pointer (some ⟨e.1.bp,0,none⟩)] w0 (fun v w'=>∃ (e2:TG×TS) (oa:Option Addr) (c:Nat),v=.slice oa (Bt e.2.Q).length c∧e2.1.tp=e.1.tp∧e2.1.bp=e.1.bp∧e2.2=e.2∧MF h g k (l.set i e2)∧Mut w0 (mA g k l) (sepA [mA g k (l.set i e2),sla 3 1 oa (Bt e.2.Q).length c (Bj (Bt e.2.Q))]) w'):=by
  obtain ⟨hi,rfl⟩:=kxn.1 he
  exact Jd1 hl ho hd hf hi hQ
end
theorem St.unsep2 {w0 w:World} {M:Nat→Prop} {Hs:List PH} {A B:HA} {L:List HA} (hS:St w0 M Hs (sepA [A,B] :: L) w):St w0 M Hs (A :: B :: L) w:=hS.unsep
end Go.LM.SWAPS
namespace Go.MD.SWAPS
open Go Go.MD Go.LL
theorem Qi (lk:List Int):∀ (a b:List TS) (i:Int),Ci lk i (a ++ b)=Ci lk i a ++ Ci lk (i+a.length) b
  | [],b,i=>by simp [Ci]
  | x :: r, b, i => by
    rw [kzx,Ci,Ci,Qi lk r b,kxw]
    congr 3
    simp only [kxz];omega
theorem Xp {lk:List Int} {xs:List TS} {i:Nat} {x:TS} (h:xs[i]? = some x):Ci lk 0 (xs.take (i+1))=Ci lk 0 (xs.take i) ++ Is lk (i:Int) x:=by
  obtain ⟨hi,rfl⟩:=kxn.1 h
  rw [kyi hi,Qi,kyg,kwf (by omega)]
  simp [Ci]
theorem Ja0 {lk:List Int} {i:Int} {x:TS} (hQ:x.Q.length≤2):(Is lk i x).length≤3:=by
  have:=(N0 hQ).1
  unfold Is
  split <;> simp <;> omega
theorem Mp {lk:List Int}:∀ {xs:List TS} {i:Int},(∀ x∈xs,x.Q.length≤2)→(Ci lk i xs).length≤3 * xs.length
  | [],_,_=>kxb _
  | x :: r, i, h => by
    have h1:=Ja0 (lk:=lk) (i:=i) (h x (.head _))
    have h2:=Mp (lk:=lk) (xs:=r) (i:=i+1) (fun y hy=>h y (.tail _ hy))
    rw [Ci,kxk,kxz];omega
end Go.MD.SWAPS
namespace Go.MD.SWAPS
open Go Go.MD Go.LL
structure TW (lk:List Int) (x:TS):Prop where
  at0:0≤x.At
  lock:∀ y,getI x.C.L x.At=some y→y.Kind=9→0≤y.B∧y.B.toNat < lk.length
  q:x.Q.length≤2
theorem Sz {lk:List Int} {fault:Int} {xs:List TS} {i:Nat} (h0:0 < i→fault=0) (h:xs.length≤i∨fault≠0):Ci lk 0 (xs.take i)=Er lk fault xs:=by
  unfold Er
  by_cases f:fault=0
  · rw [if_pos f,kzp (by rcases h with h | h;exact h;exact absurd f h)]
  · rw [if_neg f, show i = 0 by rcases kyz i with z | z; exact z; exact absurd (h0 z) f]
    rfl
def Hp (i:Nat) (q:Int):api_Pick:=⟨2,(i:Int),q,[]⟩
def Ru (i:Nat):api_Pick:=⟨1,(i:Int),0,[]⟩
theorem K9 {cs:List Int} {i j:Nat} (h:j < cs.length):(cs.take j).map (Hp i) ++ [Hp i (cs[j]'h)]=(cs.take (j+1)).map (Hp i):=by
  rw [kyi h,kyp];rfl
theorem Qs {lk:List Int} {xs:List TS} {i j:Nat} {x:TS} (h:xs[i]? = some x) {A:List api_Pick} (hA:A=Ci lk 0 (xs.take i) ++ (if Mo lk x=true then [Ru i] else [])) (hj:(Bt x.Q).length≤j):A ++ ((Bt x.Q).take j).map (Hp i)=Ci lk 0 (xs.take (i+1)):=by
  rw [hA,kzp hj,Xp h,Is,kxw]
  rfl
end Go.MD.SWAPS
namespace Go.LM.SWAPS
open Go Go.LL Go.MD Go.LM Go.Proofs Go.MD.SWAPS
theorem Jk:∀ L:List HA,PickL L L
  | []=>.nil
  | _ :: L=>.cons .head (Jk L)
section
variable {w0 w:World} {h:PH} {M:Nat→Prop} {g:MGh} {k:KS} {l:List (TG×TS)} {L:List HA} {i:Nat} {e:TG×TS}
def restK (g:MGh) (k:KS) (l:List (TG×TS)) (i:Nat) (e:TG×TS):HA:=sepA [sepA (tB e.1 e.2),Ce tA (l.take i ++ l.drop (i+1)),blk g.p (.cells (mCs g k l.length).toArray 66 (0,0)),sla 3 1 g.ol k.Lk.length g.cl (Bj k.Lk),sla 105 1 g.op l.length g.cp (En l),kA g.pm g.kg k.R]
theorem Nh (he:l[i]? = some e):l=l.take i ++ e :: l.drop (i+1):=by
  obtain ⟨hi,rfl⟩:=kxn.1 he
  rw [kwn,kys]
theorem Ts (he:l[i]? = some e) (e2:TG×TS):l.set i e2=l.take i ++ e2 :: l.drop (i+1):=kwo.trans (if_pos (Jbd he))
theorem Wc (he:l[i]? = some e) {e2:TG×TS} (h:e2.1.tp=e.1.tp):En (l.set i e2)=En l:=by
  unfold En
  rw [kzt]
  obtain ⟨hi,rfl⟩:=kxn.1 he
  refine kyv (by simp) fun j h1 h2=>?_
  rw [kzh]
  split
  · rename_i q;subst q;simp [h]
  · rfl
theorem JeC (hS:St w0 M [h] (mA g k l :: L) w) (he:l[i]? = some e):St w0 M [h] (tK e.1 e.2 ++ (restK g k l i e :: L)) w:=by
  have h0:St w0 M [h] (mL g k l ++ L) w:=hS.unsep
  have h1:=h0.pickL (L':=Ce tA l :: blk g.p (.cells (mCs g k l.length).toArray 66 (0,0)) :: sla 3 1 g.ol k.Lk.length g.cl (Bj k.Lk) :: sla 105 1 g.op l.length g.cp (En l) :: kA g.pm g.kg k.R :: L) (.cons (.tail (.tail (.tail (.tail .head)))) (.cons .head (.cons .head (.cons .head (.cons .head (Jk L))))))
  rw [show Ce tA l=Ce tA (l.take i ++ e :: l.drop (i+1)) from congrArg (Ce tA) (Nh he)] at h1
  have h2:=St.bigTake h1
  have h3:St w0 M [h] (tL e ++ _) w:=St.unsep (K:=tL e) h2
  have h4:St w0 M [h] (tK e.1 e.2 ++ _) w:=St.unsep (K:=tK e.1 e.2) h3
  have h5:=h4.pickL (L':=[sepA (tB e.1 e.2),Ce tA (l.take i ++ l.drop (i+1)),blk g.p (.cells (mCs g k l.length).toArray 66 (0,0)),sla 3 1 g.ol k.Lk.length g.cl (Bj k.Lk),sla 105 1 g.op l.length g.cp (En l),kA g.pm g.kg k.R] ++ (tK e.1 e.2 ++ L))
    (.cons (.tail (.tail (.tail .head))) (.cons (.tail (.tail (.tail .head))) (.cons (.tail (.tail (.tail .head))) (.cons (.tail (.tail (.tail .head))) (.cons (.tail (.tail (.tail .head))) (.cons (.tail (.tail (.tail .head))) (.cons .head (.cons .head (.cons .head (Jk L))))))))))
  have h6:=St.sep [sepA (tB e.1 e.2),Ce tA (l.take i ++ l.drop (i+1)),blk g.p (.cells (mCs g k l.length).toArray 66 (0,0)),sla 3 1 g.ol k.Lk.length g.cl (Bj k.Lk),sla 105 1 g.op l.length g.cp (En l),kA g.pm g.kg k.R] h5
  exact h6.pickL (L':=tK e.1 e.2 ++ (restK g k l i e :: L)) (.cons (.tail .head) (.cons (.tail .head) (.cons (.tail .head) (.cons .head (Jk L)))))
theorem Jcj {e2:TG×TS} (he:l[i]? = some e) (htp:e2.1.tp=e.1.tp) (htB:tB e2.1 e2.2=tB e.1 e.2) (hS:St w0 M [h] (tK e2.1 e2.2 ++ (restK g k l i e :: L)) w):St w0 M [h] (mA g k (l.set i e2) :: L) w:=by
  have h1:=hS.pickL (L':=restK g k l i e :: (tK e2.1 e2.2 ++ L)) (.cons (.tail (.tail (.tail .head))) (.cons .head (.cons .head (.cons .head (Jk L)))))
  have h2:=h1.unsep
  have h3:=h2.pickL (L':=tK e2.1 e2.2 ++ ([sepA (tB e.1 e.2),Ce tA (l.take i ++ l.drop (i+1)),blk g.p (.cells (mCs g k l.length).toArray 66 (0,0)),sla 3 1 g.ol k.Lk.length g.cl (Bj k.Lk),sla 105 1 g.op l.length g.cp (En l),kA g.pm g.kg k.R] ++ L))
    (.cons (.tail (.tail (.tail (.tail (.tail (.tail .head)))))) (.cons (.tail (.tail (.tail (.tail (.tail (.tail .head)))))) (.cons (.tail (.tail (.tail (.tail (.tail (.tail .head)))))) (.cons .head (.cons .head (.cons .head (.cons .head (.cons .head (.cons .head (Jk L))))))))))
  have h4:=St.sep (tK e2.1 e2.2) h3
  rw [← htB] at h4
  have h5:=St.sep (tL e2) h4
  have h6:=St.bigPut (f:=tA) (x:=e2) h5
  rw [← Ts he e2] at h6
  have h7:=h6.pickL (L':=[blk g.p (.cells (mCs g k l.length).toArray 66 (0,0)),sla 3 1 g.ol k.Lk.length g.cl (Bj k.Lk),sla 105 1 g.op l.length g.cp (En l),kA g.pm g.kg k.R,Ce tA (l.set i e2)] ++ L) (.cons (.tail .head) (.cons (.tail .head) (.cons (.tail .head) (.cons (.tail .head) (.cons .head (Jk L))))))
  rw [← Wc he htp,← show (l.set i e2).length=l.length from kxr] at h7
  exact St.sep (mL g k (l.set i e2)) h7
variable {ops:Array Oper} {Q:Exit→Act→World→Prop} {a:Act} {N:FN} {F:List (Nat×Value)} {K:Act→World→Prop} {ty:TypeId} {pos:String} {af:Array Edge}
theorem JgU {x y:Operand} {j:Nat} {v:Int} (hF:Fr N F a) (hS:St w0 M [h] (mA g k l :: L) w) (he:l[i]? = some e)
    (hx:opv F x=some (.pointer (some ⟨(adr e.1.oR).block,(adr e.1.oR).off+j * 1,none⟩))) (hy:opv F y=some (.int .i64 v)) (hj:j < e.2.Regs.length)
    (kk:∀ w,St w0 M [h] (mA g k (l.set i (e.1,{ e.2 with Regs:=e.2.Regs.set j v })) :: L) w→K a w):stp Tryz.prog ops Q ⟨none,.store 3 x y,ty,pos,af,none⟩ a w K:=by
  refine Jf6 (i:=j * 1) hF (JeC hS he) Tryz.sizeOf3 hx hy rfl rfl (.tail .head) (by simp [Bj];omega) fun w hS=>kk w ?_
  rw [Ra] at hS
  refine Jcj (e2:=(e.1,{ e.2 with Regs:=e.2.Regs.set j v })) he rfl rfl ?_
  unfold tK tCs
  simp only [kxr]
  exact hS
theorem Jhs {x y:Operand} {v:Int} (hF:Fr N F a) (hS:St w0 M [h] (mA g k l :: L) w) (he:l[i]? = some e)
    (hx:opv F x=some (.pointer (some ⟨e.1.tp,3,none⟩))) (hy:opv F y=some (.int .i64 v))
    (kk:∀ w,St w0 M [h] (mA g k (l.set i (e.1,{ e.2 with At:=v })) :: L) w→K a w):stp Tryz.prog ops Q ⟨none,.store 3 x y,ty,pos,af,none⟩ a w K:=by
  refine Bl hF (JeC hS he) Tryz.sizeOf3 hx hy rfl rfl .head (.succ (.succ (.succ .zero))) fun w hS=>kk w ?_
  exact Jcj (e2:=(e.1,{ e.2 with At:=v })) he rfl rfl hS
theorem Jcb {x y:Operand} {j:Nat} {v:Int} (hF:Fr N F a) (hS:St w0 M [h] (mA g k l :: L) w)
    (hx:opv F x=some (.pointer (some ⟨(adr g.ol).block,(adr g.ol).off+j * 1,none⟩))) (hy:opv F y=some (.int .i64 v)) (hj:j < k.Lk.length)
    (kk:∀ w,St w0 M [h] (mA g { k with Lk:=k.Lk.set j v } l :: L) w→K a w):stp Tryz.prog ops Q ⟨none,.store 3 x y,ty,pos,af,none⟩ a w K:=by
  have h0:St w0 M [h] (mL g k l ++ L) w:=hS.unsep
  refine Jf6 (i:=j * 1) hF h0 Tryz.sizeOf3 hx hy rfl rfl (.tail .head) (by simp [Bj];omega) fun w hS=>kk w ?_
  rw [Ra] at hS
  refine St.sep (mL g { k with Lk:=k.Lk.set j v } l) ?_
  unfold mL mCs
  simp only [kxr]
  exact hS
theorem Jdz {x y:Operand} {v:Int} (hF:Fr N F a) (hS:St w0 M [h] (mA g k l :: L) w)
    (hx:opv F x=some (.pointer (some ⟨g.p,14,none⟩))) (hy:opv F y=some (.int .i64 v))
    (kk:∀ w,St w0 M [h] (mA g { k with Fault:=v } l :: L) w→K a w):stp Tryz.prog ops Q ⟨none,.store 3 x y,ty,pos,af,none⟩ a w K:=by
  have h0:St w0 M [h] (mL g k l ++ L) w:=hS.unsep
  refine Bl hF h0 Tryz.sizeOf3 hx hy rfl rfl .head (.succ (.succ (.succ (.succ (.succ (.succ (.succ (.succ (.succ (.succ (.succ (.succ (.succ (.succ .zero)))))))))))))) fun w hS=>kk w ?_
  exact St.sep (mL g { k with Fault:=v } l) hS
theorem Jci {x y:Operand} {v:Int} (hF:Fr N F a) (hS:St w0 M [h] (mA g k l :: L) w)
    (hx:opv F x=some (.pointer (some ⟨g.p,15,none⟩))) (hy:opv F y=some (.int .i64 v))
    (kk:∀ w,St w0 M [h] (mA g { k with Faulty:=v } l :: L) w→K a w):stp Tryz.prog ops Q ⟨none,.store 3 x y,ty,pos,af,none⟩ a w K:=by
  have h0:St w0 M [h] (mL g k l ++ L) w:=hS.unsep
  refine Bl hF h0 Tryz.sizeOf3 hx hy rfl rfl .head (.succ (.succ (.succ (.succ (.succ (.succ (.succ (.succ (.succ (.succ (.succ (.succ (.succ (.succ (.succ .zero))))))))))))))) fun w hS=>kk w ?_
  exact St.sep (mL g { k with Faulty:=v } l) hS
end
end Go.LM.SWAPS
namespace Go.MD.SWAPS
open Go Go.MD Go.LL
structure Eff where
  ev:api_Event
  m:MS
  lk:List Int
  ft:Int
  fy:Int
  x:TS
noncomputable def done (x:TS):TS:=onS { x with At:=x.At+1 }
noncomputable def Qk (m:MS) (x:TS) (y:api_Instr):Int:=if (He x.Q y.B).2=true then (He x.Q y.B).1 else m.l.getD y.B.toNat 0
noncomputable def Sg (x:TS) (e:api_Entry):TS:={ x with Q:=(Sk x.Q e).2 }
noncomputable def Cc (i:Int) (lines:List Int) (m:MS) (lk:List Int) (ft fy:Int) (x:TS) (y:api_Instr):Eff:=
  if y.Kind=2 then ⟨⟨if (He x.Q y.B).2=true then 2 else 1,i,y.B,Qk m x y,0⟩,m,lk,ft,fy,done { x with Regs:=x.Regs.set y.A.toNat (Qk m x y) }⟩
  else if y.Kind=3 then ⟨⟨3,i,y.B,(Hb y.E x.Regs).1,0⟩,m,lk,ft,fy,done (Sg x ⟨3,lines.getD y.B.toNat 0,y.B,(Hb y.E x.Regs).1⟩)⟩
  else if y.Kind=5 then ⟨⟨4,i,y.B,0,0⟩,m,lk,ft,fy,done (Sg x ⟨5,y.B,0,0⟩)⟩
  else if y.Kind=6 then ⟨⟨5,i,y.B,0,0⟩,m,lk,ft,fy,done (Sg x ⟨6,y.B,0,0⟩)⟩
  else if y.Kind=7 then ⟨⟨6,i,y.B,0,0⟩,m,lk,ft,fy,done (Sg x ⟨7,0,0,0⟩)⟩
  else if y.Kind=8 then ⟨⟨7,i,y.B,0,0⟩,m,lk,ft,fy,done x⟩
  else if y.Kind=4 then
    (if m.l.getD y.B.toNat 0 = (Hb y.E x.Regs).1 then ⟨⟨8, i, y.B, m.l.getD y.B.toNat 0, (Hb y.F x.Regs).1⟩, Be m y.B (Hb y.F x.Regs).1, lk, ft, fy, done { x with Regs := x.Regs.set y.A.toNat (m.l.getD y.B.toNat 0) }⟩
     else ⟨⟨9,i,y.B,m.l.getD y.B.toNat 0,0⟩,m,lk,ft,fy,done { x with Regs:=x.Regs.set y.A.toNat (m.l.getD y.B.toNat 0) }⟩)
  else if y.Kind=9 then ⟨⟨10,i,y.B,0,0⟩,m,lk.set y.B.toNat i,ft,fy,done x⟩
  else if lk.getD y.B.toNat 0=i then ⟨⟨11,i,y.B,0,0⟩,m,lk.set y.B.toNat (-1),ft,fy,done x⟩
  else ⟨⟨16,i,3,0,0⟩,m,lk,3,i,x⟩
noncomputable def Di (i:Int) (lines:List Int) (m:MS) (lk:List Int) (ft fy:Int) (x:TS):Eff:=
  if x.Fault=0 then (match getI x.C.L x.At with | some y=>Cc i lines m lk ft fy x y | none=>⟨⟨0,0,0,0,0⟩,m,lk,ft,fy,x⟩)
  else ⟨⟨16,i,x.Fault,0,0⟩,m,lk,x.Fault,i,x⟩
noncomputable def Mq (i n:Int) (m:MS) (lk:List Int) (ft fy:Int) (x:TS):Eff:=
  if (Bb x.Q n).1.Kind=3 then ⟨⟨12,i,(Bb x.Q n).1.Cell,(Bb x.Q n).1.N,0⟩,Be m (Bb x.Q n).1.Cell (Bb x.Q n).1.N,lk,ft,fy,{ x with Q:=(Bb x.Q n).2.2 }⟩
  else if (Bb x.Q n).1.Kind=7 then ⟨⟨14,i,0,0,0⟩,m,lk,ft,fy,{ x with Q:=(Bb x.Q n).2.2 }⟩
  else ⟨⟨13,i,(Bb x.Q n).1.Line,0,0⟩,Eb m (Bb x.Q n).1.Line,lk,ft,fy,{ x with Q:=(Bb x.Q n).2.2 }⟩
theorem Ed {i:Int} {lines:List Int} {m:MS} {lk:List Int} {ft fy:Int} {x:TS} {y:api_Instr} (h0:x.Fault=0) (hy:getI x.C.L x.At=some y):Di i lines m lk ft fy x=Cc i lines m lk ft fy x y:=by
  unfold Di;rw [if_pos h0,hy]
end Go.MD.SWAPS
namespace Go.LM.SWAPS
open Go Go.LL Go.MD Go.LM Go.Proofs Go.MD.SWAPS
def evC (x:api_Event):List Value:=[.int .i64 x.Kind,.int .i64 x.T,.int .i64 x.A,.int .i64 x.N,.int .i64 x.M]
structure Aft (h:PH) (g:MGh) (k:KS) (l:List (TG×TS)) (i:Nat) (r:Eff) (g2:MGh) (k2:KS) (l2:List (TG×TS)):Prop where
  u:k2.U=k.U
  cr:k2.Crashed=k.Crashed
  sim:Sim r.m k2.R
  wl:k2.R.W.length≤k.R.W.length+1
  lk:k2.Lk=r.lk
  ft:k2.Fault=r.ft
  fy:k2.Faulty=r.fy
  l:l2.map (·.2)=(l.map (·.2)).set i r.x
  p:g2.p=g.p
  pm:g2.pm=g.pm
  mf:MF h g2 k2 l2
theorem Iv {l l1:List (TG×TS)} {i:Nat} {x:TS} {e2:TG×TS} (hX:l1.map (·.2)=(l.map (·.2)).set i x):(l1.set i e2).map (·.2)=(l.map (·.2)).set i e2.2:=by
  rw [kzt,hX,List.set_set]
theorem X0 {l:List (TG×TS)} {i:Nat} {e:TG×TS} (he:l[i]? = some e):l.map (·.2)=(l.map (·.2)).set i e.2:=by
  obtain ⟨hi,rfl⟩:=kxn.1 he
  refine kyv (by simp) fun j h1 h2=>?_
  rw [kzh]
  split
  · rename_i q;subst q;simp
  · rfl
end Go.LM.SWAPS
namespace Go.MD.SWAPS
open Go Go.MD Go.LL
theorem Ea {p4 p5 p6:Int} {x x2:TS} (ok:TOk p4 p5 p6 (x.th none)) (hlt:x.At < (x.C.L.length:Int)) (hC:x2.C=x.C) (hA:x2.At=x.At) (hR:x2.Regs.length=x.Regs.length) (hN:x2.Counts=x.Counts):TOk p4 p5 p6 (({ x2 with At:=x2.At+1 }:TS).th none):=by
  have h0:=ok.at0
  refine ⟨?_,?_,?_,?_,?_,?_,?_,?_⟩
  · show Df x2.C p4 p5 p6=true;rw [hC];exact ok.code
  · show R.oneC x2.C;rw [hC];exact ok.one
  · show 0≤x2.At+1;rw [hA];have:0≤x.At:=h0;omega
  · show x2.At+1≤(x2.C.L.length:Int);rw [hA,hC];omega
  · show (x2.Regs.length:Int)=x2.C.Regs;rw [hR,hC];exact ok.regs
  · show (x2.Counts.length:Int)=x2.C.Counts;rw [hN,hC];exact ok.cnts
  · show SWM.InB x2.Counts;rw [hN];exact ok.inb
  · show x2.C.L.length≤80;rw [hC];exact ok.len
end Go.MD.SWAPS
namespace Go.LM.SWAPS
open Go Go.LL Go.MD Go.LM Go.Proofs Go.MD.SWAPS
theorem Tl {h:PH} {oa:Option Addr} {xs:List Int} (hr:SR h oa xs):Rd h oa (Bj xs):=by
  obtain ⟨vs,h1,h2⟩:=hr
  rw [Bu h2] at h1;exact h1
theorem Jbh {h:PH} {g:MGh} {k:KS} {l:List (TG×TS)} (ho:(mA g k l).ok h) {e:TG×TS} (he:e∈l):Rd h e.1.oR (Bj e.2.Regs):=
  SlOk.rd ((Bz.1 ((Bz.1 (JbU ho he)).1 (sepA (tK e.1 e.2)) (.head _))).1 (sla 3 1 e.1.oR e.2.Regs.length e.1.cR (Bj e.2.Regs)) (.tail _ (.head _)))
section
variable {w0 w:World} {h:PH} {M:Nat→Prop} {g:MGh} {k:KS} {l:List (TG×TS)} {L:List HA} {i:Nat} {e e2:TG×TS}
variable {ops:Array Oper} {Q:Exit→Act→World→Prop} {a:Act} {N:FN} {F:List (Nat×Value)} {K:Act→World→Prop} {ty:TypeId} {pos:String} {af:Array Edge}
theorem Yr {x y:Operand} {j:Nat} {v:Int} (hF:Fr N F a) (hS:St w0 M [h] (mA g k l :: L) w) (he:l[i]? = some e)
    (hx:opv F x=some (.pointer (some ⟨(adr e.1.oR).block,(adr e.1.oR).off+j * 1,none⟩))) (hy:opv F y=some (.int .i64 v)) (hj:j < e.2.Regs.length) (h2:e2=(e.1,{ e.2 with Regs:=e.2.Regs.set j v }))
    (kk:∀ w,St w0 M [h] (mA g k (l.set i e2) :: L) w→K a w):stp Tryz.prog ops Q ⟨none,.store 3 x y,ty,pos,af,none⟩ a w K:=by
  subst h2;exact JgU hF hS he hx hy hj kk
theorem JgE {x y:Operand} {v:Int} (hF:Fr N F a) (hS:St w0 M [h] (mA g k l :: L) w) (he:l[i]? = some e)
    (hx:opv F x=some (.pointer (some ⟨e.1.tp,3,none⟩))) (hy:opv F y=some (.int .i64 v)) (h2:e2=(e.1,{ e.2 with At:=v }))
    (kk:∀ w,St w0 M [h] (mA g k (l.set i e2) :: L) w→K a w):stp Tryz.prog ops Q ⟨none,.store 3 x y,ty,pos,af,none⟩ a w K:=by
  subst h2;exact Jhs hF hS he hx hy kk
end
end Go.LM.SWAPS
namespace Go.MD.SWAPS
open Go Go.MD Go.LL
theorem Re {lk:List Int} {p:api_Pick}:∀ {xs:List TS} {i:Nat},p∈Ci lk (i:Int) xs↔∃ j x,xs[j]? = some x∧p.T=((i+j:Nat):Int)∧p∈Is lk ((i+j:Nat):Int) x
  | [],i=>by simp [Ci]
  | x :: r, i => by
    have hT:∀ (q:Int) (y:TS),p∈Is lk q y→p.T=q:=fun q y h=>by
      unfold Is at h
      rcases kxi.1 h with h | h
      · split at h
        · rw [kxo] at h;rw [h]
        · cases h
      · obtain ⟨z,_,rfl⟩:=kyq.1 h;rfl
    rw [Ci,kxi]
    have ih:=Re (lk:=lk) (p:=p) (xs:=r) (i:=i+1)
    rw [show ((i:Nat):Int)+1=((i+1:Nat):Int) by omega,ih]
    constructor
    · rintro (h | ⟨j, y, h1, h2, h3⟩)
      · exact ⟨0,x,rfl,by rw [kwg];exact hT _ _ h,by rw [kwg];exact h⟩
      · exact ⟨j+1,y,by simpa using h1,by rw [h2];omega,by rw [show i+(j+1)=i+1+j by omega];exact h3⟩
    · rintro ⟨j, y, h1, h2, h3⟩
      cases j with
      | zero =>
        simp only [List.getElem?_cons_zero,Option.some.injEq] at h1
        subst h1
        rw [kwg] at h3
        exact .inl h3
      | succ j=>exact .inr ⟨j,y,by simpa using h1,by rw [h2];omega,by rw [show i+1+j=i+(j+1) by omega];exact h3⟩
theorem Qx {lk:List Int} {ft:Int} {xs:List TS} (h:∀ x∈xs,x.Q.length≤2):(Er lk ft xs).length≤3 * xs.length:=by
  unfold Er
  split
  · exact Mp h
  · exact kxt _
def mkP (kd:Int) (i:Nat) (n:Int):api_Pick:=⟨kd,(i:Int),n,[]⟩
def PkT (lk:List Int) (x:TS) (kd n:Int):Prop:=(kd=1∧n=0∧Mo lk x=true)∨(kd=2∧n∈Bt x.Q)
theorem Qz {lk:List Int} {i:Nat} {x:TS} {p:api_Pick}:p∈Is lk (i:Int) x↔∃ kd n,p=mkP kd i n∧PkT lk x kd n:=by
  unfold Is
  rw [kxi]
  constructor
  · rintro (h | h)
    · split at h
      · rename_i hc
        rw [kxo] at h
        exact ⟨1,0,h,.inl ⟨rfl,rfl,hc⟩⟩
      · cases h
    · obtain ⟨z, hz, rfl⟩ := kyq.1 h
      exact ⟨2,z,rfl,.inr ⟨rfl,hz⟩⟩
  · rintro ⟨kd, n, rfl, h⟩
    rcases h with ⟨rfl,rfl,hc⟩ | ⟨rfl,hn⟩
    · rw [if_pos hc];exact .inl (by simp [mkP])
    · exact .inr (kyq.2 ⟨n,hn,rfl⟩)
theorem Na {lk:List Int} {ft:Int} {xs:List TS} {p:api_Pick}:p∈Er lk ft xs↔ft=0∧∃ i x kd n,xs[i]? = some x∧p=mkP kd i n∧PkT lk x kd n:=by
  unfold Er
  by_cases f:ft=0
  · rw [if_pos f]
    have h:=Re (lk:=lk) (p:=p) (xs:=xs) (i:=0)
    rw [show ((0:Nat):Int)=0 from rfl] at h
    rw [h]
    constructor
    · rintro ⟨j, x, h1, h2, h3⟩
      rw [kxs] at h3
      obtain ⟨kd,n,e,hp⟩:=Qz.1 h3
      exact ⟨f,j,x,kd,n,h1,e,hp⟩
    · rintro ⟨_, j, x, kd, n, h1, e, hp⟩
      refine ⟨j,x,h1,by rw [e,kxs];rfl,?_⟩
      rw [kxs]
      exact Qz.2 ⟨kd,n,e,hp⟩
  · rw [if_neg f]
    exact ⟨fun h=>(nomatch h),fun h=>absurd h.1 f⟩
noncomputable def doS (kd:Int) (i:Nat) (n:Int) (lines:List Int) (m:MS) (lk:List Int) (ft fy:Int) (x:TS):Eff:=
  if kd=2 then Mq (i:Int) n m lk ft fy x else Di (i:Int) lines m lk ft fy x
structure XOk (m:MS) (U:api_Unit) (lk:List Int) (x:TS):Prop where
  q:x.Q.length≤2
  tok:TOk (m.l.length:Int) (lnI U) (lk.length:Int) (x.th none)
  stop:Stop (x.th none)
theorem XOk.tw {m:MS} {U:api_Unit} {lk:List Int} {x:TS} (h:XOk m U lk x):TW lk x:=⟨h.tok.at0,fun y hy hk=>by
  have hy2:x.C.L[x.At.toNat]? = some y:=(Fh hy).2
  have h1:0≤y.B∧y.B < (lk.length:Int):=(Vl (c:=x.C) h.tok.code hy2).2.2.2 (.inl hk)
  omega,h.q⟩
theorem JaA {lk:List Int} {x:TS} (h:Mo lk x=true):x.At < (x.C.L.length:Int):=by
  rcases Int.lt_or_le x.At (x.C.L.length:Int) with z | z
  · exact z
  · rw [Dq z] at h;cases h
end Go.MD.SWAPS
namespace Go.LM.SWAPS
open Go Go.LL Go.MD Go.LM Go.Proofs Go.MD.SWAPS
theorem Xl {l:List api_Pick} {k:Nat} (h:k < l.length):(Cw l)[k * 4+0]? = some (.int .i64 (l[k]'h).Kind):=Kn Hu h (by omega)
theorem Xz {l:List api_Pick} {k:Nat} (h:k < l.length):(Cw l)[k * 4+1]? = some (.int .i64 (l[k]'h).T):=Kn Hu h (by omega)
theorem Xh {l:List api_Pick} {k:Nat} (h:k < l.length):(Cw l)[k * 4+2]? = some (.int .i64 (l[k]'h).I):=Kn Hu h (by omega)
theorem Aft.of {h:PH} {g:MGh} {k:KS} {l l2:List (TG×TS)} {i:Nat} {r:Eff} {g3:MGh} {k3:KS} {l3:List (TG×TS)} (hl:l2.map (·.2)=l.map (·.2)) (a:Aft h g k l2 i r g3 k3 l3):Aft h g k l i r g3 k3 l3:=
  ⟨a.u,a.cr,a.sim,a.wl,a.lk,a.ft,a.fy,by rw [a.l,hl],a.p,a.pm,a.mf⟩
end Go.LM.SWAPS
namespace Go.MD.SWAPS
open Go Go.MD Go.LL
def busy (x:TS):Bool:=decide (x.At < (x.C.L.length:Int)) || decide (0 < (x.Q.length:Int))
def stD (ft:Int) (xs:List TS):Bool:=decide (ft=0) && xs.all fun x=>!busy x
noncomputable def stK (lk:List Int) (ft:Int) (xs:List TS):Bool:=decide (ft=0) && (!stD ft xs && decide (((Er lk ft xs).length:Int)=0))
theorem Rq {ft:Int} {xs:List TS} {i:Nat} {x:TS} (h:xs[i]? = some x):stD ft (xs.take (i+1))=(stD ft (xs.take i) && !busy x):=by
  obtain ⟨hi,rfl⟩:=kxn.1 h
  unfold stD
  rw [kyi hi,List.all_append]
  simp [Bool.and_assoc]
end Go.MD.SWAPS
namespace Go.MD.SWAPS
open Go Go.MD Go.LL
theorem JdO {m:MS} {k:Rm} (hi:MInv m) (hs:Sim m k) (hw:k.W.length≤1000) (N:Nat):Z6q N k=some (some k,k):=by
  have h1:=hi.len1;have h2:=hi.len2;have h3:=hi.len3;have h4:=hi.len4
  unfold Z6q
  rw [Ax (by rw [hs.l];simp;omega) (by decide)]
  simp only [kxa,kxl]
  rw [Ax (by rw [hs.kept];simp;omega) (by decide)]
  simp only [kxa,kxl]
  rw [Ax (by simp;omega) (by decide)]
  rfl
end Go.MD.SWAPS
namespace Go.LM.SWAPS
open Go Go.LL Go.MD Go.LM Go.Proofs Go.MD.SWAPS
section
variable {w0:World} {h:PH} (hl:h.le w0)
theorem JdR {p:Nat} {g:KG} {m:MS} {k:Rm} (ho:(kA p g k).ok (hp w0)) (hd:∀ b,(kA p g k).fp b→h b=none) (hf:KF h g k) (hi:MInv m) (hs:Sim m k) (hw:k.W.length≤1000) (hl:h.le w0):Tot Tryz.prog 42 #[.pointer (some ⟨p,0,none⟩)] w0 (fun v w'=>∃ g1 b g2,v=.pointer (some ⟨b,0,none⟩)∧KF h g1 k∧KF h g2 k∧Mut w0 (kA p g k) (sepA [kA p g1 k,kA b g2 k]) w'):=by
  refine (JfT hl hf.co hf.ro hf.cf hf.rf (Cs _) (Cs _) (N1 _) ho hd (JdO hi hs hw 0)).mono fun v w' hR=>?_
  obtain ⟨vm,A0,o1,c1,o2,c2,o3,c3,v3,o4,c4,v4,o5,c5,v5,rfl,hp,q1,q2,q3,q4,q5,q6,q7,hm⟩:=hR
  have e3:=Bu (q5 h);have e4:=Bu (q6 h);have e5:=Kx (q7 h)
  subst e3;subst e4;subst e5
  rcases hp with ⟨_,_,e⟩ | ⟨b,p0,d0,p1,d1,p2,d2,u2,p3,d3,u3,p4,d4,u4,k',rfl,rfl,e,a0,a1,b0,b1,r2,r3,r4⟩
  · cases e
  · obtain rfl := kyh e
    have f2:=Bu (r2 h);have f3:=Bu (r3 h);have f4:=Kx (r4 h)
    subst f2;subst f3;subst f4
    exact ⟨⟨o1,c1,o2,c2,o3,c3,o4,c4,o5,c5⟩,b,⟨p0,d0,p1,d1,p2,d2,p3,d3,p4,d4⟩,rfl,⟨q1,q2,q3,q4⟩,⟨a0,a1,b0,b1⟩,Mut.tail (K:=kL p ⟨o1,c1,o2,c2,o3,c3,o4,c4,o5,c5⟩ k) hm⟩
end
section
variable {w0:World} {h:PH} (hl:h.le w0) {g:MGh} {k:KS} {l:List (TG×TS)} (ho:(mA g k l).ok (hp w0)) (hd:∀ b,(mA g k l).fp b→h b=none) (hf:MF h g k l)
include hl ho hd hf
theorem JaJ {m:MS} (hi:MInv m) (hs:Sim m k.R) (hw:k.R.W.length≤1000):Tot Tryz.prog 42 #[.pointer (some ⟨g.pm,0,none⟩)] w0 (fun v w'=>∃ kg pm2 kg2,v=.pointer (some ⟨pm2,0,none⟩)∧MF h { g with kg:=kg } k l∧KF h kg2 k.R∧Mut w0 (mA g k l) (sepA [mA { g with kg:=kg } k l,kA pm2 kg2 k.R]) w'):=by
  refine (JdR (mok ho (kA g.pm g.kg k.R) (.tail _ (.tail _ (.tail _ (.head _))))) (fun b hb=>hd b ⟨kA g.pm g.kg k.R,.tail _ (.tail _ (.tail _ (.head _))),hb⟩) hf.kf hi hs hw hl).mono fun v w' hR=>?_
  obtain ⟨kg,pm2,kg2,rfl,q1,q2,hm⟩:=hR
  refine ⟨kg,pm2,kg2,rfl,⟨hf.lc,hf.lr,q1,hf.th⟩,q2,?_⟩
  have hS:St w0 (mA g k l).fp [h] (mL g k l) w0:=.startL (by simpa using hl) ho (fun b hb x hx=>by simp at hx;subst hx;exact hd b hb)
  have h1:=(hS.mut hm (.tail (.tail (.tail .head)))).pickL (.cons (.tail (.tail (.tail .head))) (.cons .head (.cons .head (.cons .head (.cons .head .nil)))))
  have h2:=h1.unsep
  have h3:=h2.pickL (.cons (.tail (.tail .head)) (.cons (.tail (.tail .head)) (.cons (.tail (.tail .head)) (.cons .head (.cons (.tail .head) (.cons .head .nil))))))
  exact (St.sep (mL { g with kg:=kg } k l) h3).endMut
theorem Mut.thBx {w':World} {i:Nat} {e e2:TG×TS} (he:l[i]? = some e) (htp:e2.1.tp=e.1.tp) (hK:tK e2.1 e2.2=tK e.1 e.2) {X:HA} (hm:Mut w0 (sepA (tB e.1 e.2)) (sepA (tB e2.1 e2.2 ++ [X])) w'):Mut w0 (mA g k l) (sepA [mA g k (l.set i e2),X]) w':=by
  have hS:St w0 (mA g k l).fp [h] (mL g k l) w0:=.startL (by simpa using hl) ho (fun b hb x hx=>by simp at hx;subst hx;exact hd b hb)
  have h1:=hS.pickL (.cons (.tail (.tail (.tail (.tail .head)))) (.cons .head (.cons .head (.cons .head (.cons .head .nil)))))
  rw [show Ce tA l=Ce tA (l.take i ++ e :: l.drop (i+1)) from congrArg (Ce tA) (Nh he)] at h1
  have h2:=(St.bigTake h1)
  have h3:St w0 _ [h] ([sepA (tK e.1 e.2),sepA (tB e.1 e.2)] ++ _) w0:=St.unsep (K:=tL e) h2
  have h4:=h3.mut hm (.tail .head)
  have h5:=h4.pickL (.cons (.tail .head) (.cons .head (.cons .head (.cons .head (.cons .head (.cons .head (.cons .head .nil)))))))
  have h6:=h5.unsep
  have h7:=St.sep (tB e2.1 e2.2) h6
  rw [← hK] at h7
  have h8:=h7.pickL (.cons (.tail (.tail .head)) (.cons .head (.cons (.tail .head) (.cons (.tail .head) (.cons (.tail .head) (.cons (.tail .head) (.cons (.tail .head) (.cons .head .nil))))))))
  have h9:=St.sep (tL e2) h8
  have h10:=St.bigPut (f:=tA) (x:=e2) h9
  rw [← Ts he e2] at h10
  have h11:=h10.pickL (.cons (.tail .head) (.cons (.tail .head) (.cons (.tail .head) (.cons (.tail .head) (.cons .head (.cons .head .nil))))))
  rw [← Wc he htp,← show (l.set i e2).length=l.length from kxr] at h11
  exact (St.sep (mL g k (l.set i e2)) h11).endMut
def bK (b:Nat) (oq:Option Addr) (cq:Nat) (Q:List api_Entry):List HA:=[blk b (.cells [.int .i64 2,.slice oq Q.length cq].toArray 120 (0,0)),sla 159 4 oq Q.length cq (Jbg Q)]
theorem JdM {i:Nat} {tg:TG} {x:TS} (he:l[i]? = some (tg,x)) (hQ:x.Q.length≤2):Tot Tryz.prog 43 #[.pointer (some ⟨tg.bp,0,none⟩)] w0 (fun v w'=>∃ o1 c1 b oq cq,v=.pointer (some ⟨b,0,none⟩)∧MF h g k (l.set i ({ tg with oQ:=o1,cQ:=c1 },x))∧Mut w0 (mA g k l) (sepA [mA g k (l.set i ({ tg with oQ:=o1,cQ:=c1 },x)),sepA (bK b oq cq x.Q)]) w'):=by
  have hth:=hf.th _ (Au he)
  have hok:=JbU ho (Au he)
  have e:Z7a 0 ⟨2,x.Q⟩=some (some ⟨2,x.Q⟩,⟨2,x.Q⟩):=by
    unfold Z7a
    rw [Ax (by simp;omega) (by decide)];rfl
  refine (Jgg (b2:=tg.bp) (p1:=⟨2,x.Q⟩) (oa3:=tg.oQ) (cap4:=tg.cQ) hl (Je _) ((Bz.1 hok).1 (sepA (tB tg x)) (.tail _ (.head _))) (fun b hb=>hd b ⟨Ce tA l,.tail _ (.tail _ (.tail _ (.tail _ (.head _)))),(tg,x),Au he,sepA (tB tg x),.tail _ (.head _),hb⟩) e).mono fun v w' hR=>?_
  obtain ⟨vm,A0,o1,c1,v1,rfl,hp,q1,hm⟩:=hR
  have e1:=H9 (q1 h)
  subst e1
  rcases hp with ⟨_,_,e⟩ | ⟨b,p0,d0,u0,k',rfl,rfl,e,r0⟩
  · cases e
  · obtain rfl := kyh e
    have f0:=H9 (r0 h)
    subst f0
    exact ⟨o1,c1,b,p0,d0,rfl,hf.set hth.1 hth.2,Mut.thBx hl ho hd hf he (e2:=({ tg with oQ:=o1,cQ:=c1 },x)) rfl rfl hm⟩
end
theorem Jdo {w:World} {g:MGh} {k:KS} {n:Nat} (hc:∀ o v,nth (mCs g k n) o=some v→w.cell? ⟨g.p,o,none⟩=some v):∀ (j:Nat) (v:Value),(uCs g.u k.U)[j]? = some v→w.cell? ⟨g.p,0+j,none⟩=some v:=fun j v hj=>by
  rw [kxs]
  refine hc j v ?_
  rw [Kg]
  have hl:j < 9:=(kxn.1 hj).1
  have:(mCs g k n)[j]? = (uCs g.u k.U)[j]?:=by
    match j,hl with
    | 0,_=>rfl
    | 1,_=>rfl
    | 2,_=>rfl
    | 3,_=>rfl
    | 4,_=>rfl
    | 5,_=>rfl
    | 6,_=>rfl
    | 7,_=>rfl
    | 8,_=>rfl
  rw [this];exact hj
end Go.LM.SWAPS
namespace Go.LM.SWAPS
open Go Go.LL Go.MD Go.LM Go.Proofs Go.MD.SWAPS
theorem Up:(Tryz.prog.info? 105).map (fun i=>(i.zero,i.size,i.bytes))=some (some (.pointer none),1,8):=by kernel_rfl
theorem JdD {w:World} {g:TG} {x:TS} (hc:∀ o v,nth (tCs g x) o=some v→w.cell? ⟨g.tp,o,none⟩=some v):∀ (j:Nat) (v:Value),([.int .i64 x.C.Regs,.int .i64 x.C.Counts,.slice g.oC x.C.L.length g.cC]:List Value)[j]? = some v→w.cell? ⟨g.tp,0+j,none⟩=some v:=fun j v hj=>by
  rw [kxs]
  refine hc j v ?_
  rw [Kg]
  have hl:j < 3:=(kxn.1 hj).1
  rw [← hj]
  match j,hl with
  | 0,_=>rfl
  | 1,_=>rfl
  | 2,_=>rfl
theorem Jfp {h:PH} {g:MGh} {k:KS} {l:List (TG×TS)} (ho:(mA g k l).ok h) {e:TG×TS} (he:e∈l):Rd h e.1.oN (Bj e.2.Counts):=
  SlOk.rd ((Bz.1 ((Bz.1 (JbU ho he)).1 (sepA (tK e.1 e.2)) (.head _))).1 (sla 3 1 e.1.oN e.2.Counts.length e.1.cN (Bj e.2.Counts)) (.tail _ (.tail _ (.head _))))
theorem Ri (l:List (TG×TS)) (e:TG×TS):En l ++ [.pointer (some ⟨e.1.tp,0,none⟩)]=En (l ++ [e]):=by simp [En]
theorem St.thread {w0 w:World} {M:Nat→Prop} {h:PH} {L:List HA} {bt bq:Nat} {oC oR oN oq:Option Addr} {cC cR cN cq:Nat} {x:TS}
    (hS:St w0 M [h] (blk bt (.cells (tCs ⟨bt,bq,oC,cC,oR,cR,oN,cN,oq,cq⟩ x).toArray 107 (0,0)) :: sla 3 1 oR x.Regs.length cR (Bj x.Regs) :: sla 3 1 oN x.Counts.length cN (Bj x.Counts) :: sepA (bK bq oq cq x.Q) :: L) w) :
    St w0 M [h] (tA (⟨bt,bq,oC,cC,oR,cR,oN,cN,oq,cq⟩,x) :: L) w:=by
  have h1:St w0 M [h] (sepA (tK ⟨bt,bq,oC,cC,oR,cR,oN,cN,oq,cq⟩ x) :: sepA (bK bq oq cq x.Q) :: L) w:=St.sep (L:=sepA (bK bq oq cq x.Q) :: L) (tK ⟨bt,bq,oC,cC,oR,cR,oN,cN,oq,cq⟩ x) hS
  exact St.sep (L:=L) (tL (⟨bt,bq,oC,cC,oR,cR,oN,cN,oq,cq⟩,x)) h1
end Go.LM.SWAPS
namespace Go.MD.SWAPS
open Go Go.MD Go.LL
def x0 (c:api_Code):TS:=⟨c,0,List.replicate c.Regs.toNat 0,List.replicate c.Counts.toNat 0,[],0⟩
end Go.MD.SWAPS
namespace Go.LM.SWAPS
open Go Go.LL Go.MD Go.LM Go.Proofs Go.MD.SWAPS
def mCz (g:MGh) (k:KS) (nl n:Nat):List Value:=[.slice g.u.o0 k.U.Lines.length g.u.c0,.int .i64 k.U.Stays,.slice g.u.o2 k.U.Firsts.length g.u.c2,.int .i64 k.U.Locks,.slice g.u.o4 k.U.Threads.length g.u.c4,.int .i64 k.U.Recover.Regs,.int .i64 k.U.Recover.Counts,.slice g.u.o5 k.U.Recover.L.length g.u.c5,.slice g.u.o6 k.U.Claims.length g.u.c6,
  .int .i64 2,.int .i64 k.Crashed,.pointer (some ⟨g.pm,0,none⟩),.slice g.ol nl g.cl,.slice g.op n g.cp,.int .i64 k.Fault,.int .i64 k.Faulty]
theorem Iy (n:Nat) (v:Int):List.replicate n (.int .i64 v)=Bj (List.replicate n v):=by simp [Bj]
theorem JcN {w0:World} {h:PH} (hl:h.le w0) {tg:TG} {x:TS} (ho:(sepA (tK tg x)).ok (hp w0)) (hd:∀ b,(sepA (tK tg x)).fp b→h b=none) (hc:x.C.L.length≤tg.cC) (hr:SR h tg.oC x.C.L) {p4 p5 p6:Int} (ok:TOk p4 p5 p6 (x.th none)) (hz:x.Fault=0) :
    Tot Tryz.prog 71 #[.pointer (some ⟨tg.tp,0,none⟩)] w0 (fun v w'=>∃ o1 c1 o2 c2 o3 c3,v=.tuple #[]∧(onS x).C.L.length≤c1∧SR h o1 (onS x).C.L∧Mut w0 (sepA (tK tg x)) (sepA (tK ⟨tg.tp,tg.bp,o1,c1,o2,c2,o3,c3,tg.oQ,tg.cQ⟩ (onS x))) w'):=by
  obtain ⟨⟨B,hB⟩,_,hQ⟩:=Iw ok hz
  refine (Jeq (b2:=tg.tp) (p1:=x.th (some ⟨tg.bp,0,none⟩)) (oa7:=tg.oR) (cap8:=tg.cR) (oa12:=tg.oN) (cap13:=tg.cN) hl hc hr (Cs _) (Cs _) ho hd (hB (some ⟨tg.bp,0,none⟩) B (kxb _))).mono fun v w' hR=>?_
  obtain ⟨o1,c1,o2,c2,v2,o3,c3,v3,rfl,q1,q2,q3,q4,hm⟩:=hR
  have e2:=Bu (q3 h);have e3:=Bu (q4 h)
  subst e2;subst e3
  exact ⟨o1,c1,o2,c2,o3,c3,rfl,q1,q2,hm⟩
theorem Jc4 {w0:World} {h:PH} (hl:h.le w0):Tot Tryz.prog 32 #[.int .i64 2] w0 (fun v w'=>∃ b oq cq,v=.tuple #[.pointer (some ⟨b,0,none⟩),.int .i64 0]∧Fresh w0 (sepA (bK b oq cq [])) w'):=by
  have e:Z7i 0 2=some (some ⟨2,[]⟩,0):=rfl
  refine (JgB hl e).mono fun v w' hR=>?_
  obtain ⟨vm,A0,rfl,hp,hf⟩:=hR
  rcases hp with ⟨_,_,e⟩ | ⟨b,o0,c0,v0,k',rfl,rfl,e,r0⟩
  · cases e
  · obtain rfl := kyh e
    have f0:=H9 (r0 h)
    subst f0
    exact ⟨b,o0,c0,rfl,hf⟩
theorem St.thread2 {w0 w:World} {M:Nat→Prop} {h:PH} {L:List HA} {tg:TG} {x:TS} (hQ:x.Q=[]) (hS:St w0 M [h] (sepA (tK tg x) :: sepA (bK tg.bp tg.oQ tg.cQ []) :: L) w):St w0 M [h] (tA (tg,x) :: L) w:=by
  rw [← hQ] at hS
  exact St.sep (L:=L) (tL (tg,x)) hS
end Go.LM.SWAPS
namespace Go.LM.SWAPS
open Go Go.LL Go.MD Go.LM Go.Proofs Go.MD.SWAPS
structure UF (h:PH) (g:UG) (u:api_Unit):Prop where
  c0:u.Lines.length≤g.c0
  r0:SR h g.o0 u.Lines
  c2:u.Firsts.length≤g.c2
  r2:SR h g.o2 u.Firsts
  c4:u.Threads.length≤g.c4
  r4:SR h g.o4 u.Threads
theorem UF.mono {h h':PH} {g:UG} {u:api_Unit} (f:UF h g u) (hm:∀ b o,h b=some o→h' b=some o):UF h' g u:=⟨f.c0,f.r0.mono hm,f.c2,f.r2.mono hm,f.c4,f.r4.mono hm⟩
theorem JbE {h:PH} {cs:List Value} {u:api_Unit} (hx:Enc.rep h cs u):∃ g:UG,cs=uCs g u∧UF h g u:=by
  have g4:Enc.rep (α:=(List Int)×Int×(List Int)×Int×(List api_Code)×api_Code×(List (List api_Op))) h cs (u.Lines,u.Stays,u.Firsts,u.Locks,u.Threads,u.Recover,u.Claims):=hx
  obtain ⟨qz5,qz6,rfl,g7,g8⟩:=g4
  obtain ⟨oa9,cap10,rfl,hc11,hr12⟩:=g7
  obtain ⟨q13,q14,rfl,g15,g16⟩:=g8
  obtain rfl:q13=[.int .i64 u.Stays]:=g15
  obtain ⟨q17,q18,rfl,g19,g20⟩:=g16
  obtain ⟨oa21,cap22,rfl,hc23,hr24⟩:=g19
  obtain ⟨q25,q26,rfl,g27,g28⟩:=g20
  obtain rfl:q25=[.int .i64 u.Locks]:=g27
  obtain ⟨q29,q30,rfl,g31,g32⟩:=g28
  obtain ⟨oa33,cap34,rfl,hc35,hr36⟩:=g31
  obtain ⟨q37,q38,rfl,g39,g40⟩:=g32
  obtain ⟨o5,c5,rfl,_,_⟩:=Cp g39
  obtain ⟨o6,c6,rfl,_,_⟩:=g40
  exact ⟨⟨oa9,cap10,oa21,cap22,oa33,cap34,o5,c5,o6,c6⟩,rfl,hc11,hr12,hc23,hr24,hc35,hr36⟩
theorem St.joinH {w0 w w':World} {M:Nat→Prop} {H H':PH} {L:List HA} {A:HA} (hS:St w0 M [H] L w) (he:Ext w H H') (hS2:St w Nil [H'] [A] w'):St w0 M [H'] (A :: L) w':=by
  have h1:=Go.LM.St.passH hS hS2.keep he (Go.LM.St.le hS2)
  have fresh:∀ b,A.fp b→w.heap.size≤b:=fun b hb=>((hS2.own A (.head _) b hb).1).resolve_right id
  refine ⟨h1.keep,h1.hs,fun B hB=>?_,fun B hB b hb=>?_,kxy.2 ⟨fun B hB b q1 q2=>?_,h1.disj⟩⟩
  · rcases kxg.1 hB with rfl | hB
    · exact hS2.ok _ (.head _)
    · exact h1.ok B hB
  · rcases kxg.1 hB with rfl | hB
    · exact ⟨.inl (kwb hS.keep.size (fresh b hb)),(hS2.own _ (.head _) b hb).2⟩
    · exact h1.own B hB b hb
  · have := fresh b q1
    have:=hS.fpLt hB q2
    omega
end Go.LM.SWAPS
namespace Go.LM.SWAPS
open Go Go.LL Go.MD Go.LM Go.Proofs Go.MD.SWAPS
def Yo (P:Program) (t:TypeId):Value→Bool
  | .int _ _=>(match P.underlying t with | some (.int _)=>true | _=>false)
  | .bool _=>(match P.underlying t with | some .bool=>true | _=>false)
  | _=>false
def Kk (P:Program) (xs:Array Value) (fs:List Field):Bool:=fs.all fun f=>P.plainKey f.type && (match xs[f.offset]? with | some v=>Yo P f.type v | none=>false)
theorem Jef {P:Program} {w:World} {t:TypeId} {v:Value} {d:Nat} (h:Yo P t v=true):(Op.equalIn (d+1) t v v).run P w=.ok true w:=by
  unfold Yo at h
  split at h
  · split at h
    · rename_i hu;rw [run_equalIn_int w d t _ _ _ _ hu];simp
    · cases h
  · split at h
    · rename_i hu;rw [run_equalIn_bool' w d t _ _ hu];simp
    · cases h
  · cases h
theorem Sv {P:Program} {w:World} {xs:Array Value} {d:Nat}:∀ fs:List Field,Kk P xs fs=true→(Op.eqFields (d+1) xs xs fs).run P w=.ok true w
  | [],_=>by simp [Op.eqFields]
  | f :: fs, h => by
    unfold Kk at h
    rw [kxv,kxc,kxc] at h
    have ih:=Sv (d:=d) (w:=w) fs h.2
    unfold Op.eqFields
    split
    · have h2 := h.1.2
      split at h2
      · rename_i v hv
        simp only [Sem.run_bind,run_part_plain w h.1.1 hv,Result.andThen_ok,Jef h2,kyl,Bool.false_eq_true,if_false]
        exact ih
      · cases h2
    · exact ih
theorem Je1 {P:Program} {w:World} {N:FN} {F:List (Nat×Value)} {a:Act} {x y:Operand} {t u:TypeId} {d:Option Nat} {ty:TypeId} {pos:String} {af:Array Edge} {g:Option (Nat×Bool)} {xs:Array Value} (hF:Fr N F a) (hx:opv F x=some (.agg xs)) (hy:opv F y=some (.agg xs))
    (ht:P.underlying t=some (.struct (P.fieldsOf t))) (hp:P.stoodInHeld t=false) (hg:P.eqGuardType P.depth t=false) (hc:Kk P xs (P.fieldsOf t).toList=true) :
    (execOp a.eval ⟨d,.binOp .eql t x y u,ty,pos,af,g⟩).run P w=.ok (.value (.bool true)) w:=by
  have h1:=run_eqGuard_agg (P:=P) w .eql t x y xs xs hg
  have h2:(Op.equalIn 10000 t (.agg xs) (.agg xs)).run P w=.ok true w:=by
    rw [show (10000:Nat)=9998+1+1 from rfl,run_equalIn_struct w (9998+1) t xs xs ht hp]
    exact Sv _ hc
  simp [execOp,hF.ev hx,hF.ev hy,h1,run_eql_struct,h2]
theorem Jhx (k t a n m:Int):Kk Tryz.prog #[.int .i64 k,.int .i64 t,.int .i64 a,.int .i64 n,.int .i64 m] (Tryz.prog.fieldsOf 48).toList=true:=by kernel_rfl
theorem Jhu (a b c:Int) (p q:Bool):Kk Tryz.prog #[.int .i64 a,.int .i64 b,.int .i64 c,.bool p,.bool q] (Tryz.prog.fieldsOf 57).toList=true:=by kernel_rfl
theorem Jcq {w:World} {N:FN} {F:List (Nat×Value)} {ac:Act} {x y:Operand} {u:TypeId} {d:Option Nat} {ty:TypeId} {pos:String} {af:Array Edge} {g:Option (Nat×Bool)} {k t a n m:Int} (hF:Fr N F ac) (hx:opv F x=some (.agg #[.int .i64 k,.int .i64 t,.int .i64 a,.int .i64 n,.int .i64 m])) (hy:opv F y=some (.agg #[.int .i64 k,.int .i64 t,.int .i64 a,.int .i64 n,.int .i64 m])) :
    (execOp ac.eval ⟨d,.binOp .eql 48 x y u,ty,pos,af,g⟩).run Tryz.prog w=.ok (.value (.bool true)) w:=Je1 hF hx hy (by kernel_rfl) (by kernel_rfl) (by kernel_rfl) (Jhx k t a n m)
theorem Jf9 {w:World} {N:FN} {F:List (Nat×Value)} {ac:Act} {x y:Operand} {u:TypeId} {d:Option Nat} {ty:TypeId} {pos:String} {af:Array Edge} {g:Option (Nat×Bool)} {a b c:Int} {p q:Bool} (hF:Fr N F ac) (hx:opv F x=some (.agg #[.int .i64 a,.int .i64 b,.int .i64 c,.bool p,.bool q])) (hy:opv F y=some (.agg #[.int .i64 a,.int .i64 b,.int .i64 c,.bool p,.bool q])) :
    (execOp ac.eval ⟨d,.binOp .eql 57 x y u,ty,pos,af,g⟩).run Tryz.prog w=.ok (.value (.bool true)) w:=Je1 hF hx hy (by kernel_rfl) (by kernel_rfl) (by kernel_rfl) (Jhu a b c p q)
theorem Xq (x:Rp):(Jfh x).length=3:=rfl
theorem Jc7 {l:List Rp} (h:0 < l.length):Pm l≠[]:=Ja5 Xq (by omega) h
theorem Yg {l:List Rp} {k:Nat} (h:k < l.length):(Pm l)[k * 3+0]? = some (.int .i64 (l[k]'h).Line):=Kn Xq h (by omega)
def kCs (g:KG) (k:Rm):List Value:=[.slice g.oo k.Of.length g.co,.slice g.fo k.Firsts.length g.cf,.slice g.lo k.L.length g.cl,.slice g.ko k.K.length g.ck,.slice g.wo k.W.length g.cw]
section
variable {h:PH} {p:Nat} {g:KG} {k:Rm}
theorem Jgb (ho:(kA p g k).ok h):∀ A∈kL p g k,A.ok h:=(Bz.1 ho).1
theorem kcR (ho:(kA p g k).ok h) {o:Nat} {v:Value} (hv:nth (kCs g k) o=some v):h.cell? ⟨p,o,none⟩=some v:=Ii (Jgb ho (blk p _) (.head _)) hv
theorem JgD (ho:(kA p g k).ok h):Rd h g.wo (Pm k.W):=SlOk.rd (Jgb ho (sla 123 3 g.wo k.W.length g.cw (Pm k.W)) (.tail _ (.tail _ (.tail _ (.head _)))))
end
end Go.LM.SWAPS
namespace Go.MD.SWAPS
open Go Go.MD Go.LL
def Ih (m:MS) (k:Rm) (i:Nat):List Int:=(List.range (nlines m)).map (Sq (k.W.take i))
theorem Qw (m:MS) (k:Rm) (i:Nat):(Ih m k i).length=nlines m:=by simp [Ih]
theorem JeJ (m:MS) (k:Rm):List.replicate (nlines m) 0=Ih m k 0:=by
  unfold Ih
  refine kyv (by simp) fun j h1 h2=>?_
  simp [Sq,onL]
theorem Yb {m:MS} {k:Rm} {i q:Nat} (h:q < (Ih m k i).length):(Ih m k i)[q]=Sq (k.W.take i) q:=by simp [Ih]
theorem Jeo {m:MS} {k:Rm} {i q:Nat} (hw:k.W.length≤1000) (h:q < (Ih m k i).length):0≤(Ih m k i)[q]∧(Ih m k i)[q]≤1000:=by
  rw [Yb]
  unfold Sq
  have:=JaM (k.W.take i) (q:Int)
  simp only [kyg] at this
  omega
theorem JbM {m:MS} {k:Rm} {i q:Nat} (hi:i < k.W.length) (hl:(k.W[i]).Line=(q:Int)) (hq:q < (Ih m k i).length):(Ih m k i).set q ((Ih m k i)[q]+1)=Ih m k (i+1):=by
  have e:(Ih m k i)[q]+1=Sq (k.W.take (i+1)) q:=by rw [Yb,kyi hi,Vp,if_pos hl]
  rw [e]
  exact Jdv (by simpa [Ih] using hq) (fun j hj=>by rw [kyi hi,Vp,if_neg (fun z=>hj (by omega))])
theorem Jc0 {m:MS} {k:Rm} (hs:Sim m k) {i:Nat} (h:k.W.length≤i):Ih m k i=Me m (nlines m):=by
  rw [Jbn hs]
  unfold Ih
  rw [kzp h]
end Go.MD.SWAPS
namespace Go.MD.SWAPS.E
open Go Go.MD Go.MD.SWAPS
def De (v:api_Event) (of:List Int) (stays:Int):List api_Use:=
  if v.Kind=1∨v.Kind=9 then [⟨1,v.A,false⟩]
  else if v.Kind=8∨v.Kind=12 then ⟨1,v.A,true⟩ :: (if 0≤v.A∧v.A < stays then (match of[v.A.toNat]? with | some n=>[⟨2,n,true⟩] | none=>[]) else [])
  else if v.Kind=13 then [⟨2,v.A,true⟩]
  else if v.Kind=10∨v.Kind=11 then [⟨3,v.A,true⟩]
  else if v.Kind=15∨v.Kind=16 then [⟨4,0,true⟩]
  else []
theorem Lt (v:api_Event) (of:List Int) (stays:Int):(De v of stays).length≤2:=by
  unfold De
  repeat' split
  all_goals simp
theorem Uq (x:api_Use):Cj 24 ([]:List api_Use) [x]=some [x]:=by rw [Ax (by simp) (by decide)];rfl
theorem Us (x y:api_Use):Cj 24 [x] [y]=some [x,y]:=by rw [Ax (by simp) (by decide)];rfl
theorem Jar (k:Int):(k=1∨k=2∨k=3∨k=4∨k=5∨k=6∨k=7∨k=8)∨(k=9∨k=10∨k=11∨k=12∨k=13∨k=14∨k=15∨k=16)∨(k < 1∨16 < k):=by omega
theorem Ma (N:Nat) (v:api_Event) (of:List Int) (stays:Int):Zc N v of stays=some (De v of stays):=by
  obtain ⟨k,t,a,n,m⟩:=v
  by_cases h3:0≤a∧a < stays
  · have e1 : ¬ a < 0 := by omega
    have e2 : ¬ stays≤a:=by omega
    by_cases h4:a.toNat < of.length
    · have e3 : ¬ (of.length : Int) ≤ a := by omega
      have e4:=Al (i:=a) (j:=a.toNat) (by omega) h4
      rcases Jar k with h | h | h
      · rcases h with h | h | h | h | h | h | h | h
        all_goals (subst h;simp [Zc,Zf,Zg,Zh,Zi,Ze,Zd,De,Uq,Us,e1,e2,e3,e4,h3,h4])
      · rcases h with h | h | h | h | h | h | h | h
        all_goals (subst h;simp [Zc,Zf,Zg,Zh,Zi,Ze,Zd,De,Uq,Us,e1,e2,e3,e4,h3,h4])
      · have q1 : k ≠ 1 ∧ k ≠ 8 ∧ k ≠ 9 ∧ k ≠ 10 ∧ k ≠ 11 ∧ k ≠ 12 ∧ k ≠ 13 ∧ k ≠ 15 ∧ k ≠ 16 := by omega
        simp [Zc,Zf,Zg,Zh,Zi,Ze,Zd,De,Uq,Us,q1]
    · have e3 : (of.length : Int) ≤ a := by omega
      rcases Jar k with h | h | h
      · rcases h with h | h | h | h | h | h | h | h
        all_goals (subst h;simp [Zc,Zf,Zg,Zh,Zi,Ze,Zd,De,Uq,Us,e1,e2,e3,h3,h4])
      · rcases h with h | h | h | h | h | h | h | h
        all_goals (subst h;simp [Zc,Zf,Zg,Zh,Zi,Ze,Zd,De,Uq,Us,e1,e2,e3,h3,h4])
      · have q1 : k ≠ 1 ∧ k ≠ 8 ∧ k ≠ 9 ∧ k ≠ 10 ∧ k ≠ 11 ∧ k ≠ 12 ∧ k ≠ 13 ∧ k ≠ 15 ∧ k ≠ 16 := by omega
        simp [Zc,Zf,Zg,Zh,Zi,Ze,Zd,De,Uq,Us,q1]
  · have e1 : a < 0 ∨ stays ≤ a := by omega
    rcases Jar k with h | h | h
    · rcases h with h | h | h | h | h | h | h | h
      all_goals (subst h;simp [Zc,Zf,Zg,Zh,Zi,Ze,Zd,De,Uq,Us,e1,h3])
    · rcases h with h | h | h | h | h | h | h | h
      all_goals (subst h;simp [Zc,Zf,Zg,Zh,Zi,Ze,Zd,De,Uq,Us,e1,h3])
    · have q1 : k ≠ 1 ∧ k ≠ 8 ∧ k ≠ 9 ∧ k ≠ 10 ∧ k ≠ 11 ∧ k ≠ 12 ∧ k ≠ 13 ∧ k ≠ 15 ∧ k ≠ 16 := by omega
      simp [Zc,Zf,Zg,Zh,Zi,Ze,Zd,De,Uq,Us,q1]
theorem Jb3 (N:Nat) (k:Option Bool) (p q:List api_Use) (hl:p.length=q.length) (hp:p.length≤1000):∀ (d j n:Nat),j+d=p.length→d < n→
    Z7v N k p q n (j:Int)=if p.drop j=q.drop j then k else some false:=by
  intro d
  induction d with
  | zero =>
    intro j n hj hn
    obtain ⟨n,rfl⟩:∃ m,n=m+1:=⟨n - 1,by omega⟩
    rw [Z7v,if_neg (by omega),kxh (by omega),kxh (by omega),if_pos rfl]
  | succ d ih =>
    intro j n hj hn
    obtain ⟨n,rfl⟩:∃ m,n=m+1:=⟨n - 1,by omega⟩
    have h1:j < p.length:=by omega
    have h2:j < q.length:=by omega
    rw [Z7v,if_pos (by omega),Al rfl h1,Al rfl h2]
    simp only [kxa]
    rw [Bf h1 (by omega),ih (j+1) n (by omega) (by omega),kxe h1,kxe h2]
    by_cases e:p[j]=q[j]
    · simp only [ne_eq,e,not_true_eq_false,if_false,List.cons.injEq,true_and]
    · simp only [ne_eq,e,not_false_eq_true,if_true,if_false,List.cons.injEq,false_and]
theorem Jel {N:Nat} {p q:List api_Use} (hp:p.length≤1000) (hN:p.length < N):Z7t N p q=some (decide (p=q)):=by
  unfold Z7t
  by_cases h:p.length=q.length
  · rw [if_neg (by omega)]
    have:=Jb3 N Z7u p q h hp p.length 0 N (by omega) hN
    rw [show (0:Int)=((0:Nat):Int) from rfl,this]
    simp only [kxf,Z7u]
    split <;> simp_all
  · rw [if_pos (by omega)]
    have:p≠q:=fun e=>h (by rw [e])
    simp [this]
def Fc (x y:api_Use):Bool:=(decide (x.What=4) || decide (y.What=4)) || ((decide (x.What=y.What) && decide (x.N=y.N)) && (x.Write || y.Write))
theorem Vo (N:Nat) (x y:api_Use):Z0 N x y=some (Fc x y):=by
  unfold Z0 Fc
  split
  · rename_i h;rw [h];rfl
  · rename_i h
    rw [kwp] at h
    rw [h];rfl
theorem Xr (x y:api_Use):Fc x y=Fc y x:=by
  unfold Fc
  have e1:decide (x.What=y.What)=decide (y.What=x.What):=decide_eq_decide.2 ⟨Eq.symm,Eq.symm⟩
  have e2:decide (x.N=y.N)=decide (y.N=x.N):=decide_eq_decide.2 ⟨Eq.symm,Eq.symm⟩
  rw [e1,e2,Bool.or_comm (decide (x.What=4)),Bool.or_comm x.Write]
def Tn (a:api_Event):Bool:=decide (a.Kind=15) || decide (a.Kind=16)
def Ns (a b:api_Event) (of:List Int) (stays:Int):Bool:=
  (decide (a.T=b.T) || Tn a || Tn b) || (De a of stays).any fun x=>(De b of stays).any fun y=>Fc x y
theorem JfE {N:Nat} {p:List api_Use} (y:api_Use) (hp:p.length≤1000):∀ (d j n:Nat),j+d=p.length→d < n→
    ∃ r,Z81 N Z80 p y n (j:Int)=some r∧decide (0≤r)=(p.drop j).any fun x=>Fc y x:=by
  intro d
  induction d with
  | zero =>
    intro j n hj hn
    obtain ⟨n,rfl⟩:∃ m,n=m+1:=⟨n - 1,by omega⟩
    rw [Z81,if_neg (by omega),kxh (by omega)]
    exact ⟨-1,rfl,rfl⟩
  | succ d ih =>
    intro j n hj hn
    obtain ⟨n,rfl⟩:∃ m,n=m+1:=⟨n - 1,by omega⟩
    have h1:j < p.length:=by omega
    rw [Z81,if_pos (by omega),Al rfl h1]
    simp only [kxa,Z3,Vo]
    rw [kxe h1,List.any_cons]
    cases hc:Fc y p[j] with
    | true=>exact ⟨j,by simp,by simp⟩
    | false =>
      rw [Bf h1 (by omega)]
      obtain ⟨r,h2,h3⟩:=ih (j+1) n (by omega) (by omega)
      exact ⟨r,by simpa using h2,by simpa using h3⟩
theorem Jb0 {N:Nat} {p:List api_Use} (y:api_Use) (hp:p.length≤1000) (hN:p.length < N):Z7x N p y=some (p.any fun x=>Fc y x):=by
  obtain ⟨r,h1,h2⟩:=JfE (N:=N) y hp p.length 0 N (by omega) hN
  unfold Z7x Z7z
  rw [show (0:Int)=((0:Nat):Int) from rfl,h1]
  simpa using h2
theorem Jfg {N:Nat} {p q:List api_Use} (hp:p.length≤1000) (hq:q.length≤1000) (hN:q.length < N):∀ (d j n:Nat),j+d=p.length→d < n→
    ∃ r,Z83 N Z82 p q n (j:Int)=some r∧decide (0≤r)=(p.drop j).any fun x=>q.any fun y=>Fc x y:=by
  intro d
  induction d with
  | zero =>
    intro j n hj hn
    obtain ⟨n,rfl⟩:∃ m,n=m+1:=⟨n - 1,by omega⟩
    rw [Z83,if_neg (by omega),kxh (by omega)]
    exact ⟨-1,rfl,rfl⟩
  | succ d ih =>
    intro j n hj hn
    obtain ⟨n,rfl⟩:∃ m,n=m+1:=⟨n - 1,by omega⟩
    have h1:j < p.length:=by omega
    rw [Z83,if_pos (by omega),Al rfl h1]
    simp only [kxa,Z2,Jb0 p[j] hq hN]
    rw [kxe h1,List.any_cons]
    cases hc:q.any fun x=>Fc p[j] x with
    | true=>exact ⟨j,by simp,by simp⟩
    | false =>
      rw [Bf h1 (by omega)]
      obtain ⟨r,h2,h3⟩:=ih (j+1) n (by omega) (by omega)
      exact ⟨r,by simpa using h2,by simpa using h3⟩
theorem Jb1 {N:Nat} {p q:List api_Use} (hp:p.length≤1000) (hq:q.length≤1000) (hN:q.length < N) (hN2:p.length < N):Z7w N p q=some (p.any fun x=>q.any fun y=>Fc x y):=by
  obtain ⟨r,h1,h2⟩:=Jfg (N:=N) hp hq hN p.length 0 N (by omega) hN2
  unfold Z7w Z7y
  rw [show (0:Int)=((0:Nat):Int) from rfl,h1]
  simpa using h2
theorem Depend_eq {N:Nat} (hN:3≤N) (a b:api_Event) (of:List Int) (stays:Int):Z1 N a b of stays=some (Ns a b of stays):=by
  have h1:=Lt a of stays
  have h2:=Lt b of stays
  have hc:=Jb1 (N:=N) (p:=De a of stays) (q:=De b of stays) (by omega) (by omega) (by omega) (by omega)
  unfold Z1 Ns Tn
  simp only [Zj,kxa,Z4,Ma,hc]
  by_cases e1:a.T=b.T
  · simp [e1]
  · simp only [e1, if_false, decide_false, kzk]
    cases (decide (a.Kind=15) || decide (a.Kind=16)) with
    | true=>simp
    | false =>
      cases (decide (b.Kind=15) || decide (b.Kind=16)) with
      | true=>simp
      | false=>simp
structure okE (v:api_Event):Prop where
  k:InR v.Kind
  t:InR v.T
  a:InR v.A
  n:InR v.N
  m:InR v.M
def Fu (k:Int) (j:Nat):Bool:=
  if j=0 then decide (k=1∨k=2∨k=3∨k=4∨k=5∨k=8∨k=9∨k=10∨k=11∨k=12∨k=13∨k=16)
  else if j=1 then decide (k=1∨k=2∨k=3∨k=8∨k=9∨k=12∨k=15)
  else decide (k=8)
def Jv (k:Int):Str:=
  if k=1 then [108,111,97,100] else if k=2 then [111,119,110] else if k=3 then [115,116,111,114,101] else if k=4 then [102,108,117,115,104]
  else if k=5 then [111,112,116] else if k=6 then [115,102,101,110,99,101] else if k=7 then [109,102,101,110,99,101] else if k=8 then [99,97,115]
  else if k=9 then [102,97,105,108] else if k=10 then [116,97,107,101] else if k=11 then [103,105,118,101] else if k=12 then [99,111,109,101]
  else if k=13 then [111,117,116] else if k=14 then [102,101,110,99,101] else if k=15 then [99,114,97,115,104] else if k=16 then [102,97,117,108,116] else []
def Cg (v:api_Event):Bool:=
  decide (1≤v.Kind∧v.Kind≤16∧0≤v.T∧0≤v.A) && (Fu v.Kind 0 || decide (v.A=0)) && (Fu v.Kind 1 || decide (v.N=0)) && (Fu v.Kind 2 || decide (v.M=0)) && (decide (v.Kind≠15) || decide (v.T=0))
theorem Jcz:∀ k:Fin 17,(do let r ← Zk 0;getI r.l (k.val:Int))=some (event_kind.mk (Jv k.val) (Fu k.val 0) (Fu k.val 1) (Fu k.val 2)):=by decide +kernel
theorem Xx (N:Nat) {k:Int} (h1:1≤k) (h2:k≤16) {α:Type} (f:event_kind→Option α):((Zk N).bind fun r=>(getI r.l k).bind f)=f (event_kind.mk (Jv k) (Fu k 0) (Fu k 1) (Fu k 2)):=by
  have h:=Jcz ⟨k.toNat,by omega⟩
  rw [show ((⟨k.toNat,by omega⟩:Fin 17).val:Int)=k by simp;omega] at h
  have h3:(getI (⟨_,rfl⟩:Arr 17 event_kind).l k)=_:=h
  show (getI _ k).bind f=_
  rw [h3];rfl
theorem Qh (N:Nat) (v:api_Event):Z5 N v=some (Cg v):=by
  obtain ⟨k,t,a,n,m⟩:=v
  unfold Z5 Cg Zl
  simp only [kxa]
  by_cases h:1≤k∧k≤16∧0≤t∧0≤a
  · obtain ⟨h1, h2, h3, h4⟩ := h
    rw [if_neg (by simp;omega),Xx N h1 h2]
    simp [Z6,h1,h2,h3,h4]
  · rw [if_pos (by simp; omega)]
    simp [h]
def Ng (b:Bool) (x:Int):Str:=if b then 32 :: Lib.itoa x else []
theorem Vx {b:Bool} {x:Int} (h:InR x):(Ng b x).length≤22:=by
  unfold Ng
  split
  · have:=Sa h;simp;omega
  · simp
def Qg (v:api_Event):Str:=if v.Kind < 1∨16 < v.Kind then [] else Lib.itoa v.T ++ ((32 :: Jv v.Kind) ++ (Ng (Fu v.Kind 0) v.A ++ (Ng (Fu v.Kind 1) v.N ++ Ng (Fu v.Kind 2) v.M)))
theorem JcA (k:Int):(Jv k).length≤6:=by
  by_cases h:1≤k∧k≤16
  · have hf : ∀ k : Fin 17, (Jv (k.val : Int)).length ≤ 6 := by decide +kernel
    have:=hf ⟨k.toNat,by omega⟩
    rwa [show ((⟨k.toNat,by omega⟩:Fin 17).val:Int)=k by simp;omega] at this
  · have:Jv k=[]:=by
      unfold Jv
      rw [if_neg (by omega),if_neg (by omega),if_neg (by omega),if_neg (by omega),if_neg (by omega),if_neg (by omega),if_neg (by omega),if_neg (by omega),if_neg (by omega),if_neg (by omega),if_neg (by omega),if_neg (by omega),if_neg (by omega),if_neg (by omega),if_neg (by omega),if_neg (by omega)]
    rw [this];decide
theorem Ul {N:Nat} {kf:Str→Option Str} {v:api_Event} {d:event_kind} {n:Nat} {s:Str} {j:Nat} {b:Bool} {x:Int}
    (hj:j < 3) (hg:getI ([(S_is_n.mk d.a v.A),(S_is_n.mk d.n v.N),(S_is_n.mk d.m v.M)]:List S_is_n) (j:Int)=some (S_is_n.mk b x)) (hx:InR x) (hs:s.length≤500) :
    Zb N kf v d (n+1) s (j:Int)=Zb N kf v d n (s ++ Ng b x) ((j+1:Nat):Int):=by
  rw [Zb,if_pos (by simp;omega),hg]
  simp only [kxa]
  have:=Sa hx
  cases b with
  | true =>
    rw [if_pos rfl,Z84,Yd hx.1 hx.2]
    simp only [kxa]
    rw [Pq (by simp;omega)]
    simp only [kxa]
    rw [Pq (by simp;omega)]
    simp only [kxa,Za]
    rw [Bf (n:=3) hj (by decide)]
    rfl
  | false =>
    rw [if_neg (by decide),Za,Bf (n:=3) hj (by decide),Ng,if_neg (by decide),kze]
theorem It {N:Nat} (hN:30≤N) {v:api_Event} (h:okE v):Z7 N v=some (Qg v):=by
  unfold Z7 Zl Qg
  simp only [kxa]
  by_cases hk:v.Kind < 1∨16 < v.Kind
  · rw [if_neg (by simp;omega),if_pos hk]
  · rw [if_pos (by simp; omega), Xx N (by omega) (by omega), if_neg hk]
    have ht:=Sa h.t
    have hn:=JcA v.Kind
    have hA:=Vx (b:=Fu v.Kind 0) h.a
    have hB:=Vx (b:=Fu v.Kind 1) h.n
    unfold Z8 Z84
    rw [Yd h.t.1 h.t.2]
    simp only [kxa]
    rw [Pq (by simp;omega)]
    simp only [kxa]
    rw [Pq (by simp;omega)]
    simp only [kxa]
    obtain ⟨n,hn'⟩:∃ m,N=m+4:=⟨N - 4,by omega⟩
    have e0:(0:Int)=((0:Nat):Int):=rfl
    conv=>lhs;arg 5;rw [hn']
    rw [e0,Ul (j:=0) (b:=Fu v.Kind 0) (x:=v.A) (by decide) rfl h.a (by simp;omega)]
    rw [Ul (j:=1) (b:=Fu v.Kind 1) (x:=v.N) (by decide) rfl h.n (by simp;omega)]
    rw [Ul (j:=2) (b:=Fu v.Kind 2) (x:=v.M) (by decide) rfl h.m (by simp;omega)]
    rw [Zb,if_neg (by simp),Z9]
    simp
theorem Xd {n:Int} (h1:0≤n) (h2:n < 10):Lib.itoa n=[UInt8.ofNat (48+n.toNat)]:=by
  unfold Lib.itoa
  rw [if_neg (by omega),Lib.decDigits_one (by omega)]
theorem fixed_eq {N:Nat} (hN:30≤N):Z18 N=some true:=by
  unfold Z18
  have ok:∀ k t a n m:Int,(0≤k∧k < 100)→(0≤t∧t < 100)→(0≤a∧a < 100)→(0≤n∧n < 100)→(0≤m∧m < 100)→okE ⟨k,t,a,n,m⟩:=
    fun _ _ _ _ _ h1 h2 h3 h4 h5=>⟨⟨by simp;omega,by simp;omega⟩,⟨by simp;omega,by simp;omega⟩,⟨by simp;omega,by simp;omega⟩,⟨by simp;omega,by simp;omega⟩,⟨by simp;omega,by simp;omega⟩⟩
  have s1:Qg ⟨1,0,0,5,0⟩=[48,32,108,111,97,100,32,48,32,53]:=by
    simp [Qg,Ng,Fu,Jv,Xd]
  have s2:Qg ⟨16,1,2,0,0⟩=[49,32,102,97,117,108,116,32,50]:=by
    simp [Qg,Ng,Fu,Jv,Xd]
  have s3:Qg ⟨0,0,0,0,0⟩=[]:=rfl
  rw [It hN (ok 1 0 0 5 0 (by decide) (by decide) (by decide) (by decide) (by decide)),It hN (ok 16 1 2 0 0 (by decide) (by decide) (by decide) (by decide) (by decide)),It hN (ok 0 0 0 0 0 (by decide) (by decide) (by decide) (by decide) (by decide)),s1,s2,s3]
  simp only [Depend_eq (by omega:3≤N),Qh,Vo,Ma,kxa]
  rw [Jel (by have:=Lt ⟨12,1,0,0,0⟩ [0,0,1] 2;omega) (by have:=Lt ⟨12,1,0,0,0⟩ [0,0,1] 2;omega)]
  simp only [kxa]
  decide +kernel
end Go.MD.SWAPS.E
namespace Go.MD.SWAPS
open Go Go.MD Go.LL Go.MD.SWAPS.E
def mEv (v:api_Event) (m:MS):MS:=if v.Kind=8 then Be m v.A v.M else if v.Kind=12 then Be m v.A v.N else if v.Kind=13 then Eb m v.A else m
def lEv (v:api_Event) (lk:List Int):List Int:=if v.Kind=10 then lk.set v.A.toNat v.T else if v.Kind=11 then lk.set v.A.toNat (-1) else lk
section
variable {kd n fy ft fy' ft':Int} {i:Nat} {lines lk lk':List Int} {m m':MS} {x:TS} {y:api_Instr}
theorem JbW:(Cc (i:Int) lines m lk ft fy x y).m=mEv (Cc (i:Int) lines m lk ft fy x y).ev m∧(Cc (i:Int) lines m lk ft fy x y).lk=lEv (Cc (i:Int) lines m lk ft fy x y).ev lk∧(Cc (i:Int) lines m lk ft fy x y).ev.T=i∧
    ((Cc (i:Int) lines m lk ft fy x y).ev.Kind≠16→(Cc (i:Int) lines m lk ft fy x y).ft=ft∧(Cc (i:Int) lines m lk ft fy x y).fy=fy):=by
  unfold Cc
  by_cases k2:y.Kind=2
  · simp only [if_pos k2]
    by_cases c:(He x.Q y.B).2=true
    · simp [mEv,lEv,c]
    · simp [mEv,lEv,c]
  by_cases k3:y.Kind=3
  · simp only [if_neg k2,if_pos k3];simp [mEv,lEv]
  by_cases k5:y.Kind=5
  · simp only [if_neg k2,if_neg k3,if_pos k5];simp [mEv,lEv]
  by_cases k6:y.Kind=6
  · simp only [if_neg k2,if_neg k3,if_neg k5,if_pos k6];simp [mEv,lEv]
  by_cases k7:y.Kind=7
  · simp only [if_neg k2,if_neg k3,if_neg k5,if_neg k6,if_pos k7];simp [mEv,lEv]
  by_cases k8:y.Kind=8
  · simp only [if_neg k2,if_neg k3,if_neg k5,if_neg k6,if_neg k7,if_pos k8];simp [mEv,lEv]
  by_cases k4:y.Kind=4
  · simp only [if_neg k2, if_neg k3, if_neg k5, if_neg k6, if_neg k7, if_neg k8, if_pos k4]
    split <;> simp [mEv,lEv]
  by_cases k9:y.Kind=9
  · simp only [if_neg k2,if_neg k3,if_neg k5,if_neg k6,if_neg k7,if_neg k8,if_neg k4,if_pos k9];simp [mEv,lEv]
  simp only [if_neg k2,if_neg k3,if_neg k5,if_neg k6,if_neg k7,if_neg k8,if_neg k4,if_neg k9]
  split <;> simp [mEv,lEv]
theorem Jap (h16:(Cc (i:Int) lines m lk ft fy x y).ev.Kind≠16)
    (hr:(Cc (i:Int) lines m lk ft fy x y).ev.Kind=1∨(Cc (i:Int) lines m lk ft fy x y).ev.Kind=8∨(Cc (i:Int) lines m lk ft fy x y).ev.Kind=9→m'.l.getD y.B.toNat 0=m.l.getD y.B.toNat 0)
    (hl:(Cc (i:Int) lines m lk ft fy x y).ev.Kind=11→lk'.getD y.B.toNat 0=lk.getD y.B.toNat 0) :
    (Cc (i:Int) lines m' lk' ft' fy' x y).ev=(Cc (i:Int) lines m lk ft fy x y).ev∧(Cc (i:Int) lines m' lk' ft' fy' x y).x=(Cc (i:Int) lines m lk ft fy x y).x:=by
  unfold Cc at h16 hr hl ⊢
  by_cases k2:y.Kind=2
  · simp only [if_pos k2] at h16 hr hl ⊢
    have:Qk m' x y=Qk m x y:=by
      unfold Qk
      split
      · rfl
      · rename_i c;exact hr (.inl (by rw [if_neg c]))
    rw [this];exact ⟨rfl,rfl⟩
  by_cases k3:y.Kind=3
  · simp only [if_neg k2,if_pos k3];exact ⟨trivial,trivial⟩
  by_cases k5:y.Kind=5
  · simp only [if_neg k2,if_neg k3,if_pos k5];exact ⟨trivial,trivial⟩
  by_cases k6:y.Kind=6
  · simp only [if_neg k2,if_neg k3,if_neg k5,if_pos k6];exact ⟨trivial,trivial⟩
  by_cases k7:y.Kind=7
  · simp only [if_neg k2,if_neg k3,if_neg k5,if_neg k6,if_pos k7];exact ⟨trivial,trivial⟩
  by_cases k8:y.Kind=8
  · simp only [if_neg k2,if_neg k3,if_neg k5,if_neg k6,if_neg k7,if_pos k8];exact ⟨trivial,trivial⟩
  by_cases k4:y.Kind=4
  · simp only [if_neg k2, if_neg k3, if_neg k5, if_neg k6, if_neg k7, if_neg k8, if_pos k4] at h16 hr hl ⊢
    by_cases c:m.l.getD y.B.toNat 0=(Hb y.E x.Regs).1
    · simp only [if_pos c] at hr ⊢
      have e:=hr (.inr (.inl trivial))
      rw [e,if_pos c];exact ⟨rfl,rfl⟩
    · simp only [if_neg c] at hr ⊢
      have e:=hr (.inr (.inr trivial))
      rw [e,if_neg c];exact ⟨rfl,rfl⟩
  by_cases k9:y.Kind=9
  · simp only [if_neg k2,if_neg k3,if_neg k5,if_neg k6,if_neg k7,if_neg k8,if_neg k4,if_pos k9];exact ⟨trivial,trivial⟩
  simp only [if_neg k2,if_neg k3,if_neg k5,if_neg k6,if_neg k7,if_neg k8,if_neg k4,if_neg k9] at h16 hr hl ⊢
  by_cases c:lk.getD y.B.toNat 0=(i:Int)
  · simp only [if_pos c] at hl ⊢
    have e:=hl trivial
    rw [e,if_pos c];exact ⟨rfl,rfl⟩
  · simp only [if_neg c] at h16
    exact absurd rfl h16
theorem Jbf (h:(Cc (i:Int) lines m lk ft fy x y).ev.Kind≠16):(Cc (i:Int) lines m lk ft fy x y).ev.A=y.B:=by
  unfold Cc at h ⊢
  repeat' split
  all_goals first | rfl | skip
  rename_i c
  simp only [if_neg c] at h
  simp_all
theorem Sc (hp:PkT lk x kd n):(doS kd i n lines m lk ft fy x).m=mEv (doS kd i n lines m lk ft fy x).ev m∧(doS kd i n lines m lk ft fy x).lk=lEv (doS kd i n lines m lk ft fy x).ev lk∧(doS kd i n lines m lk ft fy x).ev.T=i∧
    ((doS kd i n lines m lk ft fy x).ev.Kind≠16→(doS kd i n lines m lk ft fy x).ft=ft∧(doS kd i n lines m lk ft fy x).fy=fy):=by
  unfold doS
  rcases hp with ⟨rfl,rfl,hc⟩ | ⟨rfl,hc⟩
  · rw [if_neg (by decide)]
    unfold Mo at hc
    unfold Di
    cases hg:getI x.C.L x.At with
    | none=>rw [hg] at hc;cases hc
    | some y =>
      by_cases f:x.Fault=0
      · simp only [if_pos f];exact JbW
      · simp only [if_neg f];simp [mEv,lEv]
  · rw [if_pos rfl]
    unfold Mq
    split
    · simp [mEv,lEv]
    · split <;> simp [mEv,lEv]
theorem JfU (hp:PkT lk x kd n) (h16:(doS kd i n lines m lk ft fy x).ev.Kind≠16) (h:(doS kd i n lines m lk ft fy x).ev.Kind≠12) (h2:(doS kd i n lines m lk ft fy x).ev.Kind≠13) (h3:(doS kd i n lines m lk ft fy x).ev.Kind≠14) :
    kd=1∧x.Fault=0∧∃ y,getI x.C.L x.At=some y∧(doS kd i n lines m lk ft fy x).ev.A=y.B∧∀ (m':MS) (lk':List Int) (ft' fy':Int),doS kd i n lines m' lk' ft' fy' x=Cc (i:Int) lines m' lk' ft' fy' x y:=by
  rcases hp with ⟨rfl,rfl,hc⟩ | ⟨rfl,hc⟩
  · unfold Mo at hc
    have e:∀ (m':MS) (lk':List Int) (ft' fy':Int),doS 1 i 0 lines m' lk' ft' fy' x=Di (i:Int) lines m' lk' ft' fy' x:=fun _ _ _ _=>by unfold doS;rw [if_neg (by decide)]
    cases hg:getI x.C.L x.At with
    | none=>rw [hg] at hc;cases hc
    | some y =>
      by_cases f:x.Fault=0
      · have e2 : ∀ (m' : MS) (lk' : List Int) (ft' fy' : Int), doS 1 i 0 lines m' lk' ft' fy' x = Cc (i : Int) lines m' lk' ft' fy' x y := fun _ _ _ _ => by rw [e, Ed f hg]
        rw [e2] at h16 ⊢
        exact ⟨rfl,f,y,rfl,Jbf h16,e2⟩
      · rw [e] at h16
        unfold Di at h16
        rw [if_neg f] at h16
        exact absurd rfl h16
  · unfold doS at h h2 h3
    rw [if_pos rfl] at h h2 h3
    unfold Mq at h h2 h3
    by_cases c3:(Bb x.Q n).1.Kind=3
    · simp only [if_pos c3] at h;exact absurd rfl h
    by_cases c7:(Bb x.Q n).1.Kind=7
    · simp only [if_neg c3,if_pos c7] at h3;exact absurd rfl h3
    · simp only [if_neg c3,if_neg c7] at h2;exact absurd rfl h2
theorem Xv (hp:PkT lk x kd n) (h16:(doS kd i n lines m lk ft fy x).ev.Kind≠16)
    (hr:(doS kd i n lines m lk ft fy x).ev.Kind=1∨(doS kd i n lines m lk ft fy x).ev.Kind=8∨(doS kd i n lines m lk ft fy x).ev.Kind=9→m'.l.getD (doS kd i n lines m lk ft fy x).ev.A.toNat 0=m.l.getD (doS kd i n lines m lk ft fy x).ev.A.toNat 0)
    (hl:(doS kd i n lines m lk ft fy x).ev.Kind=10∨(doS kd i n lines m lk ft fy x).ev.Kind=11→lk'.getD (doS kd i n lines m lk ft fy x).ev.A.toNat 0=lk.getD (doS kd i n lines m lk ft fy x).ev.A.toNat 0) :
    ((doS kd i n lines m' lk' ft' fy' x).ev=(doS kd i n lines m lk ft fy x).ev∧(doS kd i n lines m' lk' ft' fy' x).x=(doS kd i n lines m lk ft fy x).x)∧PkT lk' x kd n:=by
  by_cases h12:kd=2
  · subst h12
    refine ⟨?_,by rcases hp with ⟨e,_⟩ | h;cases e;exact .inr h⟩
    unfold doS
    rw [if_pos rfl,if_pos rfl]
    unfold Mq
    split
    · exact ⟨rfl,rfl⟩
    · split <;> exact ⟨rfl,rfl⟩
  · rcases hp with hp | hp
    · obtain ⟨rfl, rfl, hc⟩ := hp
      unfold Mo at hc
      have e:∀ (m':MS) (lk':List Int) (ft' fy':Int),doS 1 i 0 lines m' lk' ft' fy' x=Di (i:Int) lines m' lk' ft' fy' x:=fun _ _ _ _=>by unfold doS;rw [if_neg (by decide)]
      cases hg:getI x.C.L x.At with
      | none=>rw [hg] at hc;cases hc
      | some y =>
        rw [hg] at hc
        by_cases f:x.Fault=0
        · have e2 : ∀ (m' : MS) (lk' : List Int) (ft' fy' : Int), doS 1 i 0 lines m' lk' ft' fy' x = Cc (i : Int) lines m' lk' ft' fy' x y := fun _ _ _ _ => by rw [e, Ed f hg]
          rw [e2] at h16 hr hl
          rw [e2,e2]
          rw [Jbf h16] at hr hl
          refine ⟨Jap h16 hr fun q=>hl (.inr q),.inl ⟨rfl,rfl,?_⟩⟩
          rw [Br hg]
          simp only at hc
          by_cases k9:y.Kind=9
          · have q : lk'.getD y.B.toNat 0 = lk.getD y.B.toNat 0 := hl (.inl (by unfold Cc; simp [k9]))
            unfold Hn at hc ⊢
            rw [q];exact hc
          · unfold Hn at hc ⊢
            simp only [ne_eq,k9,not_false_eq_true,decide_true,Bool.true_or] at hc ⊢
            exact hc
        · rw [e] at h16
          unfold Di at h16
          rw [if_neg f] at h16
          exact absurd rfl h16
    · exact absurd hp.1 h12
end
end Go.MD.SWAPS
namespace Go.MD.SWAPS
open Go Go.MD Go.LL Go.MD.SWAPS.E
structure NoC (v w:api_Event) (lines:List Int) (stays:Int):Prop where
  t:v.T≠w.T
  hv:Tn v=false
  hw:Tn w=false
  no:∀ x∈De v lines stays,∀ y∈De w lines stays,Fc x y=false
theorem NoC.symm {v w:api_Event} {lines:List Int} {stays:Int} (h:NoC v w lines stays):NoC w v lines stays:=
  ⟨h.t.symm,h.hw,h.hv,fun x hx y hy=>by rw [Xr];exact h.no y hy x hx⟩
theorem NoC.of {v w:api_Event} {lines:List Int} {stays:Int} (h:Ns v w lines stays=false):NoC v w lines stays:=by
  unfold Ns at h
  simp only [kym,decide_eq_false_iff_not] at h
  obtain ⟨⟨⟨h1,h2⟩,h3⟩,h4⟩:=h
  refine ⟨h1,h2,h3,fun x hx y hy=>?_⟩
  have:=kzz.1 h4 x hx
  rw [kwp] at this
  have:=kzz.1 this y hy
  rwa [kwp] at this
section
variable {v w:api_Event} {lines:List Int} {stays:Int}
theorem NoC.k16 (h:NoC v w lines stays):v.Kind≠16∧w.Kind≠16:=by
  have h1:=h.hv;have h2:=h.hw
  unfold Tn at h1 h2
  simp at h1 h2
  exact ⟨h1.2,h2.2⟩
def rdC (v:api_Event):Prop:=v.Kind=1∨v.Kind=8∨v.Kind=9
def wrC (v:api_Event):Prop:=v.Kind=8∨v.Kind=12
def lkC (v:api_Event):Prop:=v.Kind=10∨v.Kind=11
theorem Ja9 (h:wrC v):(⟨1,v.A,true⟩:api_Use)∈De v lines stays:=by
  unfold De wrC at *
  rw [if_neg (by omega),if_pos h];exact .head _
theorem JdH (h:rdC v∨wrC v):∃ b,(⟨1,v.A,b⟩:api_Use)∈De v lines stays:=by
  by_cases k:wrC v
  · exact ⟨true,Ja9 k⟩
  · have h := h.resolve_right k
    unfold rdC wrC at *
    refine ⟨false,?_⟩
    unfold De
    rw [if_pos (by omega)];exact .head _
theorem Ln (h:wrC v) {n:Int} (h0:0≤v.A∧v.A < stays) (hn:lines[v.A.toNat]? = some n):(⟨2,n,true⟩:api_Use)∈De v lines stays:=by
  unfold De wrC at *
  rw [if_neg (by omega),if_pos h,if_pos h0,hn]
  exact .tail _ (.head _)
theorem Nw (h:v.Kind=13):(⟨2,v.A,true⟩:api_Use)∈De v lines stays:=by
  unfold De
  rw [if_neg (by omega),if_neg (by omega),if_pos h];exact .head _
theorem JaI (h:lkC v):(⟨3,v.A,true⟩:api_Use)∈De v lines stays:=by
  unfold De lkC at *
  rw [if_neg (by omega),if_neg (by omega),if_neg (by omega),if_pos h];exact .head _
theorem Ja {k a b:Int} {p q:Bool} (h:Fc ⟨k,a,p⟩ ⟨k,b,q⟩=false) (hp:p=true∨q=true):a≠b:=by
  intro e
  subst e
  unfold Fc at h
  rcases hp with rfl | rfl <;> simp at h
theorem NoC.cell (h:NoC v w lines stays) (h1:wrC v) (h2:rdC w∨wrC w):v.A≠w.A:=by
  obtain ⟨b,hb⟩:=JdH (lines:=lines) (stays:=stays) h2
  exact Ja (h.no _ (Ja9 h1) _ hb) (.inl rfl)
theorem NoC.lock (h:NoC v w lines stays) (h1:lkC v) (h2:lkC w):v.A≠w.A:=Ja (h.no _ (JaI h1) _ (JaI h2)) (.inl rfl)
theorem Jaz {l:List Int} {i r:Nat} {v:Int} (h:i≠r):(l.set i v).getD r 0=l.getD r 0:=N6 (Ne.symm h)
theorem Xm {m:MS} (h:NoC v w lines stays) (hw:rdC w) (h0:0≤w.A):(mEv v m).l.getD w.A.toNat 0=m.l.getD w.A.toNat 0:=by
  have wr:∀ n,wrC v→(Be m v.A n).l.getD w.A.toNat 0=m.l.getD w.A.toNat 0:=fun n hv=>by
    have hne:=h.cell hv (.inl hw)
    unfold Be
    split
    · exact Jaz (by omega)
    · rfl
  unfold mEv
  split
  · exact wr _ (.inl (by assumption))
  · split
    · exact wr _ (.inr (by assumption))
    · split
      · unfold Eb;split <;> rfl
      · rfl
theorem Xe {lk:List Int} (h:NoC v w lines stays) (hw:lkC w) (h0:0≤w.A) (h1:lkC v→0≤v.A):(lEv v lk).getD w.A.toNat 0=lk.getD w.A.toNat 0:=by
  unfold lEv
  split
  · rename_i k
    have:=h.lock (.inl k) hw;have:=h1 (.inl k)
    exact Jaz (by omega)
  · split
    · rename_i k
      have:=h.lock (.inr k) hw;have:=h1 (.inr k)
      exact Jaz (by omega)
    · rfl
theorem JbR {lk:List Int} (h:NoC v w lines stays) (h0:lkC w→0≤w.A) (h1:lkC v→0≤v.A):lEv w (lEv v lk)=lEv v (lEv w lk):=by
  have ne:lkC v→lkC w→v.A.toNat≠w.A.toNat:=fun a b=>by
    have:=h.lock a b;have:=h0 b;have:=h1 a;omega
  unfold lkC at ne
  unfold lEv
  by_cases a:v.Kind=10
  · by_cases c : w.Kind = 10
    · rw [if_pos a,if_pos c,if_pos c,if_pos a];exact kyw _ _ (ne (.inl a) (.inl c))
    · by_cases d : w.Kind = 11
      · rw [if_pos a,if_neg c,if_pos d,if_neg c,if_pos d,if_pos a];exact kyw _ _ (ne (.inl a) (.inr d))
      · simp only [if_neg c,if_neg d]
  · by_cases b : v.Kind = 11
    · by_cases c : w.Kind = 10
      · rw [if_neg a,if_pos b,if_pos c,if_pos c,if_neg a,if_pos b];exact kyw _ _ (ne (.inr b) (.inl c))
      · by_cases d : w.Kind = 11
        · rw [if_neg a,if_pos b,if_neg c,if_pos d,if_neg c,if_pos d,if_neg a,if_pos b];exact kyw _ _ (ne (.inr b) (.inr d))
        · simp only [if_neg c,if_neg d]
    · simp only [if_neg a,if_neg b]
end
def Jdt (m:MS):Prop:=∀ j,∀ x∈m.pend j,0≤x.1∧x.1.toNat < m.of.length∧m.of.getD x.1.toNat 0=j
theorem Jhz {m:MS} {k:Rm} (h:Sim m k):Jdt m:=fun j x hx=>by
  rw [h.pend j] at hx
  unfold onL at hx
  obtain ⟨w,hw,rfl⟩:=kyq.1 hx
  rw [kwa] at hw
  have h1:=h.own w hw.1
  have h2:w.Line=j:=by simpa using hw.2
  unfold wr
  exact ⟨h1.1,h1.2.1,h1.2.2.trans h2⟩
theorem Xg {m:MS} {c1 n1 c2 n2:Int} (hc:c1≠c2) (hl:0≤c1→0≤c2→c1 < m.of.length→c2 < m.of.length→m.of.getD c1.toNat 0≠m.of.getD c2.toNat 0):Be (Be m c1 n1) c2 n2=Be (Be m c2 n2) c1 n1:=by
  by_cases r1:0≤c1∧c1 < (m.l.length:Int)
  · by_cases r2 : 0 ≤ c2 ∧ c2 < (m.l.length : Int)
    · have e1 : Be m c1 n1 = { m with l := m.l.set c1.toNat n1, pend := fun k => if c1 < m.of.length ∧ k = m.of.getD c1.toNat 0 then m.pend k ++ [(c1, n1)] else m.pend k } := by unfold Be; rw [if_pos r1]
      have e2:Be m c2 n2={ m with l:=m.l.set c2.toNat n2,pend:=fun k=>if c2 < m.of.length∧k=m.of.getD c2.toNat 0 then m.pend k ++ [(c2,n2)] else m.pend k }:=by unfold Be;rw [if_pos r2]
      rw [e1,e2]
      unfold Be
      rw [if_pos (by simpa using r2),if_pos (by simpa using r1)]
      simp only [MS.mk.injEq,true_and]
      refine ⟨kyw _ _ (by omega),funext fun k=>?_⟩
      by_cases a:c1 < (m.of.length:Int)∧k=m.of.getD c1.toNat 0
      · by_cases b : c2 < (m.of.length : Int) ∧ k = m.of.getD c2.toNat 0
        · exact absurd (a.2.symm.trans b.2) (hl r1.1 r2.1 a.1 b.1)
        · rw [if_neg b,if_pos a,if_pos a,if_neg b]
      · rw [if_neg a]
        by_cases b:c2 < (m.of.length:Int)∧k=m.of.getD c2.toNat 0
        · rw [if_pos b,if_neg a]
        · rw [if_neg b,if_neg a]
    · have e1 : ∀ q : MS, q.l.length = m.l.length → Be q c2 n2 = q := fun q hq => by unfold Be; rw [hq, if_neg r2]
      rw [e1 m rfl,e1]
      unfold Be;rw [if_pos r1];simp
  · have e1 : ∀ q : MS, q.l.length = m.l.length → Be q c1 n1 = q := fun q hq => by unfold Be; rw [hq, if_neg r1]
    rw [e1 m rfl,e1]
    unfold Be;split <;> simp
theorem Jy (m:MS) (l:Int):nlines (Eb m l)=nlines m:=by unfold Eb;split <;> rfl
theorem N5 (m:MS) (c n:Int):nlines (Be m c n)=nlines m:=by unfold Be;split <;> rfl
theorem Tj {m:MS} {c n l:Int} (hl:0≤c→c < m.of.length→m.of.getD c.toNat 0≠l):Be (Eb m l) c n=Eb (Be m c n) l:=by
  by_cases r2:0≤l∧l < (nlines m:Int)
  · by_cases r1 : 0 ≤ c ∧ c < (m.l.length : Int)
    · have e1 : Eb m l = { m with kept := Db (m.pend l) m.kept, pend := fun k => if k = l then [] else m.pend k } := by unfold Eb; rw [if_pos r2]
      have e2:Be m c n={ m with l:=m.l.set c.toNat n,pend:=fun k=>if c < m.of.length∧k=m.of.getD c.toNat 0 then m.pend k ++ [(c,n)] else m.pend k }:=by unfold Be;rw [if_pos r1]
      have e3:nlines (Be m c n)=nlines m:=N5 m c n
      rw [e2] at e3
      rw [e1,e2]
      unfold Be Eb
      rw [e3,if_pos r2,if_pos (by simpa using r1)]
      simp only [MS.mk.injEq,true_and]
      have ne : ¬ (c < (m.of.length:Int)∧l=m.of.getD c.toNat 0):=fun q=>hl r1.1 q.1 q.2.symm
      refine ⟨by rw [if_neg ne],funext fun k=>?_⟩
      by_cases a:k=l
      · subst a;rw [if_neg ne,if_pos rfl,if_pos rfl]
      · rw [if_neg a,if_neg a]
    · have e1 : ∀ q : MS, q.l.length = m.l.length → Be q c n = q := fun q hq => by unfold Be; rw [hq, if_neg r1]
      rw [e1 m rfl,e1]
      unfold Eb;rw [if_pos r2]
  · have e1 : ∀ q : MS, nlines q = nlines m → Eb q l = q := fun q hq => by unfold Eb; rw [hq, if_neg r2]
    rw [e1 m rfl,e1]
    exact N5 m c n
theorem Rx {c:Nat} {n:Int}:∀ {ws:List (Int×Int)} {l:List Int},(∀ x∈ws,x.1.toNat≠c)→Db ws (l.set c n)=(Db ws l).set c n
  | [],_,_=>rfl
  | x :: r, l, h => by
    show Db r ((l.set c n).set x.1.toNat x.2)=(Db r (l.set x.1.toNat x.2)).set c n
    rw [kyw _ _ (Ne.symm (h x (.head _))),Rx fun y hy=>h y (.tail _ hy)]
theorem Pe:∀ {a b:List (Int×Int)} {l:List Int},(∀ x∈a,∀ y∈b,x.1.toNat≠y.1.toNat)→Db a (Db b l)=Db b (Db a l)
  | [],_,_,_=>rfl
  | x :: r, b, l, h => by
    show Db r ((Db b l).set x.1.toNat x.2)=Db b (Db r (l.set x.1.toNat x.2))
    rw [← Rx fun y hy=>Ne.symm (h x (.head _) y hy),Pe fun q hq y hy=>h q (.tail _ hq) y hy]
theorem Jej {m:MS} (ho:Jdt m) {a b:Int} (hab:a≠b):Eb (Eb m a) b=Eb (Eb m b) a:=by
  by_cases r1:0≤a∧a < (nlines m:Int)
  · by_cases r2 : 0 ≤ b ∧ b < (nlines m : Int)
    · have e1 : Eb m a = { m with kept := Db (m.pend a) m.kept, pend := fun k => if k = a then [] else m.pend k } := by unfold Eb; rw [if_pos r1]
      have e2:Eb m b={ m with kept:=Db (m.pend b) m.kept,pend:=fun k=>if k=b then [] else m.pend k }:=by unfold Eb;rw [if_pos r2]
      have e3:=Jy m a;have e4:=Jy m b
      rw [e1] at e3;rw [e2] at e4
      rw [e1,e2]
      unfold Eb
      rw [e3,e4,if_pos r2,if_pos r1]
      simp only [MS.mk.injEq,true_and]
      rw [if_neg (Ne.symm hab),if_neg hab]
      refine ⟨Pe fun x hx y hy e=>?_,funext fun k=>?_⟩
      · have h1 := ho _ x hx; have h2 := ho _ y hy
        rw [e] at h1
        exact hab (h1.2.2.symm.trans h2.2.2).symm
      · by_cases c : k = a
        · subst c;rw [if_neg hab,if_pos rfl,if_pos rfl]
        · rw [if_neg c]
          by_cases d:k=b
          · rw [if_pos d,if_neg c]
          · rw [if_neg d,if_neg c]
    · have e1 : ∀ q : MS, nlines q = nlines m → Eb q b = q := fun q hq => by unfold Eb; rw [hq, if_neg r2]
      rw [e1 m rfl,e1];exact Jy m a
  · have e1 : ∀ q : MS, nlines q = nlines m → Eb q a = q := fun q hq => by unfold Eb; rw [hq, if_neg r1]
    rw [e1 m rfl,e1];exact Jy m b
section
variable {v w:api_Event} {lines:List Int} {stays:Int} {m:MS}
theorem Pv (hof:m.of=lines.take stays.toNat) (hs:stays≤(lines.length:Int)) {c:Int} (h0:0≤c) (h1:c < (m.of.length:Int)):(0≤c∧c < stays)∧lines[c.toNat]? = some (m.of.getD c.toNat 0):=by
  have hl:m.of.length≤stays.toNat:=by rw [hof,kyg];omega
  refine ⟨⟨h0,by omega⟩,?_⟩
  have h2:c.toNat < m.of.length:=by omega
  rw [Cu h2,← kxq h2,hof,List.getElem?_take_of_lt (by omega)]
theorem Jc8 (h:NoC v w lines stays) (ho:Jdt m) (hof:m.of=lines.take stays.toNat) (hs:stays≤(lines.length:Int)):mEv w (mEv v m)=mEv v (mEv w m):=by
  have WW:∀ a b,wrC v→wrC w→Be (Be m v.A a) w.A b=Be (Be m w.A b) v.A a:=fun a b h1 h2=>by
    refine Xg (h.cell h1 (.inr h2)) fun q1 q2 q3 q4=>?_
    have l1:=Pv hof hs q1 q3
    have l2:=Pv hof hs q2 q4
    exact Ja (h.no _ (Ln h1 l1.1 l1.2) _ (Ln h2 l2.1 l2.2)) (.inl rfl)
  have WO:∀ a,wrC v→w.Kind=13→Be (Eb m w.A) v.A a=Eb (Be m v.A a) w.A:=fun a h1 h2=>by
    refine Tj fun q1 q3=>?_
    have l1:=Pv hof hs q1 q3
    exact Ja (h.no _ (Ln h1 l1.1 l1.2) _ (Nw h2)) (.inl rfl)
  have OW:∀ a,wrC w→v.Kind=13→Be (Eb m v.A) w.A a=Eb (Be m w.A a) v.A:=fun a h1 h2=>by
    refine Tj fun q1 q3=>?_
    have l1:=Pv hof hs q1 q3
    exact Ne.symm (Ja (h.no _ (Nw h2) _ (Ln h1 l1.1 l1.2)) (.inl rfl))
  unfold wrC at WW WO OW
  unfold mEv
  by_cases a:v.Kind=8
  · by_cases c : w.Kind = 8
    · simp only [if_pos a,if_pos c];exact WW _ _ (.inl a) (.inl c)
    · by_cases d : w.Kind = 12
      · simp only [if_pos a,if_neg c,if_pos d];exact WW _ _ (.inl a) (.inr d)
      · by_cases e : w.Kind = 13
        · simp only [if_pos a,if_neg c,if_neg d,if_pos e];exact (WO _ (.inl a) e).symm
        · simp only [if_neg c,if_neg d,if_neg e]
  · by_cases b : v.Kind = 12
    · by_cases c : w.Kind = 8
      · simp only [if_neg a,if_pos b,if_pos c];exact WW _ _ (.inr b) (.inl c)
      · by_cases d : w.Kind = 12
        · simp only [if_neg a,if_pos b,if_neg c,if_pos d];exact WW _ _ (.inr b) (.inr d)
        · by_cases e : w.Kind = 13
          · simp only [if_neg a,if_pos b,if_neg c,if_neg d,if_pos e];exact (WO _ (.inr b) e).symm
          · simp only [if_neg c,if_neg d,if_neg e]
    · by_cases f : v.Kind = 13
      · by_cases c : w.Kind = 8
        · simp only [if_neg a,if_neg b,if_pos f,if_pos c];exact OW _ (.inl c) f
        · by_cases d : w.Kind = 12
          · simp only [if_neg a,if_neg b,if_pos f,if_neg c,if_pos d];exact OW _ (.inr d) f
          · by_cases e : w.Kind = 13
            · simp only [if_neg a, if_neg b, if_pos f, if_neg c, if_neg d, if_pos e]
              exact Jej ho (Ja (h.no _ (Nw f) _ (Nw e)) (.inl rfl))
            · simp only [if_neg c,if_neg d,if_neg e]
      · simp only [if_neg a,if_neg b,if_neg f]
end
end Go.MD.SWAPS
namespace Go.MD.SWAPS
open Go Go.MD Go.LL Go.MD.SWAPS.E
theorem Jek (v:api_Event) (m:MS):(mEv v m).l.length=m.l.length∧(mEv v m).of=m.of:=by
  unfold mEv
  repeat' split
  all_goals first | exact ⟨rfl,rfl⟩ | (unfold Be;split <;> simp) | (unfold Eb;split <;> simp)
theorem Jd5 {v:api_Event} {m:MS} (h:MInv m) (hf:∀ k,(m.pend k).length < 1000000):MInv (mEv v m):=by
  unfold mEv
  repeat' split
  · exact h.write hf
  · exact h.write hf
  · exact h.out
  · exact h
theorem Jea (v:api_Event) (lk:List Int):(lEv v lk).length=lk.length:=by
  unfold lEv
  repeat' split
  all_goals simp
theorem XOk.cong {m m':MS} {U:api_Unit} {lk lk':List Int} {x:TS} (h:XOk m U lk x) (h1:m'.l.length=m.l.length) (h2:lk'.length=lk.length):XOk m' U lk' x:=⟨h.q,by rw [h1,h2];exact h.tok,h.stop⟩
theorem Vk {m:MS} {U:api_Unit} {lk:List Int} {x x2:TS} (h:XOk m U lk x) (hlt:x.At < (x.C.L.length:Int)) (hC:x2.C=x.C) (hA:x2.At=x.At) (hR:x2.Regs.length=x.Regs.length) (hN:x2.Counts=x.Counts) (hF:x2.Fault=0) (hQ:x2.Q.length≤2):XOk m U lk (done x2):=by
  have ok:=Ea h.tok hlt hC hA hR hN
  obtain ⟨_,h2,h3⟩:=Iw ok hF
  refine ⟨?_,h2.ok,h2.stop⟩
  show (onS _).Q.length≤2
  rw [h3];exact hQ
section
variable {kd n fy ft:Int} {i:Nat} {lines lk:List Int} {m:MS} {x:TS} {U:api_Unit}
theorem Jch {y:api_Instr} (h:XOk m U lk x) (hlt:x.At < (x.C.L.length:Int)) (hF:x.Fault=0):XOk m U lk (Cc (i:Int) lines m lk ft fy x y).x:=by
  have put:∀ e,XOk m U lk (done (Sg x e)):=fun e=>Vk (x2:=Sg x e) h hlt rfl rfl rfl rfl hF (JaG h.q e).1
  have reg:∀ (j:Nat) (v:Int),XOk m U lk (done { x with Regs:=x.Regs.set j v }):=fun j v=>Vk (x2:={ x with Regs:=x.Regs.set j v }) h hlt rfl rfl kxr rfl hF h.q
  have same:XOk m U lk (done x):=Vk h hlt rfl rfl rfl rfl hF h.q
  unfold Cc
  repeat' split
  all_goals first | exact put _ | exact reg _ _ | exact same | exact h
theorem Jf3 (h:XOk m U lk x) (hp:PkT lk x kd n):XOk m U lk (doS kd i n lines m lk ft fy x).x:=by
  unfold doS
  rcases hp with ⟨rfl,rfl,hc⟩ | ⟨rfl,hc⟩
  · rw [if_neg (by decide)]
    have hlt:=JaA hc
    unfold Di
    split
    · rename_i hF
      split
      · exact Jch h hlt hF
      · exact h
    · exact h
  · rw [if_pos rfl]
    have hx:XOk m U lk { x with Q:=(Bb x.Q n).2.2 }:=⟨(Xt h.q n).1,h.tok,h.stop⟩
    unfold Mq
    repeat' split
    all_goals exact hx
theorem Jey (h:XOk m U lk x) (hU:(m.l.length:Int)=(U.Lines.length:Int)) (hp:PkT lk x kd n) (hk:rdC (doS kd i n lines m lk ft fy x).ev∨lkC (doS kd i n lines m lk ft fy x).ev):0≤(doS kd i n lines m lk ft fy x).ev.A:=by
  unfold rdC lkC at hk
  obtain ⟨_,hF,y,hy,hA,he⟩:=JfU (i:=i) (lines:=lines) (m:=m) (ft:=ft) (fy:=fy) hp (by omega) (by omega) (by omega) (by omega)
  rw [hA]
  rw [he] at hk
  have hy2:x.C.L[x.At.toNat]? = some y:=(Fh hy).2
  have hkd:=Oo (c:=x.C) h.tok.code hy2
  have hB:=Vl (c:=x.C) h.tok.code hy2
  have hs:=h.stop
  unfold Stop at hs
  have h2:2≤y.Kind∧y.Kind≤10:=by
    rcases hs with ⟨_,hs⟩ | ⟨hs,_⟩
    · exact hs y hy2
    · have : x.Fault = 1 ∨ x.Fault = 2 := hs
      omega
  by_cases k:y.Kind=2∨y.Kind=3∨y.Kind=4
  · exact (hB.2.1 k).1
  by_cases k5:y.Kind=5∨y.Kind=6
  · exact (hB.2.2.1 k5).1
  by_cases k9:y.Kind=9∨y.Kind=10
  · exact (hB.2.2.2 k9).1
  exfalso
  unfold Cc at hk
  rw [if_neg (by omega),if_neg (by omega),if_neg (by omega),if_neg (by omega)] at hk
  by_cases k7:y.Kind=7
  · rw [if_pos k7] at hk
    simp at hk
  · rw [if_neg k7, if_pos (by omega)] at hk
    simp at hk
end
structure PSt where
  m:MS
  lk:List Int
  ft:Int
  fy:Int
  xs:List TS
noncomputable def Dd (s:PSt):List api_Pick:=Er s.lk s.ft s.xs
noncomputable def evP (lines:List Int) (s:PSt) (p:api_Pick):api_Event:=match s.xs[p.T.toNat]? with | some x=>(doS p.Kind p.T.toNat p.I lines s.m s.lk s.ft s.fy x).ev | none=>⟨0,0,0,0,0⟩
noncomputable def Gq (lines:List Int) (s:PSt) (p:api_Pick):PSt:=match s.xs[p.T.toNat]? with
  | some x=>⟨(doS p.Kind p.T.toNat p.I lines s.m s.lk s.ft s.fy x).m,(doS p.Kind p.T.toNat p.I lines s.m s.lk s.ft s.fy x).lk,(doS p.Kind p.T.toNat p.I lines s.m s.lk s.ft s.fy x).ft,(doS p.Kind p.T.toNat p.I lines s.m s.lk s.ft s.fy x).fy,s.xs.set p.T.toNat (doS p.Kind p.T.toNat p.I lines s.m s.lk s.ft s.fy x).x⟩
  | none=>s
theorem Sb {lines:List Int} {s:PSt} {kd n:Int} {i:Nat} {x:TS} (h:s.xs[i]? = some x):evP lines s (mkP kd i n)=(doS kd i n lines s.m s.lk s.ft s.fy x).ev:=by
  unfold evP mkP
  simp only [kya,h]
theorem Gs {lines:List Int} {s:PSt} {kd n:Int} {i:Nat} {x:TS} (h:s.xs[i]? = some x):Gq lines s (mkP kd i n)=⟨(doS kd i n lines s.m s.lk s.ft s.fy x).m,(doS kd i n lines s.m s.lk s.ft s.fy x).lk,(doS kd i n lines s.m s.lk s.ft s.fy x).ft,(doS kd i n lines s.m s.lk s.ft s.fy x).fy,s.xs.set i (doS kd i n lines s.m s.lk s.ft s.fy x).x⟩:=by
  unfold Gq mkP
  simp only [kya,h]
structure OKP (U:api_Unit) (s:PSt):Prop where
  inv:MInv s.m
  len:(s.m.l.length:Int)=(U.Lines.length:Int)
  of:s.m.of=U.Lines.take U.Stays.toNat
  st:U.Stays≤(U.Lines.length:Int)
  xok:∀ x∈s.xs,XOk s.m U s.lk x
  n:s.xs.length≤100
  lkn:s.lk.length≤100
theorem Ig {s:PSt} {p:api_Pick} (h:p∈Dd s):s.ft=0∧∃ (i:Nat) (x:TS) (kd n:Int),s.xs[i]? = some x∧p=mkP kd i n∧PkT s.lk x kd n:=Na.1 h
theorem OKP.next {U:api_Unit} {s:PSt} {p:api_Pick} (h:OKP U s) (hf:∀ k,(s.m.pend k).length < 1000000) (hp:p∈Dd s):OKP U (Gq U.Lines s p):=by
  obtain ⟨_,i,x,kd,n,hx,rfl,hk⟩:=Ig hp
  rw [Gs hx]
  obtain ⟨e1,e2,_,_⟩:=Sc (i:=i) (lines:=U.Lines) (m:=s.m) (ft:=s.ft) (fy:=s.fy) hk
  have l1:=Jek (doS kd i n U.Lines s.m s.lk s.ft s.fy x).ev s.m
  have l2:=Jea (doS kd i n U.Lines s.m s.lk s.ft s.fy x).ev s.lk
  refine ⟨?_,?_,?_,h.st,fun z hz=>?_,?_,?_⟩
  · show MInv (doS kd i n U.Lines s.m s.lk s.ft s.fy x).m
    rw [e1];exact Jd5 h.inv hf
  · show ((doS kd i n U.Lines s.m s.lk s.ft s.fy x).m.l.length : Int) = _
    rw [e1,l1.1];exact h.len
  · show (doS kd i n U.Lines s.m s.lk s.ft s.fy x).m.of = _
    rw [e1,l1.2];exact h.of
  · have hz2:XOk s.m U s.lk z:=by
      rcases List.mem_or_eq_of_mem_set hz with q | q
      · exact h.xok z q
      · subst q;exact Jf3 (h.xok x (kyk hx)) hk
    refine hz2.cong ?_ ?_
    · show (doS kd i n U.Lines s.m s.lk s.ft s.fy x).m.l.length = _
      rw [e1,l1.1]
    · show (doS kd i n U.Lines s.m s.lk s.ft s.fy x).lk.length = _
      rw [e2,l2]
  · show (s.xs.set i _).length ≤ 100
    rw [kxr];exact h.n
  · show (doS kd i n U.Lines s.m s.lk s.ft s.fy x).lk.length ≤ 100
    rw [e2,l2];exact h.lkn
theorem Jg1 {U:api_Unit} {s:PSt} {a b:api_Pick} (h:OKP U s) (ho:Jdt s.m) (ha:a∈Dd s) (hb:b∈Dd s) (hT:a.T≠b.T) (hd:Ns (evP U.Lines s a) (evP U.Lines s b) U.Lines U.Stays=false) :
    b∈Dd (Gq U.Lines s a)∧a∈Dd (Gq U.Lines s b)∧evP U.Lines (Gq U.Lines s a) b=evP U.Lines s b∧evP U.Lines (Gq U.Lines s b) a=evP U.Lines s a∧Gq U.Lines (Gq U.Lines s a) b=Gq U.Lines (Gq U.Lines s b) a:=by
  obtain ⟨hft,i,x,kd,n,hx,rfl,hk⟩:=Ig ha
  obtain ⟨_,j,y,kd',n',hy,rfl,hk'⟩:=Ig hb
  have hij:i≠j:=fun e=>hT (by rw [e];rfl)
  rw [Sb hx,Sb hy] at hd ⊢
  have hN:=NoC.of hd
  have hxo:=h.xok x (kyk hx)
  have hyo:=h.xok y (kyk hy)
  have B1:=Jey (i:=i) (lines:=U.Lines) (ft:=s.ft) (fy:=s.fy) hxo h.len hk
  have B2:=Jey (i:=j) (lines:=U.Lines) (ft:=s.ft) (fy:=s.fy) hyo h.len hk'
  obtain ⟨a1,a2,a3,a4⟩:=Sc (i:=i) (lines:=U.Lines) (m:=s.m) (ft:=s.ft) (fy:=s.fy) hk
  obtain ⟨b1,b2,b3,b4⟩:=Sc (i:=j) (lines:=U.Lines) (m:=s.m) (ft:=s.ft) (fy:=s.fy) hk'
  have k16:=hN.k16
  obtain ⟨a5,a6⟩:=a4 k16.1
  obtain ⟨b5,b6⟩:=b4 k16.2
  have rd1:=fun q=>Xm (m:=s.m) hN.symm (w:=(doS kd i n U.Lines s.m s.lk s.ft s.fy x).ev) q (B1 (.inl q))
  have rd2:=fun q=>Xm (m:=s.m) hN (w:=(doS kd' j n' U.Lines s.m s.lk s.ft s.fy y).ev) q (B2 (.inl q))
  have rl1:=fun q=>Xe (lk:=s.lk) hN.symm (w:=(doS kd i n U.Lines s.m s.lk s.ft s.fy x).ev) q (B1 (.inr q)) (fun z=>B2 (.inr z))
  have rl2:=fun q=>Xe (lk:=s.lk) hN (w:=(doS kd' j n' U.Lines s.m s.lk s.ft s.fy y).ev) q (B2 (.inr q)) (fun z=>B1 (.inr z))
  obtain ⟨⟨x1,x2⟩,x3⟩:=Xv (ft':=s.ft) (fy':=s.fy) hk k16.1 rd1 rl1
  obtain ⟨⟨y1,y2⟩,y3⟩:=Xv (ft':=s.ft) (fy':=s.fy) hk' k16.2 rd2 rl2
  have mc:=Jc8 hN ho h.of h.st
  have lc:=JbR (lk:=s.lk) hN (fun q=>B2 (.inr q)) (fun q=>B1 (.inr q))
  have sy:(Gq U.Lines s (mkP kd i n)).xs[j]? = some y:=by
    rw [Gs hx]
    show (s.xs.set i _)[j]? = some y
    rw [kzs hij,hy]
  have sx:(Gq U.Lines s (mkP kd' j n')).xs[i]? = some x:=by
    rw [Gs hy]
    show (s.xs.set j _)[i]? = some x
    rw [kzs hij.symm,hx]
  rw [Sb sy,Sb sx,Gs sy,Gs sx,Gs hx,Gs hy]
  simp only
  rw [a1,a2,a5,a6,b1,b2,b5,b6]
  generalize hv:(doS kd i n U.Lines s.m s.lk s.ft s.fy x).ev=v at *
  generalize hw:(doS kd' j n' U.Lines s.m s.lk s.ft s.fy y).ev=w at *
  obtain ⟨c1,c2,_,c4⟩:=Sc (i:=i) (lines:=U.Lines) (m:=mEv w s.m) (ft:=s.ft) (fy:=s.fy) x3
  obtain ⟨d1,d2,_,d4⟩:=Sc (i:=j) (lines:=U.Lines) (m:=mEv v s.m) (ft:=s.ft) (fy:=s.fy) y3
  rw [x1] at c1 c2 c4
  rw [y1] at d1 d2 d4
  obtain ⟨c5,c6⟩:=c4 k16.1
  obtain ⟨d5,d6⟩:=d4 k16.2
  refine ⟨?_,?_,y1,x1,?_⟩
  · refine Na.2 ⟨hft, j, y, kd', n', ?_, rfl, y3⟩
    show (s.xs.set i _)[j]? = some y
    rw [kzs hij,hy]
  · refine Na.2 ⟨hft, i, x, kd, n, ?_, rfl, x3⟩
    show (s.xs.set j _)[i]? = some x
    rw [kzs hij.symm,hx]
  · rw [c1,c2,c5,c6,d1,d2,d5,d6,x2,y2,mc,lc,kyw _ _ hij]
end Go.MD.SWAPS
namespace Go.MD.SWAPS
open Go Go.MD Go.LL Go.MD.SWAPS.R
theorem Su {st:Int}:∀ (l:List Int) (j:Nat) (pv:Int) (b:Bool),(b=true→j=0)→Ir st j pv l=true→Dh pv b (l.take (st - j).toNat)=true
  | [],_,_,_,_,_=>by rw [List.take_nil];rfl
  | x :: r, j, pv, b, hb, h => by
    unfold Ir at h
    rw [kxc] at h
    by_cases z:(st - j).toNat=0
    · rw [z];rfl
    · obtain ⟨q, hq⟩ : ∃ q, (st - (j : Int)).toNat = q + 1 := ⟨_, (Nat.succ_pred z).symm⟩
      rw [hq,List.take_succ_cons]
      have h2:=Su r (j+1) x false (fun e=>nomatch e) h.2
      rw [show (st - ((j+1:Nat):Int)).toNat=q by omega] at h2
      unfold Dh
      rw [kxc]
      refine ⟨?_,h2⟩
      have h1:=h.1
      simp only [kyb,kxc,decide_eq_true_eq,kyc] at h1 ⊢
      rcases h1 with h1 | ⟨h1,_,h3⟩
      · exact .inl h1
      · refine .inr ⟨?_, h3⟩
        cases b with
        | false=>rfl
        | true=>have:=hb rfl;omega
structure UOk (u:api_Unit):Prop where
  lines:u.Lines.length≤20
  new:Vw u.Lines u.Stays u.Firsts
  locks:0≤u.Locks∧u.Locks≤2
  n:u.Threads.length≤3
  code:∀ c∈u.Threads,Df c (u.Lines.length:Int) (lnI u) u.Locks=true
  one:∀ c∈u.Threads,oneC c
  len:∀ c∈u.Threads,c.L.length≤80
theorem JbQ {u:api_Unit} (h:Pk u=true) (ho:JdB u):UOk u:=by
  unfold Pk at h
  simp only [kxc,kyc] at h
  obtain ⟨h1,h2,_,h3,_,_⟩:=h
  unfold Jbx at h1
  simp only [kym,decide_eq_false_iff_not] at h1
  have hc:=Su u.Lines 0 (-1) true (fun _=>rfl) h2
  refine ⟨by omega,⟨by omega,by omega,by omega,by omega,?_⟩,by omega,by omega,fun c hc=>kxp.1 h3 c hc,ho.1,ho.2.1⟩
  rw [show (u.Stays - ((0:Nat):Int)).toNat=u.Stays.toNat by omega] at hc
  exact hc
theorem Oj {c:api_Code} {p4 p5 p6:Int} (h:Df c p4 p5 p6=true):(0≤c.Regs∧c.Regs≤4)∧(0≤c.Counts∧c.Counts≤12):=by
  unfold Df at h
  rw [kxc,kyc] at h
  have h1:=h.1
  simp only [kym,decide_eq_false_iff_not] at h1
  omega
theorem Jdb {u:api_Unit} (h:UOk u) {c:api_Code} (hc:c∈u.Threads):TOk (u.Lines.length:Int) (lnI u) u.Locks ((x0 c).th none):=by
  obtain ⟨r1,r2⟩:=Oj (h.code c hc)
  refine ⟨h.code c hc,h.one c hc,Int.le_refl _,?_,?_,?_,?_,h.len c hc⟩
  · show (0:Int)≤(c.L.length:Int);omega
  · show ((List.replicate c.Regs.toNat (0 : Int)).length : Int) = c.Regs
    rw [kzu];omega
  · show ((List.replicate c.Counts.toNat (0 : Int)).length : Int) = c.Counts
    rw [kzu];omega
  · intro r
    show (List.replicate c.Counts.toNat (0:Int)).getD r 0≤_
    rw [kwd,List.getElem?_replicate]
    split <;> simp
noncomputable def s0 (u:api_Unit):PSt:=⟨Si u.Lines u.Stays u.Firsts,List.replicate u.Locks.toNat (-1),0,0,u.Threads.map fun c=>onS (x0 c)⟩
theorem Jgc {u:api_Unit} (h:UOk u):OKP u (s0 u):=by
  obtain ⟨n1,n2,n3,n4,n5⟩:=h.new
  refine ⟨MInv.new h.new,?_,rfl,n4,fun x hx=>?_,?_,?_⟩
  · show ((u.Firsts.length:Nat):Int)=_;omega
  · obtain ⟨c, hc, rfl⟩ := kyq.1 hx
    obtain ⟨_,h2,h3⟩:=Iw (Jdb h hc) rfl
    have e1:(((s0 u).m.l.length:Nat):Int)=(u.Lines.length:Int):=by show ((u.Firsts.length:Nat):Int)=_;omega
    have e2:(((s0 u).lk.length:Nat):Int)=u.Locks:=by show ((List.replicate u.Locks.toNat (-1:Int)).length:Int)=_;rw [kzu];have:=h.locks;omega
    refine ⟨?_,?_,h2.stop⟩
    · show (onS (x0 c)).Q.length ≤ 2
      rw [h3];exact kxt _
    · rw [e1,e2];exact h2.ok
  · show (u.Threads.map _).length ≤ 100
    rw [kxx];have:=h.n;omega
  · show (List.replicate u.Locks.toNat (-1 : Int)).length ≤ 100
    rw [kzu];have:=h.locks;omega
end Go.MD.SWAPS
namespace Go.LM.SWAPS
open Go Go.LL Go.MD Go.LM Go.Proofs Go.MD.SWAPS Go.Proofs.Tryz
set_option maxRecDepth 100000
set_option maxHeartbeats 4000000
theorem Om:FA 66 1 9:=fun _ _=>by kernel_rfl
theorem Kt:FA 66 4 12:=fun _ _=>by kernel_rfl
theorem Du:FA 107 4 6:=fun _ _=>by kernel_rfl
theorem Jgt {w0:World} {g:MGh} {k:KS} {l:List (TG×TS)} (ho:(mA g k l).ok (hp w0)) {e:TG×TS} (he:e∈l) (hrC:SR (hp w0) e.1.oC e.2.C.L) (h0:0≤e.2.At) (hB:∀ y,getI e.2.C.L e.2.At=some y→y.Kind=9→0≤y.B∧y.B.toNat < k.Lk.length) :
 Tot Tryz.prog 35 #[.pointer (some ⟨g.p,0,none⟩),.pointer (some ⟨e.1.tp,0,none⟩)] w0 (λv w'=>v=.bool (Mo k.Lk e.2)∧Keep Nil w0 w'):=by
 refine fn0 func35 rfl ntmps35 rfl rfl λa o=>?_
 have u:St w0 Nil [hp w0] [] w0:=.start (by simp [Ag])
 refine th<|rg<|qa o rfl λo=>re<|tn<|th<|th<|rxS 11 u wide (by kernel_rfl) λw u=>xm u o rfl λo=>xr u o (Af o rfl) λo=>xr u o (Ad o Fi rfl) λo=>xq u.ld o (λw hl=>Ap o isAgg3 rfl (hl.cellH t0 (Az ho he rfl))) λo=>xm u o rfl λo=>xr u o (Af o rfl) λo=>xr u o (Ad o Jr rfl) λo=>xr u o (Ad o Ge rfl) λo=>xq u.ld o (λw hl=>Ap o isAgg31 rfl (hl.cellH t0 (Az ho he rfl))) λo=>xr u o (Cn o Jl rfl) λo=>xr u o (Bw o rfl rfl) λo=>xe<|tn<|cs o rfl (λhb=>?_) (λhb=>?_)
 replace hb:=of_decide_eq_true hb
 refine th<|rg<|qa o rfl λo=>re<|tn<|wr<|tr<|r1 o Tryz.results35 rfl ⟨?_,u.keep⟩
 first | rw [Dq (by omega)] | (rw [Br hy];unfold Hn;simp_all;done) | (rw [Br hy];unfold Hn;split <;> simp_all <;> omega)
 replace hb:=Int.not_le.1 (of_decide_eq_false hb)
 refine wk<|tn<|?_
 obtain ⟨y,hy⟩:∃ y,getI e.2.C.L e.2.At=some y:=⟨_,Al (j:=e.2.At.toNat) (by omega) (by omega)⟩
 obtain ⟨cy,ey,hcy⟩:=SR.get hrC hy
 obtain ⟨oE,cE,oF,cF,rfl,hcE,hrE,hcF,hrF⟩:=Bv ey
 refine th<|rdS 12 u wide λw u=>dr 0 u o rfl (Aa o rfl) λo=>dr 1 u o rfl (Af o rfl) λo=>dr 2 u o rfl (Ad o Jr rfl) λo=>dr 3 u o rfl (Ad o Ge rfl) λo=>dq 4 u.ld o rfl (λw hl=>Ap o isAgg31 rfl (hl.cellH t0 (Az ho he rfl))) λo=>dr 5 u o rfl (Aa o rfl) λo=>dr 6 u o rfl (Af o rfl) λo=>dr 7 u o rfl (Ad o Fi rfl) λo=>dq 8 u.ld o rfl (λw hl=>Ap o isAgg3 rfl (hl.cellH t0 (Az ho he rfl))) λo=>dr 9 u o rfl (Co (xs:=e.2.C.L) (z:=y) o Jl sizeOf157 rfl rfl hy (SR.oaI hrC (by decide) hy)) λo=>dq 10 u.ld o rfl (λw hl=>An o isAgg157 sizeOf157 rfl rfl (λj v hj=>PH.le.cell (hl.hs _ t0) (hcy j v hj))) λo=>dz 11 rfl<|Aq o rfl u zeroValue157 rfl λbx w a u o=>⟨λ_=>(u.ly [] rfl),?_⟩
 refine dz 12 rfl<|Ar o u sizeOf157 rfl rfl rfl rfl (Ak rfl) .head λw u=>⟨λh=>absurd rfl h,?_⟩
 refine dE<|tn<|th<|th<|rg<|qm o rfl λo=>qv o (Af o rfl) λo=>qf o Ll rfl λo=>qv o (Ap o isAgg3 rfl (u.ld.cellH t0 (Az ho he rfl))) λo=>qv o (Bg o rfl rfl) λo=>qm o rfl λo=>Fr.split o (t:=33) rfl (λhb o=>?_) (λhb o=>?_)
 replace hb:=of_decide_eq_true hb
 iterate 3 refine qn o λo=>?_
 refine qv o (Ab o rfl rfl) λo=>re<|tn<|ct o rfl<|th<|rg<|ls<|q1 o rfl (Ca o rfl) λa o=>re<|tn<|wr<|tr<|r1 o Tryz.results35 rfl ⟨?_,u.keep⟩
 first | rw [Dq (by omega)] | (rw [Br hy];unfold Hn;simp_all;done) | (rw [Br hy];unfold Hn;split <;> simp_all <;> omega)
 replace hb:=kzc.1 (of_decide_eq_false hb)
 refine qg o (Ad o Bq rfl) λo=>qg o (eB o isAgg3 rfl u.ld t0 rfl) λo=>qg o (Ah o rfl rfl) λo=>qv o (Ac o rfl rfl) λo=>re<|tn<|cs o rfl (λhb=>?_) (λhb=>?_)
 replace hb:=of_decide_eq_true hb
 refine th<|rg<|qa o rfl λo=>re<|tn<|wr<|tr<|r1 o Tryz.results35 rfl ⟨?_,u.keep⟩
 first | rw [Dq (by omega)] | (rw [Br hy];unfold Hn;simp_all;done) | (rw [Br hy];unfold Hn;split <;> simp_all <;> omega)
 replace hb:=of_decide_eq_false hb
 refine wk<|tn<|th<|th<|rg<|qf o Bq rfl λo=>qB o isAgg3 rfl u t0 rfl λo=>qv o (Ah o rfl rfl) λo=>qm o rfl λo=>Fr.split o (t:=41) rfl (λhb o=>?_) (λhb o=>?_)
 replace hb:=of_decide_eq_true hb
 iterate 3 refine qn o λo=>?_
 refine qv o (Ab o rfl rfl) λo=>qm o rfl λo=>?_
 iterate 3 refine qn o λo=>?_
 refine qv o (Ab o rfl rfl) λo=>qm o rfl λo=>?_
 iterate 3 refine qn o λo=>?_
 refine qv o (Ab o rfl rfl) λo=>re<|tn<|ct o rfl<|th<|rxS 14 u wide (by kernel_rfl) λw u=>xm u o rfl λo=>xr u o (Af o rfl) λo=>xr u o (Ad o Du rfl) λo=>xq u.ld o (λw hl=>Ap o isAgg98 rfl (hl.cellH t0 (Az ho he rfl))) λo=>xr u o (Af o rfl) λo=>xr u o (Ad o Cd rfl) λo=>xq u.ld o (λw hl=>Ap o isAgg118 rfl (hl.cellH t0 (Ov ho he rfl))) λo=>xr u o (Cn o Ff rfl) λo=>xm u o rfl λo=>xr u o (Af o rfl) λo=>xr u o (Ad o Om rfl) λo=>xq u.ld o (λw hl=>Ap o isAgg3 rfl (hl.cellH t0 (Aw ho rfl))) λo=>xr u o (Am o rfl rfl) λo=>xr u o (Ca o rfl) λo=>xe<|tn<|wr<|tr<|r1 o Tryz.results35 rfl ⟨?_,u.keep⟩
 first | rw [Dq (by omega)] | (rw [Br hy];unfold Hn;simp_all;done) | (rw [Br hy];unfold Hn;split <;> simp_all <;> omega)
 replace hb:=of_decide_eq_false hb
 refine qg o (Ad o Bq rfl) λo=>qg o (eB o isAgg3 rfl u.ld t0 rfl) λo=>qg o (Ah o rfl rfl) λo=>qv o (Ac o rfl rfl) λo=>qm o rfl λo=>Fr.split o (t:=46) rfl (λhb o=>?_) (λhb o=>?_)
 replace hb:=of_decide_eq_true hb
 iterate 3 refine qn o λo=>?_
 refine qv o (Ab o rfl rfl) λo=>qm o rfl λo=>?_
 iterate 3 refine qn o λo=>?_
 refine qv o (Ab o rfl rfl) λo=>re<|tn<|ct o rfl<|th<|rxS 14 u wide (by kernel_rfl) λw u=>xm u o rfl λo=>xr u o (Af o rfl) λo=>xr u o (Ad o Du rfl) λo=>xq u.ld o (λw hl=>Ap o isAgg98 rfl (hl.cellH t0 (Az ho he rfl))) λo=>xr u o (Af o rfl) λo=>xr u o (Ad o Cd rfl) λo=>xq u.ld o (λw hl=>Ap o isAgg118 rfl (hl.cellH t0 (Ov ho he rfl))) λo=>xr u o (Cn o Ff rfl) λo=>xm u o rfl λo=>xr u o (Af o rfl) λo=>xr u o (Ad o Om rfl) λo=>xq u.ld o (λw hl=>Ap o isAgg3 rfl (hl.cellH t0 (Aw ho rfl))) λo=>xr u o (Am o rfl rfl) λo=>xr u o (Ca o rfl) λo=>xe<|tn<|wr<|tr<|r1 o Tryz.results35 rfl ⟨?_,u.keep⟩
 first | rw [Dq (by omega)] | (rw [Br hy];unfold Hn;simp_all;done) | (rw [Br hy];unfold Hn;split <;> simp_all <;> omega)
 replace hb:=of_decide_eq_false hb
 refine qg o (Ad o Bq rfl) λo=>qg o (eB o isAgg3 rfl u.ld t0 rfl) λo=>qg o (Ah o rfl rfl) λo=>qv o (Ac o rfl rfl) λo=>qm o rfl λo=>Fr.split o (t:=51) rfl (λhb o=>?_) (λhb o=>?_)
 replace hb:=of_decide_eq_true hb
 iterate 3 refine qn o λo=>?_
 refine qv o (Ab o rfl rfl) λo=>re<|tn<|ct o rfl<|th<|rxS 14 u wide (by kernel_rfl) λw u=>xm u o rfl λo=>xr u o (Af o rfl) λo=>xr u o (Ad o Du rfl) λo=>xq u.ld o (λw hl=>Ap o isAgg98 rfl (hl.cellH t0 (Az ho he rfl))) λo=>xr u o (Af o rfl) λo=>xr u o (Ad o Cd rfl) λo=>xq u.ld o (λw hl=>Ap o isAgg118 rfl (hl.cellH t0 (Ov ho he rfl))) λo=>xr u o (Cn o Ff rfl) λo=>xm u o rfl λo=>xr u o (Af o rfl) λo=>xr u o (Ad o Om rfl) λo=>xq u.ld o (λw hl=>Ap o isAgg3 rfl (hl.cellH t0 (Aw ho rfl))) λo=>xr u o (Am o rfl rfl) λo=>xr u o (Ca o rfl) λo=>xe<|tn<|wr<|tr<|r1 o Tryz.results35 rfl ⟨?_,u.keep⟩
 first | rw [Dq (by omega)] | (rw [Br hy];unfold Hn;simp_all;done) | (rw [Br hy];unfold Hn;split <;> simp_all <;> omega)
 replace hb:=of_decide_eq_false hb
 refine qg o (Ad o Bq rfl) λo=>qg o (eB o isAgg3 rfl u.ld t0 rfl) λo=>qg o (Ah o rfl rfl) λo=>qv o (Ac o rfl rfl) λo=>re<|tn<|cs o rfl (λhb=>?_) (λhb=>?_)
 replace hb:=of_decide_eq_true hb
 refine th<|rxS 14 u wide (by kernel_rfl) λw u=>xm u o rfl λo=>xr u o (Af o rfl) λo=>xr u o (Ad o Du rfl) λo=>xq u.ld o (λw hl=>Ap o isAgg98 rfl (hl.cellH t0 (Az ho he rfl))) λo=>xr u o (Af o rfl) λo=>xr u o (Ad o Cd rfl) λo=>xq u.ld o (λw hl=>Ap o isAgg118 rfl (hl.cellH t0 (Ov ho he rfl))) λo=>xr u o (Cn o Ff rfl) λo=>xm u o rfl λo=>xr u o (Af o rfl) λo=>xr u o (Ad o Om rfl) λo=>xq u.ld o (λw hl=>Ap o isAgg3 rfl (hl.cellH t0 (Aw ho rfl))) λo=>xr u o (Am o rfl rfl) λo=>xr u o (Ca o rfl) λo=>xe<|tn<|wr<|tr<|r1 o Tryz.results35 rfl ⟨?_,u.keep⟩
 first | rw [Dq (by omega)] | (rw [Br hy];unfold Hn;simp_all;done) | (rw [Br hy];unfold Hn;split <;> simp_all <;> omega)
 replace hb:=of_decide_eq_false hb
 refine wk<|tn<|?_
 have hyB:=hB y hy
 refine th<|rxS 26 u wide (by kernel_rfl) λw u=>xm u o rfl λo=>xr u o (Af o rfl) λo=>xr u o (Ad o Du rfl) λo=>xq u.ld o (λw hl=>Ap o isAgg98 rfl (hl.cellH t0 (Az ho he rfl))) λo=>xr u o (Af o rfl) λo=>xr u o (Ad o Cd rfl) λo=>xq u.ld o (λw hl=>Ap o isAgg118 rfl (hl.cellH t0 (Ov ho he rfl))) λo=>xr u o (Cn o Ff rfl) λo=>xr u o (Ah o rfl rfl) λo=>xm u o rfl λo=>Fr.split o (t:=78) rfl (λhb o=>?_) (λhb o=>?_)
 replace hb:=of_decide_eq_true hb
 refine xg u.ld o (λw hl=>Ad o Bq rfl) λo=>xg u.ld o (λw hl=>eB o isAgg3 rfl hl t0 rfl) λo=>xg u.ld o (λw hl=>Bg o rfl rfl) λo=>xg u.ld o (λw hl=>Aa o rfl) λo=>Fr.split o (t:=82) rfl (λhb o=>?_) (λhb o=>?_)
 replace hb:=of_decide_eq_true hb
 iterate 9 refine xn u.ld o λo=>?_
 refine xg u.ld o (λw hl=>Ab o rfl rfl) λo=>xr u o (Ab o rfl rfl) λo=>xr u o (Ca o rfl) λo=>xe<|tn<|wr<|r1 o Tryz.results35 rfl ⟨?_,u.keep⟩
 first | rw [Dq (by omega)] | (rw [Br hy];unfold Hn;simp_all;done) | (rw [Br hy];unfold Hn;split <;> simp_all <;> omega)
 replace hb:=kzc.1 (of_decide_eq_false hb)
 refine xg u.ld o (λw hl=>Aa o rfl) λo=>xg u.ld o (λw hl=>Af o rfl) λo=>xg u.ld o (λw hl=>Ad o Kt rfl) λo=>xg u.ld o (λw hl=>Ap o isAgg28 rfl (hl.cellH t0 (Aw ho rfl))) λo=>xg u.ld o (λw hl=>Ad o Ch rfl) λo=>xg u.ld o (λw hl=>eB o isAgg3 rfl hl t0 rfl) λo=>xg u.ld o (λw hl=>Es (i:=(y.B).toNat) o Bn sizeOf3 rfl rfl (by omega) (by omega) ((Pd ho).some (Dl (l:=k.Lk) (by omega)))) λo=>xg u.ld o (λw hl=>Ap o isAgg3 rfl (hl.elH t0 (Pd ho) (Eu (l:=k.Lk) (k:=(y.B).toNat) (by omega)))) λo=>xg u.ld o (λw hl=>Ah o rfl rfl) λo=>xg u.ld o (λw hl=>Ac o rfl rfl) λo=>xr u o (Ab o rfl rfl) λo=>xr u o (Ca o rfl) λo=>xe<|tn<|wr<|r1 o Tryz.results35 rfl ⟨?_,u.keep⟩
 first | rw [Dq (by omega)] | (rw [Br hy];unfold Hn;simp_all;done) | (rw [Br hy];unfold Hn;split <;> simp_all <;> omega)
 replace hb:=of_decide_eq_false hb
 iterate 4 refine xn u.ld o λo=>?_
 iterate 9 refine x1u u.ld o rfl rfl rfl rfl (λ_ _ _ h=>h) λa o=>?_
 refine xn u.ld o λo=>xr u o (Ac o rfl rfl) λo=>xr u o (Ca o rfl) λo=>xe<|tn<|wr<|r1 o Tryz.results35 rfl ⟨?_,u.keep⟩
 first | rw [Dq (by omega)] | (rw [Br hy];unfold Hn;simp_all;done) | (rw [Br hy];unfold Hn;split <;> simp_all <;> omega)
end Go.LM.SWAPS
