/- The engine's first part: partial heaps, owned assertions, the state of a walk, frames as lists. No condition: plain lemmas. -/
import Derived.WalkKit
import Derived.WalkSpells
import Derived.WalkLawsBesides
import Derived.Orders
import Derived.OrdersHeld
import Derived.OrdersIn
import Derived.TacticsIn
import Derived.OwnWalkIn
import Derived.RangeFuncCalls
import Derived.Laws.AppendOwn
import Derived.Deep.OwnRows
import Derived.Laws.CopyOwn
import Derived.ChangeKeysEq
import Derived.Laws.BitsLemmas
import Derived.ChangeSame
import Derived.ChangeSlices
import Derived.RowKit
import Derived.RowKit3
import Derived.WideKeyArgs
import Derived.JoinedOf
import Derived.JoinedAt
import Derived.IntWalk
import Derived.Lib.ItoaNum
namespace Go.LL
abbrev PH:=Nat→Option Obj
def hp (w:World):PH:=fun b=>w.heap[b]?
def PH.cell? (h:PH) (a:Addr):Option Value:=
  match h a.block with
  | some (.cells c _ _)=>if a.spot.isSome then none else c[a.off]?
  | _=>none
def PH.le (h:PH) (w:World):Prop:=∀ b o,h b=some o→w.heap[b]? = some o
theorem Ag (w:World):PH.le (hp w) w:=fun _ _ h=>h
theorem Ai (w:World) (a:Addr):PH.cell? (hp w) a=w.cell? a:=by
  unfold PH.cell? hp World.cell?
  cases h:w.heap[a.block]? with
  | none=>rfl
  | some o=>cases o <;> rfl
theorem PH.le.cell {h:PH} {w:World} {a:Addr} {v:Value} (hl:h.le w) (hc:h.cell? a=some v):w.cell? a=some v:=by
  unfold PH.cell? at hc
  cases hb:h a.block with
  | none=>rw [hb] at hc;cases hc
  | some o =>
    rw [hb] at hc
    have:=hl _ _ hb
    unfold World.cell?
    rw [this]
    cases o <;> first | exact hc | cases hc
theorem PH.le.lt {h:PH} {w:World} {b:Nat} {o:Obj} (hl:h.le w) (hc:h b=some o):b < w.heap.size:=
  (Array.getElem?_eq_some_iff.1 (hl _ _ hc)).1
structure Keep (M:Nat→Prop) (w w':World):Prop where
  os:w'.os=w.os
  tape:w'.tape=w.tape
  output:w'.output=w.output
  size:w.heap.size≤w'.heap.size
  block:∀ b,b < w.heap.size→¬ M b→w'.heap[b]? = w.heap[b]?
  fz:∀ a:Addr,a.block < w.heap.size→w'.frozen? a=w.frozen? a
def Kq (o:Obj):Prop:=∀ x:Nat,(match o with | .cells _ _ (lo,hi)=>decide (lo≤x) && decide (x < hi) | _=>false)=false
theorem H5 (c:Array Value) (t:TypeId):Kq (.cells c t (0,0)):=fun x=>by simp
theorem Xy (c:Array MapEntry) (k:Nat):Kq (.map c k):=fun _=>rfl
def Nil:Nat→Prop:=fun _=>False
theorem Keep.refl (M:Nat→Prop) (w:World):Keep M w w:=⟨rfl,rfl,rfl,Nat.le_refl _,fun _ _ _=>rfl,fun _ _=>rfl⟩
theorem Keep.trans {M N:Nat→Prop} {a b c:World} (h:Keep M a b) (k:Keep N b c) (hN:∀ x,x < a.heap.size→N x→M x):Keep M a c:=
  ⟨k.os.trans h.os, k.tape.trans h.tape, k.output.trans h.output, Nat.le_trans h.size k.size,
   fun x hx hm=>(k.block x (Nat.lt_of_lt_of_le hx h.size) (fun hn=>hm (hN x hx hn))).trans (h.block x hx hm),fun a ha=>(k.fz a (Nat.lt_of_lt_of_le ha h.size)).trans (h.fz a ha)⟩
theorem Keep.trans' {M:Nat→Prop} {a b c:World} (h:Keep M a b) (k:Keep Nil b c):Keep M a c:=h.trans k (fun _ _ hx=>hx.elim)
theorem Keep.mono {M N:Nat→Prop} {a b:World} (h:Keep M a b) (hs:∀ x,M x→N x):Keep N a b:=
  ⟨h.os,h.tape,h.output,h.size,fun x hx hn=>h.block x hx (fun hm=>hn (hs x hm)),h.fz⟩
theorem Keep.same {M:Nat→Prop} {w w':World} (h1:w'.heap=w.heap) (h2:w'.os=w.os) (h3:w'.tape=w.tape) (h4:w'.output=w.output):Keep M w w':=
  ⟨h2,h3,h4,by rw [h1];exact Nat.le_refl _,fun _ _ _=>by rw [h1],fun a _=>by simp only [World.frozen?,h1]⟩
theorem Keep.drew (M:Nat→Prop) (w:World):Keep M w w.drew:=.same rfl rfl rfl rfl
theorem Keep.alloc (M:Nat→Prop) (w:World) (o:Obj) (ho:Kq o):Keep M w (w.alloc o):=
  ⟨rfl,rfl,rfl,by simp,fun b hb _=>by
    show (w.heap.push o)[b]? = _
    rw [Array.getElem?_push,if_neg (by omega)],fun a _=>by
    unfold World.frozen?
    show (match (w.heap.push o)[a.block]? with | some (.cells _ _ (lo,hi))=>decide (lo≤a.off) && decide (a.off < hi) | _=>false)=_
    rw [Array.getElem?_push]
    by_cases e:a.block=w.heap.size
    · rw [if_pos e, show w.heap[a.block]? = none by rw [e]; simp]
      have:=ho a.off
      cases o <;> first | exact this | rfl
    · rw [if_neg e];rfl⟩
theorem Keep.le {M:Nat→Prop} {w w':World} {h:PH} (hk:Keep M w w') (hl:h.le w) (hM:∀ b,M b→h b=none):h.le w':=by
  intro b o hb
  rw [hk.block b (hl.lt hb) (fun hm=>by rw [hM b hm] at hb;cases hb)]
  exact hl b o hb
theorem Keep.leNil {w w':World} {h:PH} (hk:Keep Nil w w') (hl:h.le w):h.le w':=hk.le hl (fun _ hx=>hx.elim)
structure HA where
  fp:Nat→Prop
  ok:PH→Prop
  dom:∀ h b,ok h→fp b→h b≠none
  loc:∀ h h',(∀ b,fp b→h' b=h b)→ok h→ok h'
def blk (b:Nat) (o:Obj):HA:=
  { fp := fun x => x = b, ok := fun h => h b = some o,
    dom:=fun h x ho hx=>by subst hx;rw [ho];exact Option.some_ne_none o,
    loc:=fun h h' e ho=>by rw [e b rfl];exact ho }
def Dk:Value→Option Nat
  | .slice (some a) _ _=>some a.block
  | _=>none
def SlOk (e:TypeId) (sz:Nat) (v:Value) (n:Nat) (xs:List Value) (h:PH):Prop:=
  xs.length=n * sz∧
  ((v = .slice none 0 0 ∧ n = 0) ∨
   ∃ g cap cur,v=.slice (some ⟨g,0,none⟩) n cap∧h g=some (.cells cur e (0,0))∧n≤cap∧cap≤maxLen∧cur.size=cap * sz∧cur.toList.take (n * sz)=xs)
def sl (e:TypeId) (sz:Nat) (v:Value) (n:Nat) (xs:List Value):HA:=
  { fp := fun x => Dk v = some x, ok := SlOk e sz v n xs,
    dom:=fun h x ho hx=>by
      rcases ho.2 with ⟨rfl,_⟩ | ⟨g,cap,cur,rfl,hg,_⟩
      · cases hx
      · simp [Dk] at hx;subst hx;rw [hg];exact Option.some_ne_none _,
    loc:=fun h h' e' ho=>by
      refine ⟨ho.1,?_⟩
      rcases ho.2 with hn | ⟨g,cap,cur,rfl,hg,r⟩
      · exact .inl hn
      · exact .inr ⟨g,cap,cur,rfl,by rw [e' g rfl];exact hg,r⟩ }
inductive Repl (A A':HA):List HA→List HA→Prop
  | head {L:List HA}:Repl A A' (A :: L) (A' :: L)
  | tail {B:HA} {L L':List HA} (h:Repl A A' L L'):Repl A A' (B :: L) (B :: L')
inductive Pick (A:HA):List HA→List HA→Prop
  | head {L:List HA}:Pick A (A :: L) L
  | tail {B:HA} {L L':List HA} (h:Pick A L L'):Pick A (B :: L) (B :: L')
def Apart (A B:HA):Prop:=∀ b,A.fp b→¬ B.fp b
structure St (w0:World) (M:Nat→Prop) (Hs:List PH) (L:List HA) (w:World):Prop where
  keep:Keep M w0 w
  hs:∀ h∈Hs,h.le w
  ok:∀ A∈L,A.ok (hp w)
  own:∀ A∈L,∀ b,A.fp b→(w0.heap.size≤b∨M b)∧∀ h∈Hs,h b=none
  disj:L.Pairwise Apart
theorem St.start {w:World} {M:Nat→Prop} {Hs:List PH} (h:∀ x∈Hs,x.le w):St w M Hs [] w:=
  ⟨.refl M w,h,fun A hA=>(by cases hA),fun A hA=>(by cases hA),.nil⟩
theorem St.start1 {w:World} {Hs:List PH} {A:HA} (h:∀ x∈Hs,x.le w) (ho:A.ok (hp w)) (hd:∀ b,A.fp b→∀ x∈Hs,x b=none):St w A.fp Hs [A] w:=by
  refine ⟨.refl _ w,h,?_,?_,?_⟩
  · intro B hB;simp at hB;subst hB;exact ho
  · intro B hB b hb;simp at hB;subst hB;exact ⟨.inr hb,hd b hb⟩
  · exact List.pairwise_singleton _ _
section
variable {w0 w w':World} {M:Nat→Prop} {Hs:List PH} {L L':List HA}
theorem St.fpLt (hs:St w0 M Hs L w) {A:HA} (hA:A∈L) {b:Nat} (hb:A.fp b):b < w.heap.size:=by
  have h1:=hs.ok A hA
  have h2:=A.dom _ b h1 hb
  rcases Nat.lt_or_ge b w.heap.size with h | h
  · exact h
  · exact absurd (Array.getElem?_eq_none h) h2
theorem St.same (hs:St w0 M Hs L w) (h1:w'.heap=w.heap) (h2:w'.os=w.os) (h3:w'.tape=w.tape) (h4:w'.output=w.output):St w0 M Hs L w':=by
  have e:hp w'=hp w:=by unfold hp;rw [h1]
  refine ⟨hs.keep.trans' (.same h1 h2 h3 h4),fun h hh b o hb=>?_,fun A hA=>?_,hs.own,hs.disj⟩
  · rw [h1];exact hs.hs h hh b o hb
  · rw [e];exact hs.ok A hA
theorem St.drew (hs:St w0 M Hs L w):St w0 M Hs L w.drew:=hs.same rfl rfl rfl rfl
theorem St.pass (hs:St w0 M Hs L w) (hk:Keep Nil w w'):St w0 M Hs L w':=by
  refine ⟨hs.keep.trans' hk,fun h hh=>hk.leNil (hs.hs h hh),fun A hA=>?_,hs.own,hs.disj⟩
  exact A.loc _ _ (fun b hb=>hk.block b (hs.fpLt hA hb) id) (hs.ok A hA)
theorem St.add (hs:St w0 M Hs L w) {A:HA} (hk:Keep Nil w w') (ho:A.ok (hp w')) (hf:∀ b,A.fp b→w.heap.size≤b):St w0 M Hs (A :: L) w':=by
  have h1:=hs.pass hk
  refine ⟨h1.keep,h1.hs,?_,?_,?_⟩
  · intro B hB
    rcases List.mem_cons.1 hB with rfl | hB
    · exact ho
    · exact h1.ok B hB
  · intro B hB b hb
    rcases List.mem_cons.1 hB with rfl | hB
    · refine ⟨.inl (Nat.le_trans hs.keep.size (hf b hb)), fun h hh => ?_⟩
      cases hx:h b with
      | none=>rfl
      | some o=>have:=(hs.hs h hh).lt hx;have:=hf b hb;omega
    · exact h1.own B hB b hb
  · refine List.pairwise_cons.2 ⟨fun B hB b hb hb' => ?_, hs.disj⟩
    have:=hs.fpLt hB hb'
    have:=hf b hb
    omega
theorem Repl.memOld {A A':HA} (h:Repl A A' L L'):A∈L:=by
  induction h with
  | head=>exact .head _
  | tail _ ih=>exact .tail _ ih
theorem Repl.memNew {A A' B:HA} (h:Repl A A' L L') (hB:B∈L'):B=A'∨B∈L:=by
  induction h with
  | head =>
    rcases List.mem_cons.1 hB with rfl | hB
    · exact .inl rfl
    · exact .inr (.tail _ hB)
  | tail _ ih =>
    rcases List.mem_cons.1 hB with rfl | hB
    · exact .inr (.head _)
    · rcases ih hB with h | h
      · exact .inl h
      · exact .inr (.tail _ h)
theorem Repl.others {A A':HA} (h:Repl A A' L L') (hd:L.Pairwise Apart):∀ B∈L',B=A'∨(B∈L∧Apart A B):=by
  induction h with
  | head =>
    intro B hB
    rcases List.mem_cons.1 hB with rfl | hB
    · exact .inl rfl
    · exact .inr ⟨.tail _ hB,(List.pairwise_cons.1 hd).1 B hB⟩
  | tail h' ih =>
    intro B hB
    rcases List.mem_cons.1 hB with rfl | hB
    · refine .inr ⟨.head _,fun b hA hb=>(List.pairwise_cons.1 hd).1 A h'.memOld b hb hA⟩
    · rcases ih (List.pairwise_cons.1 hd).2 B hB with h | ⟨h, k⟩
      · exact .inl h
      · exact .inr ⟨.tail _ h,k⟩
theorem Repl.pairwise {A A':HA} (h:Repl A A' L L') (hd:L.Pairwise Apart) (hn:∀ B∈L,Apart A B→Apart A' B):L'.Pairwise Apart:=by
  induction h with
  | head =>
    have:=List.pairwise_cons.1 hd
    exact List.pairwise_cons.2 ⟨fun B hB=>hn B (.tail _ hB) (this.1 B hB),this.2⟩
  | tail h' ih =>
    rename_i B0 L0 L0'
    have hc:=List.pairwise_cons.1 hd
    refine List.pairwise_cons.2 ⟨fun B hB=>?_,ih hc.2 (fun B hB=>hn B (.tail _ hB))⟩
    rcases h'.memNew hB with rfl | hB'
    · have h0 : Apart A B0 := fun b hA hb => hc.1 A h'.memOld b hb hA
      have h1:=hn B0 (.head _) h0
      exact fun b hb hA'=>h1 b hA' hb
    · exact hc.1 B hB'
theorem St.upd (hs:St w0 M Hs L w) {A A':HA} (hr:Repl A A' L L') (hk:Keep A.fp w w') (ho:A'.ok (hp w')) (hf:∀ b,A'.fp b→A.fp b∨w.heap.size≤b):St w0 M Hs L' w':=by
  have hA:=hr.memOld
  refine ⟨hs.keep.trans hk (fun x hx hA'=>?_),fun h hh=>hk.le (hs.hs h hh) (fun b hb=>(hs.own A hA b hb).2 h hh),?_,?_,?_⟩
  · rcases (hs.own A hA x hA').1 with h | h
    · omega
    · exact h
  · intro B hB
    rcases hr.others hs.disj B hB with rfl | ⟨hB',hap⟩
    · exact ho
    · exact B.loc _ _ (fun b hb=>hk.block b (hs.fpLt hB' hb) (fun hA'=>hap b hA' hb)) (hs.ok B hB')
  · intro B hB b hb
    rcases hr.memNew hB with rfl | hB'
    · rcases hf b hb with h | h
      · exact hs.own A hA b h
      · refine ⟨.inl (Nat.le_trans hs.keep.size h), fun h' hh => ?_⟩
        cases hx:h' b with
        | none=>rfl
        | some o=>have:=(hs.hs h' hh).lt hx;omega
    · exact hs.own B hB' b hb
  · refine hr.pairwise hs.disj (fun B hB hap b hb hb' => ?_)
    rcases hf b hb with h | h
    · exact hap b h hb'
    · have:=hs.fpLt hB hb';omega
theorem Pick.mem {A:HA} (h:Pick A L L'):A∈L:=by
  induction h with
  | head=>exact .head _
  | tail _ ih=>exact .tail _ ih
theorem Pick.sub {A B:HA} (h:Pick A L L') (hB:B∈L'):B∈L:=by
  induction h with
  | head=>exact .tail _ hB
  | tail _ ih =>
    rcases List.mem_cons.1 hB with rfl | hB
    · exact .head _
    · exact .tail _ (ih hB)
theorem Pick.pairwise {A:HA} (h:Pick A L L') (hd:L.Pairwise Apart):L'.Pairwise Apart∧∀ B∈L',Apart A B:=by
  induction h with
  | head=>exact ⟨(List.pairwise_cons.1 hd).2,(List.pairwise_cons.1 hd).1⟩
  | tail h' ih =>
    have hc:=List.pairwise_cons.1 hd
    have:=ih hc.2
    refine ⟨List.pairwise_cons.2 ⟨fun B hB=>hc.1 B (h'.sub hB),this.1⟩,fun B hB=>?_⟩
    rcases List.mem_cons.1 hB with rfl | hB
    · exact fun b hA hb=>hc.1 A h'.mem b hb hA
    · exact this.2 B hB
theorem St.drop (hs:St w0 M Hs L w) {A:HA} (hp:Pick A L L'):St w0 M Hs L' w:=
  ⟨hs.keep,hs.hs,fun B hB=>hs.ok B (hp.sub hB),fun B hB=>hs.own B (hp.sub hB),(hp.pairwise hs.disj).1⟩
theorem St.sub (hs:St w0 M Hs L w) (h:L'.Sublist L):St w0 M Hs L' w:=
  ⟨hs.keep,hs.hs,fun B hB=>hs.ok B (h.subset hB),fun B hB=>hs.own B (h.subset hB),hs.disj.sublist h⟩
theorem Ip {w:World} {b off:Nat} {c:Array Value} {e:TypeId} {f:Nat×Nat} {v:Value} (hb:w.heap[b]? = some (.cells c e f)) (hv:c[off]? = some v):w.cell? ⟨b,off,none⟩=some v:=by
  simp [World.cell?,hb,hv]
end
structure FN where
  n:Nat
  df:List Deferred
  ds:List Nat
instance (n:Nat):OfNat FN n:=⟨⟨n,[],[]⟩⟩
def JbP (D:Nat):Deferred:={ target:=.collected D,args:=#[] }
structure Fr (N:FN) (F:List (Nat×Value)) (a:Act):Prop where
  size:a.tmps.size=N.n
  slots:∀ t v,F.lookup t=some v→a.tmps[t]? = some v
  defers:a.defers=N.ds.map JbP ++ N.df
def nth {α:Type}:List α→Nat→Option α
  | [],_=>none
  | x :: _,0=>some x
  | _ :: r,n+1=>nth r n
theorem Kg {α:Type} (l:List α) (n:Nat):nth l n=l[n]?:=by
  induction l generalizing n with
  | nil=>simp [nth]
  | cons x r ih=>cases n <;> simp [nth,ih]
def opv (F:List (Nat×Value)):Operand→Option Value
  | .tmp t=>F.lookup t
  | .const v=>some v
  | .global g=>some (.pointer (some ⟨g,0,none⟩))
  | .func f=>some (.func (.func f) #[] #[])
section
variable {N:FN} {F:List (Nat×Value)} {a:Act}
theorem Fr.ev (hF:Fr N F a) {x:Operand} {v:Value} (h:opv F x=some v):a.eval x=v:=by
  cases x with
  | tmp t =>
    have:=hF.slots t v h
    simp [Act.eval,this]
  | const u=>simp [opv] at h;simp [Act.eval,h]
  | global g=>simp [opv] at h;simp [Act.eval,h]
  | func f=>simp [opv] at h;simp [Act.eval,h]
theorem Fr.put (hF:Fr N F a) {d:Nat} (hd:d < N.n) (v:Value):Fr N ((d,v) :: F) (a.put (some d) v):=by
  refine ⟨by simp [Act.put,hF.size],fun t u h=>?_,hF.defers⟩
  simp only [List.lookup_cons] at h
  by_cases e:t=d
  · subst e
    simp at h;subst h
    have:t < a.tmps.size:=by rw [hF.size];exact hd
    simp [Act.put,this]
  · have : (t == d) = false := by simp [e]
    rw [this] at h
    have hne:d≠t:=fun x=>e x.symm
    simp [Act.put,Array.getElem?_setIfInBounds_ne hne,hF.slots t u h]
theorem Fr.sub (hF:Fr N F a) {F':List (Nat×Value)} (h:∀ p∈F',F.lookup p.1=some p.2):Fr N F' a:=by
  refine ⟨hF.size,fun t v hv=>?_,hF.defers⟩
  have:(t,v)∈F':=by
    clear h hF
    induction F' with
    | nil=>cases hv
    | cons p F' ih =>
      obtain ⟨k,u⟩:=p
      rw [List.lookup_cons] at hv
      by_cases e:t=k
      · subst e
        simp at hv
        subst hv;exact .head _
      · have e' : (t == k) = false := by simp [e]
        simp only [e'] at hv
        exact .tail _ (ih hv)
  exact hF.slots t v (h (t,v) this)
def Has (F:List (Nat×Value)):List (Nat×Value)→Prop
  | []=>True
  | p :: r=>F.lookup p.1=some p.2∧Has F r
theorem Fr.has (hF:Fr N F a) {F':List (Nat×Value)} (h:Has F F'):Fr N F' a:=by
  refine hF.sub ?_
  induction F' with
  | nil=>intro p hp;cases hp
  | cons q F' ih =>
    intro p hp
    rcases List.mem_cons.1 hp with rfl | hp
    · exact h.1
    · exact ih h.2 p hp
theorem Fr.enter {N:Nat} {args:Array Value} {n:Nat} (hn:args.size+n=N) :
    Fr ⟨N,[],[]⟩ (args.toList.zipIdx.map fun p=>(p.2,p.1)) { tmps:=args ++ Array.replicate n undef,defers:=[] }:=by
  refine ⟨by simp [hn],fun t v h=>?_,rfl⟩
  have key:∀ (l:List Value) (k:Nat),(l.zipIdx k |>.map fun p=>(p.2,p.1)).lookup t=some v→l[t - k]? = some v∧k≤t:=by
    intro l
    induction l with
    | nil=>intro k h;cases h
    | cons x l ih =>
      intro k h
      by_cases e:t=k
      · subst e
        rw [List.zipIdx_cons,List.map_cons,List.lookup_cons] at h
        simp at h
        simp [h]
      · have e' : (t == k) = false := by simp [e]
        rw [List.zipIdx_cons,List.map_cons,List.lookup_cons] at h
        simp only [e'] at h
        have:=ih (k+1) h
        refine ⟨?_,by omega⟩
        rw [show t - k=(t - (k+1))+1 by omega]
        simpa using this.1
  have h1:args[t]? = some v:=by simpa using (key args.toList 0 h).1
  have hlt:t < args.size:=(Array.getElem?_eq_some_iff.1 h1).1
  rw [Array.getElem?_append_left hlt]
  exact h1
end
end Go.LL
namespace Go.LL
open Go
section
variable {P:Program} {ops:Array Oper} {Q:Exit→Act→World→Prop} {a:Act} {w:World}
def stp (P:Program) (ops:Array Oper) (Q:Exit→Act→World→Prop) (o:Oper) (a:Act) (w:World) (K:Act→World→Prop):Prop:=
  if Region.wanted o (yielded ops a.tmps)=true then o.wp P a w K Q else K (a.put o.dst undef) w
theorem Gj {o:Oper} {K:Act→World→Prop} (hW:Region.wanted o (yielded ops a.tmps)=true) (h:o.wp P a w K Q):stp P ops Q o a w K:=by
  unfold stp;rw [if_pos hW];exact h
theorem Xo {o:Oper} {K:Act→World→Prop} (hW:Region.wanted o (yielded ops a.tmps)=false) (h:K (a.put o.dst undef) w):stp P ops Q o a w K:=by
  unfold stp;rw [if_neg (by rw [hW];exact Bool.false_ne_true)];exact h
abbrev FR (ro:Option Nat):Fence:={ Fence.wide with round:=ro }
def wq (ro:Option Nat) (P:Program) (c:Code) (Q:Exit→Act→World→Prop) (a:Act) (w:World):Prop:=c.wpIn (FR ro) 0 P Q a w
class NoOut (Q:Exit→Act→World→Prop):Prop where
  no : ¬ LetsOut Q
instance {K:Act→World→Prop} [NoOut Q]:NoOut (Exit.then K Q):=⟨fun ⟨a,w,h⟩=>NoOut.no (Q:=Q) ⟨a,w,h⟩⟩
instance {id:Nat} [NoOut Q]:NoOut (Exit.inBlock id Q):=⟨fun ⟨a,w,h⟩=>NoOut.no (Q:=Q) ⟨a,w,h⟩⟩
instance {fn:Func} {R:Value→World→Prop}:NoOut (bodyPost P fn fun e w'=>∃ v,e=.returned v∧R v w'):=⟨fun ⟨_,_,h⟩=>by
  obtain ⟨v,e,_⟩:=h;cases e⟩
def Em (o:Oper):Bool:=match o.op with | .defer _=>false | _=>true
theorem Rk {o:Oper} (h:Em o=true):∀ c,o.op≠.defer c:=fun c e=>by simp [Em,e] at h
theorem Jez {ro:Option Nat} {o:Oper} {K:Act→World→Prop} (hd:Em o=true) (h:o.wp P a w K Q):o.wpIn (FR ro) 0 P a w K Q:=by
  unfold Oper.wpIn
  refine ⟨fun _ _=>trivial,?_⟩
  rw [Oper.semAt_plain (FR ro) _ _ (Rk hd)]
  unfold Oper.wp at h
  generalize (execOp a.eval o).run P w=r at *
  cases r with
  | ok n w' =>
    cases n with
    | enter f args=>exact ⟨fun e=>(by cases e),callsIn_wide.2 h⟩
    | row row args =>
      refine ⟨fun e=>(by cases e),fun c cs _=>?_⟩
      obtain ⟨v,w'',hr,hs⟩:=h c cs
      exact ⟨v,w'',hr,stepsIn_wide.2 hs⟩
    | round l f tmps assign body=>exact absurd h (by simp [Oper.upon])
    | _=>exact h
  | halt e w'=>cases e <;> first | exact h | exact absurd h (by simp [Oper.upon])
def yl (P:Program) (o:Oper) (a:Act) (w:World) (K:Act→World→Prop):Prop:=
  ∃ l f tmps assign body,(execOp a.eval o).run P w=.ok (.round l f tmps assign body) w∧RoundIn Fence.wide 0 P l f tmps assign body w fun e w'=>∃ v,e=.returned v∧K (a.put o.dst v) w'
def wpL (P:Program) (ops:Array Oper) (Q:Exit→Act→World→Prop):List Oper→Act→World→Prop
  | [],a,w=>Q .normal a w
  | o :: rest,a,w=>stp P ops Q o a w (wpL P ops Q rest)∨(Region.wanted o (yielded ops a.tmps)=true∧yl P o a w (wpL P ops Q rest))
theorem ls {o:Oper} {rest:List Oper} (h:stp P ops Q o a w (wpL P ops Q rest)):wpL P ops Q (o :: rest) a w:=.inl h
theorem JbV {ro:Option Nat}:∀ (l:List Oper) (a:Act) (w:World),l.all Em=true→wpL P ops Q l a w→wpListIn (FR ro) 0 P ops Q l a w
  | [],_,_,_,h=>h
  | o :: rest, a, w, hd, h => by
    simp only [List.all_cons,Bool.and_eq_true] at hd
    refine wpListIn_step fun K hK=>?_
    have hK':∀ a w,wpL P ops Q rest a w→K a w:=fun a w h=>hK a w (JbV rest a w hd.2 h)
    rcases h with h | ⟨hg,l,f,tmps,assign,body,hr,hy⟩
    · unfold stp at h
      split
      · rename_i hw;rw [if_pos hw] at h;exact Jez hd.1 (Oper.wp_mono hK' h)
      · rename_i hw;rw [if_neg hw] at h;exact ⟨fun _ _=>trivial,hK' _ _ h⟩
    · rw [if_pos hg]
      unfold Oper.wpIn
      refine ⟨fun _ _=>trivial,?_⟩
      rw [Oper.semAt_plain (FR ro) _ _ (Rk hd.1),hr]
      refine ⟨fun e=>(by cases e),?_⟩
      refine RoundIn.mono (F:=Fence.wide) hy ?_
      rintro e w' ⟨v,rfl,h⟩
      exact hK' _ _ h
theorem rg {ro:Option Nat} {id:Nat} {l:List Oper} (h:wpL P l.toArray Q l a w) (hd:l.all Em=true:=by rfl):wq ro P (Code.region id l.toArray false) Q a w:=wpIn_region_lit (JbV l a w hd h)
theorem re (h:Q .normal a w):wpL P ops Q [] a w:=h
theorem Jd0 (d:Option Tmp) (op:Op) (ty:TypeId) (pos:String) (af:Array Edge):Region.wanted ⟨d,op,ty,pos,af,none⟩ (yielded ops a.tmps)=true:=rfl
theorem Rn {j t:Nat} {b:Bool} {N:FN} {F:List (Nat×Value)} (hF:Fr N F a) (hj:(ops[j]?).bind (·.dst)=some t) (ht:F.lookup t=some (.bool b)):yielded ops a.tmps j=some b:=by
  unfold yielded
  rw [hj]
  simp [hF.slots t _ ht]
theorem Uw {d:Option Tmp} {op:Op} {ty:TypeId} {pos:String} {af:Array Edge} {j t:Nat} {b:Bool} {N:FN} {F:List (Nat×Value)}
    (hF:Fr N F a) (hj:(ops[j]?).bind (·.dst)=some t) (ht:F.lookup t=some (.bool b)):Region.wanted ⟨d,op,ty,pos,af,some (j,b)⟩ (yielded ops a.tmps)=true:=by
  simp [Region.wanted,Rn hF hj ht]
theorem Yv {d:Option Tmp} {op:Op} {ty:TypeId} {pos:String} {af:Array Edge} {j t:Nat} {b b':Bool} {N:FN} {F:List (Nat×Value)}
    (hF:Fr N F a) (hj:(ops[j]?).bind (·.dst)=some t) (ht:F.lookup t=some (.bool b')) (hne:(b' == b)=false):Region.wanted ⟨d,op,ty,pos,af,some (j,b)⟩ (yielded ops a.tmps)=false:=by
  have h:(some b' == some b)=false:=by simpa using hne
  simp only [Region.wanted,Rn hF hj ht,h]
theorem gy {d:Option Tmp} {op:Op} {ty:TypeId} {pos:String} {af:Array Edge} {j t:Nat} {b:Bool} {N:FN} {F:List (Nat×Value)} {K:Act→World→Prop}
    (hF:Fr N F a) (hj:(ops[j]?).bind (·.dst)=some t) (ht:F.lookup t=some (.bool b)) (h:stp P ops Q ⟨d,op,ty,pos,af,none⟩ a w K):stp P ops Q ⟨d,op,ty,pos,af,some (j,b)⟩ a w K:=by
  refine Gj (Uw hF hj ht) ?_
  unfold stp at h
  rw [if_pos (Jd0 d op ty pos af)] at h
  exact h
theorem gn {d:Nat} {op:Op} {ty:TypeId} {pos:String} {af:Array Edge} {j t:Nat} {b b':Bool} {N:FN} {F:List (Nat×Value)} {K:Act→World→Prop}
    (hF:Fr N F a) (hN:Nat.blt d N.n=true) (hj:(ops[j]?).bind (·.dst)=some t) (ht:F.lookup t=some (.bool b')) (hne:(b' == b)=false)
    (k:∀ a,Fr N ((d,undef) :: F) a→K a w):stp P ops Q ⟨some d,op,ty,pos,af,some (j,b)⟩ a w K:=
  Xo (Yv hF hj ht hne) (k _ (hF.put (by simpa [Nat.blt_eq] using hN) undef))
theorem Sm {j t:Nat} {N:FN} {F:List (Nat×Value)} (hF:Fr N F a) (hj:(ops[j]?).bind (·.dst)=some t) (ht:F.lookup t=some undef):yielded ops a.tmps j=none:=by
  unfold yielded
  rw [hj]
  simp [hF.slots t _ ht,undef]
theorem Jc9 {d:Option Tmp} {op:Op} {ty:TypeId} {pos:String} {af:Array Edge} {j t:Nat} {b:Bool} {N:FN} {F:List (Nat×Value)}
    (hF:Fr N F a) (hj:(ops[j]?).bind (·.dst)=some t) (ht:F.lookup t=some undef):Region.wanted ⟨d,op,ty,pos,af,some (j,b)⟩ (yielded ops a.tmps)=false:=by
  simp [Region.wanted,Sm hF hj ht]
theorem gnu {d:Nat} {op:Op} {ty:TypeId} {pos:String} {af:Array Edge} {j t:Nat} {b:Bool} {N:FN} {F:List (Nat×Value)} {K:Act→World→Prop}
    (hF:Fr N F a) (hN:Nat.blt d N.n=true) (hj:(ops[j]?).bind (·.dst)=some t) (ht:F.lookup t=some undef)
    (k:∀ a,Fr N ((d,undef) :: F) a→K a w):stp P ops Q ⟨some d,op,ty,pos,af,some (j,b)⟩ a w K:=
  Xo (Jc9 hF hj ht) (k _ (hF.put (by simpa [Nat.blt_eq] using hN) undef))
theorem Fr.split {N:FN} {F:List (Nat×Value)} {G:Prop} {t:Nat} {b:Bool} (hF:Fr N F a) (ht:F.lookup t=some (.bool b))
    (ky:b=true→Fr N ((t,.bool true) :: F) a→G) (kn:b=false→Fr N ((t,.bool false) :: F) a→G):G:=by
  have key:∀ c,b=c→Fr N ((t,.bool c) :: F) a:=fun c hc=>by
    refine ⟨hF.size,fun u v h=>?_,hF.defers⟩
    rw [List.lookup_cons] at h
    by_cases e:u=t
    · subst e;simp at h;subst h;subst hc;exact hF.slots u _ ht
    · have e' : (u == t) = false := by simp [e]
      simp only [e'] at h;exact hF.slots u v h
  cases hb:b with
  | true=>exact ky hb (key true hb)
  | false=>exact kn hb (key false hb)
theorem Fr.as {N:FN} {F:List (Nat×Value)} {t:Nat} {v v':Value} (hF:Fr N F a) (ht:F.lookup t=some v) (e:v=v'):Fr N ((t,v') :: F) a:=by
  subst e
  refine ⟨hF.size,fun u x h=>?_,hF.defers⟩
  rw [List.lookup_cons] at h
  by_cases e:u=t
  · subst e;simp at h;subst h;exact hF.slots u _ ht
  · have e' : (u == t) = false := by simp [e]
    simp only [e'] at h;exact hF.slots u x h
theorem q1 {N:FN} {F:List (Nat×Value)} {d:Nat} {op:Op} {ty:TypeId} {pos:String} {af:Array Edge} {v:Value} {K:Act→World→Prop}
    (hF:Fr N F a) (hN:Nat.blt d N.n=true) (hE:(execOp a.eval ⟨some d,op,ty,pos,af,none⟩).run P w=.ok (.value v) w)
    (k:∀ a,Fr N ((d,v) :: F) a→K a w):stp P ops Q ⟨some d,op,ty,pos,af,none⟩ a w K:=by
  refine Gj rfl ?_
  unfold Oper.wp
  rw [hE]
  exact k _ (hF.put (by simpa [Nat.blt_eq] using hN) v)
theorem m1 {N:FN} {F:List (Nat×Value)} {d:Nat} {op:Op} {ty:TypeId} {pos:String} {af:Array Edge} {v:Value} {w':World} {K:Act→World→Prop}
    (hF:Fr N F a) (hN:Nat.blt d N.n=true) (hE:(execOp a.eval ⟨some d,op,ty,pos,af,none⟩).run P w=.ok (.value v) w')
    (k:∀ a,Fr N ((d,v) :: F) a→K a w'):stp P ops Q ⟨some d,op,ty,pos,af,none⟩ a w K:=by
  refine Gj rfl ?_
  unfold Oper.wp
  rw [hE]
  exact k _ (hF.put (by simpa [Nat.blt_eq] using hN) v)
theorem m0 {op:Op} {ty:TypeId} {pos:String} {af:Array Edge} {w':World} {K:Act→World→Prop}
    (hE:(execOp a.eval ⟨none,op,ty,pos,af,none⟩).run P w=.ok .skip w')
    (k:K a w'):stp P ops Q ⟨none,op,ty,pos,af,none⟩ a w K:=by
  refine Gj rfl ?_
  unfold Oper.wp
  rw [hE]
  exact k
def Tot (P:Program) (f:FuncId) (args:Array Value) (w:World) (R:Value→World→Prop):Prop:=
  Calls P f args w fun e w'=>∃ v,e=.returned v∧R v w'
theorem Tot.mono {f:FuncId} {args:Array Value} {R R':Value→World→Prop} (h:Tot P f args w R) (hr:∀ v w',R v w'→R' v w'):Tot P f args w R':=
  Calls.mono h (fun _ _ ⟨v,he,h⟩=>⟨v,he,hr _ _ h⟩)
def N8 (F:List (Nat×Value)):List Operand→List Value→Prop
  | [],[]=>True
  | x :: r,v :: s=>opv F x=some v∧N8 F r s
  | _,_=>False
theorem Jg {N:FN} {F:List (Nat×Value)} (hF:Fr N F a):∀ {l:List Operand} {vs:List Value},N8 F l vs→l.map a.eval=vs
  | [],[],_=>rfl
  | x :: r,v :: s,h=>by rw [List.map_cons,hF.ev h.1,Jg hF h.2]
  | [],_ :: _,h=>h.elim
  | _ :: _,[],h=>h.elim
theorem Tw {f:FuncId} {l:List Operand} {vs:List Value} {at_:Array TypeId} {d:Option Tmp} {ty:TypeId} {pos:String} {af:Array Edge} {g:Option (Nat×Bool)}
    (hargs:l.map a.eval=vs) (hen:(callFunc f vs.toArray).run P w=.ok (.enter f vs.toArray) w) :
    (execOp a.eval ⟨d,.call ⟨.value (.func f),l.toArray,at_⟩,ty,pos,af,g⟩).run P w=.ok (.enter f vs.toArray) w:=by
  have e:(Array.map a.eval l.toArray)=vs.toArray:=by rw [List.map_toArray,hargs]
  simp [execOp,resolve,invoke,Act.eval,Deferred.ofValue,hargs,hen]
theorem c1 {N:FN} {F:List (Nat×Value)} {d:Nat} {ty:TypeId} {pos:String} {af:Array Edge} {f:FuncId} {l:List Operand} {vs:List Value} {at_:Array TypeId} {R:Value→World→Prop} {K:Act→World→Prop}
    (hF:Fr N F a) (hN:Nat.blt d N.n=true) (hen:∀ (x:Array Value) (w:World),(callFunc f x).run P w=.ok (.enter f x) w) (hc:Tot P f vs.toArray w R) (hargs:N8 F l vs)
    (k:∀ v w' a,R v w'→Fr N ((d,v) :: F) a→K a w'):stp P ops Q ⟨some d,.call ⟨.value (.func f),l.toArray,at_⟩,ty,pos,af,none⟩ a w K:=by
  refine Gj rfl ?_
  unfold Oper.wp
  rw [Tw (Jg hF hargs) (hen _ _)]
  refine Calls.mono hc ?_
  rintro e w' ⟨v,rfl,hR⟩
  exact k v w' _ hR (hF.put (by simpa [Nat.blt_eq] using hN) v)
theorem c0 {N:FN} {F:List (Nat×Value)} {ty:TypeId} {pos:String} {af:Array Edge} {f:FuncId} {l:List Operand} {vs:List Value} {at_:Array TypeId} {R:Value→World→Prop} {K:Act→World→Prop}
    (hF:Fr N F a) (hen:∀ (x:Array Value) (w:World),(callFunc f x).run P w=.ok (.enter f x) w) (hc:Tot P f vs.toArray w R) (hargs:N8 F l vs)
    (k:∀ v w',R v w'→K a w'):stp P ops Q ⟨none,.call ⟨.value (.func f),l.toArray,at_⟩,ty,pos,af,none⟩ a w K:=by
  refine Gj rfl ?_
  unfold Oper.wp
  rw [Tw (Jg hF hargs) (hen _ _)]
  refine Calls.mono hc ?_
  rintro e w' ⟨v,rfl,hR⟩
  exact k v w' hR
structure Lds (Hs:List PH) (L:List HA) (w:World):Prop where
  hs:∀ h∈Hs,h.le w
  ok:∀ A∈L,A.ok (hp w)
theorem St.ld {w0:World} {M:Nat→Prop} {Hs:List PH} {L:List HA} (h:St w0 M Hs L w):Lds Hs L w:=⟨h.hs,h.ok⟩
theorem Lds.cellH {Hs:List PH} {L:List HA} (hs:Lds Hs L w) {h:PH} (hh:h∈Hs) {a:Addr} {v:Value} (hc:h.cell? a=some v):w.cell? a=some v:=(hs.hs h hh).cell hc
theorem Lds.cellB {Hs:List PH} {L:List HA} (hs:Lds Hs L w) {b off:Nat} {c:List Value} {e:TypeId} {f:Nat×Nat} {v:Value} (hA:blk b (.cells c.toArray e f)∈L) (hv:nth c off=some v):w.cell? ⟨b,off,none⟩=some v:=
  Ip (hs.ok _ hA) (by simpa [Kg] using hv)
theorem St.lds {w0:World} {M:Nat→Prop} {Hs Hs':List PH} {L L':List HA} (h:St w0 M Hs L w) (h1:∀ x∈Hs',x∈Hs) (h2:∀ A∈L',A∈L):Lds Hs' L' w:=
  ⟨fun x hx=>h.hs x (h1 x hx),fun A hA=>h.ok A (h2 A hA)⟩
def wpD (P:Program) (ops:Array Oper) (Q:Exit→Act→World→Prop) (S:World→Prop) (z:Nat):Nat→Array Bool→Act→World→Prop
  | 0,listed,a,w=>Region.ready .any ops listed=[]∧Q .normal a w
  | fuel + 1, listed, a, w =>
    (Region.ready .any ops listed=[]→Q .normal a w)∧
    ∀ i∈Region.ready .any ops listed,wpOp P ops Q i (fun a' w'=>(i≠z→S w')∧wpD P ops Q S z fuel (listed.setIfInBounds i true) a' w') a w
theorem Mz {S:World→Prop} {z:Nat}:∀ (fuel:Nat) (listed:Array Bool) (a:Act) (w:World),wpD P ops Q S z fuel listed a w→wpAny P .any ops Q fuel listed a w
  | 0,_,_,_,h=>h
  | fuel+1,_,_,_,h=>⟨h.1,fun i hi=>wpOp_mono (fun a' w' h'=>Mz fuel _ a' w' h'.2) (h.2 i hi)⟩
theorem Nt {ro:Option Nat} [NoOut Q] (hd:∀ (i:Nat) (o:Oper),ops[i]? = some o→Em o=true):∀ (fuel:Nat) (listed:Array Bool) (a:Act) (w:World),wpAny P .any ops Q fuel listed a w→wpAnyIn (FR ro) 0 P .any ops Q fuel listed a w
  | 0,_,_,_,h=>h
  | fuel + 1, listed, a, w, h => ⟨h.1, fun i hi => by
    have h1:=h.2 i hi
    unfold wpOp at h1
    unfold wpOpIn
    split
    · rename_i e;rw [e] at h1;exact Nt hd fuel _ _ _ h1
    · rename_i o e
      rw [e] at h1
      simp only at h1
      split
      · rename_i hw
        rw [if_pos hw] at h1
        rcases h1 with h1 | h1
        · exact Jez (hd i o e) (Oper.wp_mono (fun a w h=>Nt hd fuel _ a w h) h1)
        · exact absurd h1.2 NoOut.no
      · rename_i hw
        rw [if_neg hw] at h1
        exact ⟨fun _ _=>trivial,Nt hd fuel _ _ _ h1⟩⟩
theorem ra {ro:Option Nat} [NoOut Q] {id:Nat} {l:List Oper} (hm:P.follows .mixedOrders=true) (hd:l.all Em=true)
    (h:wpAny P .any l.toArray Q l.toArray.size (Array.replicate l.toArray.size false) a w.drew):wq ro P (Code.region id l.toArray true) Q a w:=
  wpIn_region_any hm (Nt (fun i o e=>List.all_eq_true.1 hd o (by simp at e;exact List.mem_of_getElem? e)) _ _ _ _ h)
def Jf (ops:Array Oper) (z i:Nat):Bool:=
  match ops[z]? with
  | some o=>o.after.any fun e=>Region.binds .any e && e.on == i
  | none=>true
theorem Tm {S:World→Prop} {z i:Nat} {oi:Oper} {v:Value} (hi:ops[i]? = some oi) (hsel:∀ (j:Nat) (o:Oper) cs b,ops[j]? = some o→o.op≠.select cs b)
    (hQ:∀ c a w,Q (.panic c) (a.put oi.dst v) w→Q (.panic c) a w) (hz:i=z∨Jf ops z i=true) :
    ∀ (fuel : Nat) (listed : Array Bool) (a : Act) (w : World),
      (∀ j oj,ops[j]? = some oj→j≠i→listed.getD j true=false→(∀ e∈oj.after,Region.binds .any e=true→e.on≠i)→oi.apart ops oj=true)→
      i∈Region.ready .any ops listed→YieldsIf P ops S oi v a→S w→
      wpD P ops Q S z fuel (listed.setIfInBounds i true) (a.put oi.dst v) w→wpD P ops Q S z (fuel+1) listed a w:=by
  intro fuel
  induction fuel with
  | zero =>
    intro listed a w _ hr hy hS H
    refine ⟨fun h=>(by rw [h] at hr;cases hr),fun j hj=>?_⟩
    by_cases hji:j=i
    · subst hji;exact hy.wpOp hi hS ⟨fun _=>hS,H⟩
    · have := ready_mono hj hji
      rw [H.1] at this
      cases this
  | succ fuel ih =>
    intro listed a w hfree hr hy hS H
    refine ⟨fun h=>(by rw [h] at hr;cases hr),fun j hj=>?_⟩
    by_cases hji:j=i
    · subst hji;exact hy.wpOp hi hS ⟨fun _=>hS,H⟩
    · have h1 := H.2 j (ready_mono hj hji)
      obtain ⟨hjun,oj,hoj,hall⟩:=mem_ready.1 hj
      have hnot:∀ e∈oj.after,Region.binds .any e=true→e.on≠i:=fun e he hb heq=>by
        have h1:=hall e he hb
        have h0:=(mem_ready.1 hr).1
        rw [heq] at h1
        rcases Nat.lt_or_ge i listed.size with h' | h'
        · simp [h'] at h0 h1;rw [h0] at h1;cases h1
        · simp [Array.getElem?_eq_none h'] at h1
      have hjz:j≠z:=fun e=>by
        subst e
        rcases hz with h | h
        · exact hji h.symm
        · unfold Jf at h
          rw [hoj] at h
          obtain ⟨e,he,hb⟩:=Array.any_eq_true'.1 h
          simp only [Bool.and_eq_true,beq_iff_eq] at hb
          exact hnot e he hb.1 hb.2
      have h2:=wpOp_putIf hoj (hfree j oj hoj hji hjun hnot) (fun cs b=>hsel i oi cs b hi) (fun cs b=>hsel j oj cs b hoj) hQ hy h1
      have hfree':∀ k ok,ops[k]? = some ok→k≠i→(listed.setIfInBounds j true).getD k true=false→
          (∀ e∈ok.after,Region.binds .any e=true→e.on≠i)→oi.apart ops ok=true:=fun k ok hk hki hun hno=>by
        refine hfree k ok hk hki ?_ hno
        by_cases hjk:j=k
        · subst hjk;exact hjun
        · rw [getD_set_ne true hjk] at hun;exact hun
      refine wpOp_mono (fun a' w' h3=>?_) h2
      have hSw:=h3.2.1 hjz
      refine ⟨fun _=>hSw,ih (listed.setIfInBounds j true) a' w' hfree' (ready_mono hr (Ne.symm hji)) h3.1 hSw ?_⟩
      rw [Array.setIfInBounds_comm _ _ hji]
      exact h3.2.2
theorem dt {S:World→Prop} {z i:Nat} {oi:Oper} {v:Value} {fuel:Nat} {listed:Array Bool} (hi:ops[i]? = some oi)
    (hs:Region.noSelect ops=true) (hf:(Region.free .any ops listed i && (Region.ready .any ops listed).contains i && (i == z || Jf ops z i))=true)
    (hQ:∀ c a w,Q (.panic c) (a.put oi.dst v) w→Q (.panic c) a w) (hy:YieldsIf P ops S oi v a) (hS:S w)
    (h:wpD P ops Q S z fuel (listed.setIfInBounds i true) (a.put oi.dst v) w):wpD P ops Q S z (fuel+1) listed a w:=by
  simp only [Bool.and_eq_true,Bool.or_eq_true,beq_iff_eq] at hf
  exact Tm hi (Region.noSelect_spec hs) hQ hf.2 fuel listed a w (Region.free_spec hi hf.1.1) (by simpa using hf.1.2) hy hS h
theorem JdG {S:World→Prop} {z:Nat} {listed:Array Bool} (hr:(Region.ready .any ops listed).isEmpty=true) (h:Q .normal a w) :
    ∀ fuel,wpD P ops Q S z fuel listed a w
  | 0=>⟨by simpa using hr,h⟩
  | _+1=>⟨fun _=>h,by rw [List.isEmpty_iff.1 hr];simp⟩
def Jfu (ops:Array Oper) (z:Nat):Bool:=
  Region.lexB .any ops && (List.range ops.size).all fun i=>i == z || Jf ops z i
def wpX (P:Program) (ops:Array Oper) (Q:Exit→Act→World→Prop) (S:World→Prop) (z:Nat):List Oper→Nat→Act→World→Prop
  | [],_,a,w=>Q .normal a w
  | o :: rest, k, a, w =>
    if k=z then rest=[]∧stp P ops Q o a w (Q .normal)
    else S w∧∃ v,YieldsIf P ops S o v a∧(∀ c a' w',Q (.panic c) (a'.put o.dst v) w'→Q (.panic c) a' w')∧wpX P ops Q S z rest (k+1) (a.put o.dst v) w
theorem Xj {S:World→Prop} {z:Nat} (hs:Region.noSelect ops=true):∀ (l:List Oper) (k:Nat) (listed:Array Bool) (a:Act) (w:World),(∀ j,l[j]? = ops[k+j]?)→
    Region.lexFrom .any ops l.length k listed=true→(∀ i,k≤i→i < ops.size→i=z∨Jf ops z i=true)→(∀ i,i < k→listed.getD i false=true)→listed.size=ops.size→
    wpX P ops Q S z l k a w→wpD P ops Q S z l.length listed a w
  | [],k,listed,a,w,hl,hB,_,_,_,h=>⟨by simpa [Region.lexFrom] using hB,h⟩
  | o :: l, k, listed, a, w, hl, hB, hz, hlt, hsz, h => by
    have h0:ops[k]? = some o:=by simpa using (hl 0).symm
    have hk:k < ops.size:=(Array.getElem?_eq_some_iff.1 h0).1
    simp only [List.length_cons,Region.lexFrom,Bool.and_eq_true] at hB
    obtain ⟨⟨hr,hf⟩,hB'⟩:=hB
    have hr':k∈Region.ready .any ops listed:=by simpa using hr
    by_cases hkz:k=z
    · rw [wpX, if_pos hkz] at h
      obtain ⟨rfl,h⟩:=h
      have hlast:ops.size=k+1:=by
        have h1:=hl 1
        simp at h1
        omega
      refine ⟨fun e=>(by rw [e] at hr';cases hr'),fun j hj=>?_⟩
      have hjk:j=k:=by
        obtain ⟨hun,oj,hoj,_⟩:=mem_ready.1 hj
        have hj':j < ops.size:=(Array.getElem?_eq_some_iff.1 hoj).1
        by_cases e:j < k
        · have := hlt j e
          rcases Nat.lt_or_ge j listed.size with h' | h'
          · simp [h'] at hun this;rw [hun] at this;cases this
          · simp [Array.getElem?_eq_none h'] at this
        · omega
      subst hjk
      unfold stp at h
      unfold wpOp
      rw [h0]
      have hend:Region.ready .any ops (listed.setIfInBounds j true)=[]:=by simpa [Region.lexFrom] using hB'
      have hK:∀ a w,Q .normal a w→(j≠z→S w)∧wpD P ops Q S z ([]:List Oper).length (listed.setIfInBounds j true) a w:=fun a w hq=>⟨fun h=>absurd hkz h,hend,hq⟩
      show if Region.wanted o (yielded ops a.tmps)=true then _ else _
      split
      · rename_i hw;rw [if_pos hw] at h;exact .inl (Oper.wp_mono hK h)
      · rename_i hw;rw [if_neg hw] at h;exact hK _ _ h
    · rw [wpX, if_neg hkz] at h
      obtain ⟨hS,v,hy,hQ,h⟩:=h
      refine Tm h0 (Region.noSelect_spec hs) (fun c a w=>hQ c a w) (hz k (Nat.le_refl _) hk) l.length listed a w (Region.free_spec h0 hf) hr' hy hS ?_
      refine Xj hs l (k+1) _ _ w (fun j=>by have:=hl (j+1);simpa [Nat.add_assoc,Nat.add_comm 1 j] using this) hB' (fun i hi=>hz i (by omega)) (fun i hi=>?_) (by simpa using hsz) h
      by_cases e:i=k
      · subst e
        simp [hsz,hk]
      · exact getD_set_true (hlt i (by omega))
theorem rx {ro:Option Nat} [NoOut Q] {S:World→Prop} {z:Nat} {id:Nat} {l:List Oper} (hm:P.follows .mixedOrders=true) (hB:Jfu l.toArray z=true)
    (h:wpX P l.toArray Q S z l 0 a w.drew) (hd:l.all Em=true:=by rfl):wq ro P (Code.region id l.toArray true) Q a w:=by
  simp only [Jfu,Region.lexB,Bool.and_eq_true] at hB
  refine ra hm hd (Mz (S:=S) (z:=z) _ _ _ _ ?_)
  have:=Xj (P:=P) (Q:=Q) (S:=S) (z:=z) hB.1.1 l 0 (Array.replicate l.toArray.size false) a w.drew (by simp) (by simpa using hB.1.2)
    (fun i _ hi=>by have:=List.all_eq_true.1 hB.2 i (List.mem_range.2 hi);simpa using this) (fun i hi=>by omega) (by simp) h
  simpa using this
theorem rxS {ro:Option Nat} [NoOut Q] {w0:World} {M:Nat→Prop} {Hs:List PH} {L:List HA} (z:Nat) {id:Nat} {l:List Oper} (hS:St w0 M Hs L w) (hm:P.follows .mixedOrders=true) (hB:Jfu l.toArray z=true)
    (h:∀ w,St w0 M Hs L w→wpX P l.toArray Q (Lds Hs L) z l 0 a w) (hd:l.all Em=true:=by rfl):wq ro P (Code.region id l.toArray true) Q a w:=
  rx hm hB (h _ hS.drew) hd
theorem x1 {S:World→Prop} {N:FN} {F:List (Nat×Value)} {z k d:Nat} {op:Op} {ty:TypeId} {pos:String} {af:Array Edge} {rest:List Oper} {v:Value}
    (hS:S w) (hF:Fr N F a) (hN:Nat.blt d N.n=true) (hz:(k == z)=false) (hQ:∀ c a' w',Q (.panic c) (a'.put (some d) v) w'→Q (.panic c) a' w')
    (hE:∀ w,S w→(execOp a.eval ⟨some d,op,ty,pos,af,none⟩).run P w=.ok (.value v) w)
    (kk:∀ a,Fr N ((d,v) :: F) a→wpX P ops Q S z rest (k+1) a w):wpX P ops Q S z (⟨some d,op,ty,pos,af,none⟩ :: rest) k a w:=by
  rw [wpX,if_neg (by simpa using hz)]
  exact ⟨hS,v,.inl ⟨rfl,hE⟩,hQ,kk _ (hF.put (by simpa [Nat.blt_eq] using hN) v)⟩
theorem x1g {S:World→Prop} {N:FN} {F:List (Nat×Value)} {z k d j t:Nat} {b:Bool} {op:Op} {ty:TypeId} {pos:String} {af:Array Edge} {rest:List Oper} {v:Value}
    (hS:S w) (hF:Fr N F a) (hN:Nat.blt d N.n=true) (hz:(k == z)=false) (hj:(ops[j]?).bind (·.dst)=some t) (ht:F.lookup t=some (.bool b))
    (hQ:∀ c a' w',Q (.panic c) (a'.put (some d) v) w'→Q (.panic c) a' w')
    (hE:∀ w,S w→(execOp a.eval ⟨some d,op,ty,pos,af,some (j,b)⟩).run P w=.ok (.value v) w)
    (kk:∀ a,Fr N ((d,v) :: F) a→wpX P ops Q S z rest (k+1) a w):wpX P ops Q S z (⟨some d,op,ty,pos,af,some (j,b)⟩ :: rest) k a w:=by
  rw [wpX,if_neg (by simpa using hz)]
  exact ⟨hS,v,.inl ⟨Uw hF hj ht,hE⟩,hQ,kk _ (hF.put (by simpa [Nat.blt_eq] using hN) v)⟩
theorem x1n {S:World→Prop} {N:FN} {F:List (Nat×Value)} {z k d j t:Nat} {b b':Bool} {op:Op} {ty:TypeId} {pos:String} {af:Array Edge} {rest:List Oper}
    (hS:S w) (hF:Fr N F a) (hN:Nat.blt d N.n=true) (hz:(k == z)=false) (hj:(ops[j]?).bind (·.dst)=some t) (ht:F.lookup t=some (.bool b')) (hne:(b' == b)=false)
    (hQ:∀ c a' w',Q (.panic c) (a'.put (some d) undef) w'→Q (.panic c) a' w')
    (kk:∀ a,Fr N ((d,undef) :: F) a→wpX P ops Q S z rest (k+1) a w):wpX P ops Q S z (⟨some d,op,ty,pos,af,some (j,b)⟩ :: rest) k a w:=by
  rw [wpX,if_neg (by simpa using hz)]
  exact ⟨hS,undef,.inr ⟨Yv hF hj ht hne,rfl⟩,hQ,kk _ (hF.put (by simpa [Nat.blt_eq] using hN) undef)⟩
theorem x1u {S:World→Prop} {N:FN} {F:List (Nat×Value)} {z k d j t:Nat} {b:Bool} {op:Op} {ty:TypeId} {pos:String} {af:Array Edge} {rest:List Oper}
    (hS:S w) (hF:Fr N F a) (hN:Nat.blt d N.n=true) (hz:(k == z)=false) (hj:(ops[j]?).bind (·.dst)=some t) (ht:F.lookup t=some undef)
    (hQ:∀ c a' w',Q (.panic c) (a'.put (some d) undef) w'→Q (.panic c) a' w')
    (kk:∀ a,Fr N ((d,undef) :: F) a→wpX P ops Q S z rest (k+1) a w):wpX P ops Q S z (⟨some d,op,ty,pos,af,some (j,b)⟩ :: rest) k a w:=by
  rw [wpX,if_neg (by simpa using hz)]
  exact ⟨hS,undef,.inr ⟨Jc9 hF hj ht,rfl⟩,hQ,kk _ (hF.put (by simpa [Nat.blt_eq] using hN) undef)⟩
theorem xz {S:World→Prop} {z k:Nat} {o:Oper} (hz:(k == z)=true) (h:stp P ops Q o a w (Q .normal)):wpX P ops Q S z [o] k a w:=by
  rw [wpX,if_pos (by simpa using hz)]
  exact ⟨rfl,h⟩
theorem xe {S:World→Prop} {z k:Nat} (h:Q .normal a w):wpX P ops Q S z [] k a w:=h
theorem rd {ro:Option Nat} [NoOut Q] {S:World→Prop} {z:Nat} {id:Nat} {l:List Oper} (hm:P.follows .mixedOrders=true)
    (h:wpD P l.toArray Q S z l.length (Array.replicate l.length false) a w.drew) (hd:l.all Em=true:=by rfl):wq ro P (Code.region id l.toArray true) Q a w:=
  ra hm hd (Mz (S:=S) (z:=z) _ _ _ _ (by simpa using h))
theorem rdS {ro:Option Nat} [NoOut Q] {w0:World} {M:Nat→Prop} {Hs:List PH} {L:List HA} (z:Nat) {id:Nat} {l:List Oper} (hS:St w0 M Hs L w) (hm:P.follows .mixedOrders=true)
    (h:∀ w,St w0 M Hs L w→wpD P l.toArray Q (Lds Hs L) z l.length (Array.replicate l.length false) a w) (hd:l.all Em=true:=by rfl):wq ro P (Code.region id l.toArray true) Q a w:=
  rd hm (h _ hS.drew) hd
theorem bnt {b:Bool} (h:(!b)=true):b=false:=by cases b <;> first | rfl | cases h
theorem bnf {b:Bool} (h:(!b)=false):b=true:=by cases b <;> first | rfl | cases h
theorem Ey {L:List HA}:∀ A∈([]:List HA),A∈L:=fun _ h=>nomatch h
theorem Bh {A:HA} {L L':List HA} (h:A∈L) (t:∀ B∈L',B∈L):∀ B∈A :: L',B∈L:=fun B hB=>by
  rcases List.mem_cons.1 hB with rfl | hB
  · exact h
  · exact t B hB
theorem rdL {ro:Option Nat} [NoOut Q] {w0:World} {M:Nat→Prop} {Hs:List PH} {L:List HA} {L':List HA} (_:∀ A∈L',A∈L) (z:Nat) {id:Nat} {l:List Oper} (hS:St w0 M Hs L w) (hm:P.follows .mixedOrders=true)
    (h:∀ w,St w0 M Hs L w→wpD P l.toArray Q (Lds Hs L') z l.length (Array.replicate l.length false) a w) (hd:l.all Em=true:=by rfl):wq ro P (Code.region id l.toArray true) Q a w:=
  rd hm (h _ hS.drew) hd
theorem d1 {S:World→Prop} {N:FN} {F:List (Nat×Value)} {z i d:Nat} {op:Op} {ty:TypeId} {pos:String} {af:Array Edge} {v:Value} {fuel:Nat} {listed:Array Bool}
    (hi:ops[i]? = some ⟨some d,op,ty,pos,af,none⟩)
    (hs:Region.noSelect ops=true) (hf:(Region.free .any ops listed i && (Region.ready .any ops listed).contains i && (i == z || Jf ops z i))=true)
    (hS:S w) (hF:Fr N F a) (hN:Nat.blt d N.n=true) (hQ:∀ c a' w',Q (.panic c) (a'.put (some d) v) w'→Q (.panic c) a' w')
    (hE:∀ w,S w→(execOp a.eval ⟨some d,op,ty,pos,af,none⟩).run P w=.ok (.value v) w)
    (kk:∀ a,Fr N ((d,v) :: F) a→wpD P ops Q S z fuel (listed.setIfInBounds i true) a w):wpD P ops Q S z (fuel+1) listed a w:=
  dt hi hs hf (fun c a' w'=>hQ c a' w') (.inl ⟨rfl,hE⟩) hS (kk _ (hF.put (by simpa [Nat.blt_eq] using hN) v))
theorem d1g {S:World→Prop} {N:FN} {F:List (Nat×Value)} {z i d j t:Nat} {b:Bool} {op:Op} {ty:TypeId} {pos:String} {af:Array Edge} {v:Value} {fuel:Nat} {listed:Array Bool}
    (hi:ops[i]? = some ⟨some d,op,ty,pos,af,some (j,b)⟩)
    (hs:Region.noSelect ops=true) (hf:(Region.free .any ops listed i && (Region.ready .any ops listed).contains i && (i == z || Jf ops z i))=true)
    (hS:S w) (hF:Fr N F a) (hN:Nat.blt d N.n=true) (hj:(ops[j]?).bind (·.dst)=some t) (ht:F.lookup t=some (.bool b)) (hQ:∀ c a' w',Q (.panic c) (a'.put (some d) v) w'→Q (.panic c) a' w')
    (hE:∀ w,S w→(execOp a.eval ⟨some d,op,ty,pos,af,some (j,b)⟩).run P w=.ok (.value v) w)
    (kk:∀ a,Fr N ((d,v) :: F) a→wpD P ops Q S z fuel (listed.setIfInBounds i true) a w):wpD P ops Q S z (fuel+1) listed a w:=
  dt hi hs hf (fun c a' w'=>hQ c a' w') (.inl ⟨Uw hF hj ht,hE⟩) hS (kk _ (hF.put (by simpa [Nat.blt_eq] using hN) v))
theorem d1n {S:World→Prop} {N:FN} {F:List (Nat×Value)} {z i d j t:Nat} {b b':Bool} {op:Op} {ty:TypeId} {pos:String} {af:Array Edge} {fuel:Nat} {listed:Array Bool}
    (hi:ops[i]? = some ⟨some d,op,ty,pos,af,some (j,b)⟩)
    (hs:Region.noSelect ops=true) (hf:(Region.free .any ops listed i && (Region.ready .any ops listed).contains i && (i == z || Jf ops z i))=true)
    (hS:S w) (hF:Fr N F a) (hN:Nat.blt d N.n=true) (hj:(ops[j]?).bind (·.dst)=some t) (ht:F.lookup t=some (.bool b')) (hne:(b' == b)=false) (hQ:∀ c a' w',Q (.panic c) (a'.put (some d) undef) w'→Q (.panic c) a' w')
    (kk:∀ a,Fr N ((d,undef) :: F) a→wpD P ops Q S z fuel (listed.setIfInBounds i true) a w):wpD P ops Q S z (fuel+1) listed a w:=
  dt hi hs hf (fun c a' w'=>hQ c a' w') (.inr ⟨Yv hF hj ht hne,rfl⟩) hS (kk _ (hF.put (by simpa [Nat.blt_eq] using hN) undef))
def Sj (P:Program) (ops:Array Oper) (Q:Exit→Act→World→Prop) (S:World→Prop) (z:Nat) (fuel:Nat) (listed:Array Bool) (i:Nat) (a:Act) (w:World):Prop:=
  wpOp P ops Q i (fun a' w'=>(i≠z→S w')∧wpD P ops Q S z fuel (listed.setIfInBounds i true) a' w') a w
theorem di {S:World→Prop} {z i:Nat} {o:Oper} {fuel:Nat} {listed:Array Bool} (hi:ops[i]? = some o)
    (h:stp P ops Q o a w (fun a' w'=>(i≠z→S w')∧wpD P ops Q S z fuel (listed.setIfInBounds i true) a' w')):Sj P ops Q S z fuel listed i a w:=by
  unfold Sj wpOp
  rw [hi]
  unfold stp at h
  show if Region.wanted o (yielded ops a.tmps)=true then _ else _
  split
  · rename_i hw;rw [if_pos hw] at h;exact .inl h
  · rename_i hw;rw [if_neg hw] at h;exact h
theorem da1 {S:World→Prop} {z i:Nat} {fuel:Nat} {listed:Array Bool} (hr:(Region.ready .any ops listed == [i])=true) (h:Sj P ops Q S z fuel listed i a w):wpD P ops Q S z (fuel+1) listed a w:=by
  have hr:=beq_iff_eq.1 hr
  exact ⟨fun e=>(by rw [hr] at e;cases e),fun j hj=>by rw [hr] at hj;simp at hj;subst hj;exact h⟩
theorem da2 {S:World→Prop} {z i j:Nat} {fuel:Nat} {listed:Array Bool} (hr:(Region.ready .any ops listed == [i,j])=true) (h1:Sj P ops Q S z fuel listed i a w) (h2:Sj P ops Q S z fuel listed j a w):wpD P ops Q S z (fuel+1) listed a w:=by
  have hr:=beq_iff_eq.1 hr
  refine ⟨fun e=>(by rw [hr] at e;cases e),fun x hx=>?_⟩
  rw [hr] at hx;simp at hx
  rcases hx with rfl | rfl
  · exact h1
  · exact h2
theorem da3 {S:World→Prop} {z i j k:Nat} {fuel:Nat} {listed:Array Bool} (hr:(Region.ready .any ops listed == [i,j,k])=true) (h1:Sj P ops Q S z fuel listed i a w) (h2:Sj P ops Q S z fuel listed j a w) (h3:Sj P ops Q S z fuel listed k a w):wpD P ops Q S z (fuel+1) listed a w:=by
  have hr:=beq_iff_eq.1 hr
  refine ⟨fun e=>(by rw [hr] at e;cases e),fun x hx=>?_⟩
  rw [hr] at hx;simp at hx
  rcases hx with rfl | rfl | rfl
  · exact h1
  · exact h2
  · exact h3
theorem de {S:World→Prop} {z:Nat} {listed:Array Bool} {fuel:Nat} (hr:(Region.ready .any ops listed).isEmpty=true) (h:Q .normal a w):wpD P ops Q S z fuel listed a w:=
  JdG hr h fuel
theorem th {ro:Option Nat} {x y:Code} (h:wq ro P x (Exit.then (wq ro P y Q) Q) a w):wq ro P (Code.seq x y) Q a w:=wpIn_seq h
theorem tn {K:Act→World→Prop} (h:K a w):Exit.then K Q .normal a w:=h
theorem tx {K:Act→World→Prop} {id:Nat} (h:Q (.exit id) a w):Exit.then K Q (.exit id) a w:=h
theorem tr {K:Act→World→Prop} (h:Q .ret a w):Exit.then K Q .ret a w:=h
theorem bn {id:Nat} (h:Q .normal a w):Exit.inBlock id Q .normal a w:=h
theorem br {id:Nat} (h:Q .ret a w):Exit.inBlock id Q .ret a w:=h
theorem bx {id:Nat} (h:Q .normal a w):Exit.inBlock id Q (.exit id) a w:=by simp only [Exit.inBlock,if_true];exact h
theorem bo {id id':Nat} (hne:(id' == id)=false) (h:Q (.exit id') a w):Exit.inBlock id Q (.exit id') a w:=by
  simp only [Exit.inBlock];rw [if_neg (by simpa using hne)];exact h
theorem wb {ro:Option Nat} {id:Nat} {c:Code} (h:wq ro P c (Exit.inBlock id Q) a w):wq ro P (Code.block id c) Q a w:=wpIn_block h
theorem wr {ro:Option Nat} (h:Q .ret a w):wq ro P Code.ret Q a w:=wpIn_ret h
theorem we {ro:Option Nat} {id:Nat} (h:Q (.exit id) a w):wq ro P (Code.exit id) Q a w:=wpIn_exit h
theorem wk {ro:Option Nat} (h:Q .normal a w):wq ro P Code.skip Q a w:=wpIn_skip h
theorem mid {ro:Option Nat} {x y:Code} (R:Act→World→Prop) (h1:wq ro P x (Exit.then R Q) a w) (h2:∀ a w,R a w→wq ro P y Q a w):wq ro P (Code.seq x y) Q a w:=
  wpIn_seq (wpIn_mono h1 fun e a w h=>by cases e <;> first | exact h2 _ _ h | exact h)
theorem cs {ro:Option Nat} {N:FN} {F:List (Nat×Value)} {c:Operand} {x y:Code} {b:Bool} (hF:Fr N F a) (hc:opv F c=some (.bool b)) (ht:b=true→wq ro P x Q a w) (hf:b=false→wq ro P y Q a w) :
    wq ro P (Code.cond c x y) Q a w:=wpIn_cond_split (hF.ev hc) ht hf
theorem ct {ro:Option Nat} {N:FN} {F:List (Nat×Value)} {c:Operand} {x y:Code} (hF:Fr N F a) (hc:opv F c=some (.bool true)) (h:wq ro P x Q a w):wq ro P (Code.cond c x y) Q a w:=wpIn_cond_true (hF.ev hc) h
theorem cf {ro:Option Nat} {N:FN} {F:List (Nat×Value)} {c:Operand} {x y:Code} (hF:Fr N F a) (hc:opv F c=some (.bool false)) (h:wq ro P y Q a w):wq ro P (Code.cond c x y) Q a w:=wpIn_cond_false (hF.ev hc) h
theorem JaW {p:Nat→Prop} (h:∃ n,p n):∃ n,p n∧∀ k,p k→n≤k:=by
  obtain ⟨n,hn⟩:=h
  induction n using Nat.strongRecOn with
  | _ n ih =>
    by_cases e:∃ k,p k∧k < n
    · obtain ⟨k,hk,hlt⟩:=e;exact ih k hlt hk
    · exact ⟨n,hn,fun k hk=>Nat.le_of_not_lt fun hlt=>e ⟨k,hk,hlt⟩⟩
theorem lp {ro:Option Nat} {α:Type} {c:Code} (I:α→Act→World→Prop) (μ:α→Nat) (x0:α) (h0:I x0 a w)
    (round:∀ x a w,I x a w→wq ro P c (Exit.then (fun a' w'=>∃ x',I x' a' w'∧μ x' < μ x) Q) a w):wq ro P (Code.loop c) Q a w:=by
  classical
  -- a measure on states: the JaW one of the ghosts
  let m:Act→World→Nat:=fun a w=>if h:∃ n,∃ x,I x a w∧μ x=n then Classical.choose (JaW h) else 0
  have hm:∀ x a w,I x a w→∃ x',I x' a w∧μ x'=m a w∧m a w≤μ x:=fun x a w hI=>by
    have h:∃ n,∃ x,I x a w∧μ x=n:=⟨_,x,hI,rfl⟩
    have e:m a w=Classical.choose (JaW h):=dif_pos h
    obtain ⟨⟨x',h1,h2⟩,h3⟩:=Classical.choose_spec (JaW h)
    exact ⟨x',h1,by rw [e];exact h2,by rw [e];exact h3 _ ⟨x,hI,rfl⟩⟩
  refine wpIn_loop (fun a w=>∃ x,I x a w) m ⟨x0,h0⟩ ?_
  rintro a w ⟨x,hI⟩
  obtain ⟨x',h1,h2,_⟩:=hm x a w hI
  refine wpIn_mono (round x' a w h1) ?_
  intro e a₁ w₁ hq
  cases e with
  | normal =>
    obtain ⟨y,hy,hlt⟩:=hq
    obtain ⟨_,_,_,h5⟩:=hm y a₁ w₁ hy
    exact ⟨⟨y,hy⟩,by rw [← h2];omega⟩
  | _=>exact hq
theorem fn0 {f:FuncId} {fn:Func} {c:Code} {args:List Value} {N:Nat} {F:List (Nat×Value)} {R:Value→World→Prop} (hf:P.funcs[f]? = some fn) (hb:fn.body=some c) (hn:fn.ntmps=N) (hl:Nat.ble args.length N=true)
    (he:(args.zipIdx.map fun p=>(p.2,p.1))=F)
    (h:∀ a,Fr ⟨N,[],[]⟩ F a→wq none P c (bodyPost P fn fun e w'=>∃ v,e=.returned v∧R v w') a w):Tot P f args.toArray w R:=by
  subst he
  have hl':=Nat.le_of_ble_eq_true hl
  refine calls_of_wp hf hb (wpIn_wide.1 (h _ ?_))
  have:=Fr.enter (args:=args.toArray) (n:=N - args.length) (N:=N) (by simp;omega)
  rw [hn]
  simpa using this
theorem r1 {fn:Func} {t N:Nat} {F:List (Nat×Value)} {v:Value} {R:Value→World→Prop} (hF:Fr ⟨N,[],[]⟩ F a) (hr:fn.results=#[.tmp t]) (ht:F.lookup t=some v) (h:R v w) :
    bodyPost P fn (fun e w'=>∃ v,e=.returned v∧R v w') .ret a w:=by
  refine bodyPost_ret (results_tmp hr _ _ _) hF.defers ⟨v,?_,h⟩
  have:=hF.slots t v ht
  simp [this]
theorem r2 {fn:Func} {t u N:Nat} {F:List (Nat×Value)} {v x:Value} {R:Value→World→Prop} (hF:Fr ⟨N,[],[]⟩ F a) (hr:fn.results=#[.tmp t,.tmp u]) (ht:F.lookup t=some v) (hu:F.lookup u=some x) (h:R (.tuple #[v,x]) w) :
    bodyPost P fn (fun e w'=>∃ v,e=.returned v∧R v w') .ret a w:=by
  refine bodyPost_ret (results_tmp2 hr _ _ _) hF.defers ⟨_,rfl,?_⟩
  have h1:=hF.slots t v ht
  have h2:=hF.slots u x hu
  simpa [h1,h2] using h
theorem r0 {fn:Func} {N:Nat} {F:List (Nat×Value)} {R:Value→World→Prop} (hF:Fr ⟨N,[],[]⟩ F a) (hr:fn.results=#[]) (h:R (.tuple #[]) w) :
    bodyPost P fn (fun e w'=>∃ v,e=.returned v∧R v w') .ret a w:=
  bodyPost_ret (results_none hr _ _ _) hF.defers ⟨_,rfl,h⟩
theorem r0n {fn:Func} {N:Nat} {F:List (Nat×Value)} {R:Value→World→Prop} (hF:Fr ⟨N,[],[]⟩ F a) (hr:fn.results=#[]) (h:R (.tuple #[]) w) :
    bodyPost P fn (fun e w'=>∃ v,e=.returned v∧R v w') .normal a w:=
  bodyPost_end (results_none hr _ _ _) hF.defers ⟨_,rfl,h⟩
end
end Go.LL
namespace Go.LL
open Go
def adr (oa:Option Addr):Addr:=oa.getD ⟨0,0,none⟩
structure Rd (h:PH) (oa:Option Addr) (vs:List Value):Prop where
  some:vs≠[]→oa=some ⟨(adr oa).block,(adr oa).off,none⟩
  cell:∀ (j:Nat) (v:Value),vs[j]? = .some v→h.cell? ⟨(adr oa).block,(adr oa).off+j,none⟩=.some v
abbrev sla (e:TypeId) (sz:Nat) (oa:Option Addr) (n cap:Nat) (xs:List Value):HA:=sl e sz (.slice oa n cap) n xs
theorem SlOk.rd {e:TypeId} {sz:Nat} {oa:Option Addr} {n cap:Nat} {xs:List Value} {h:PH} (ho:SlOk e sz (.slice oa n cap) n xs h):Rd h oa xs:=by
  obtain ⟨hl,hn | ⟨g,cap',cur,hv,hg,hnc,hm,hs,ht⟩⟩:=ho
  · obtain ⟨hv, h0⟩ := hn
    subst h0
    have:xs=[]:=List.eq_nil_of_length_eq_zero (by simpa using hl)
    subst this
    exact ⟨fun h=>absurd rfl h,fun j v hj=>by simp at hj⟩
  · simp only [Value.slice.injEq] at hv
    obtain ⟨rfl,_,_⟩:=hv
    refine ⟨fun _=>rfl,fun j v hj=>?_⟩
    rw [← ht,List.getElem?_take] at hj
    split at hj
    · simp only [adr, Option.getD_some, Nat.zero_add]
      simp only [PH.cell?,hg]
      simpa using hj
    · cases hj
theorem Rd.mono {h h':PH} {oa:Option Addr} {vs:List Value} (hr:Rd h oa vs) (hl:∀ b o,h b=.some o→h' b=.some o):Rd h' oa vs:=by
  refine ⟨hr.some,fun j v hj=>?_⟩
  have:=hr.cell j v hj
  unfold PH.cell? at this ⊢
  cases hb:h (adr oa).block with
  | none=>rw [hb] at this;cases this
  | some o=>rw [hl _ _ hb];rw [hb] at this;exact this
theorem Rd.nil (h:PH) (oa:Option Addr):Rd h oa []:=⟨fun h=>absurd rfl h,fun j v hj=>by simp at hj⟩
section
variable {w:World} {Hs:List PH} {L:List HA}
theorem Lds.elH (hs:Lds Hs L w) {h:PH} (hh:h∈Hs) {oa:Option Addr} {vs:List Value} (hr:Rd h oa vs) {j:Nat} {v:Value} (hj:vs[j]? = some v):w.cell? ⟨(adr oa).block,(adr oa).off+j,none⟩=some v:=
  hs.cellH hh (hr.cell j v hj)
theorem Lds.rdO (hs:Lds Hs L w) {e:TypeId} {sz:Nat} {oa:Option Addr} {n cap:Nat} {xs:List Value} (hm:sla e sz oa n cap xs∈L):Rd (hp w) oa xs:=SlOk.rd (hs.ok _ hm)
theorem Lds.elO (hs:Lds Hs L w) {e:TypeId} {sz:Nat} {oa:Option Addr} {n cap:Nat} {xs:List Value} (hm:sla e sz oa n cap xs∈L) {j:Nat} {v:Value} (hj:xs[j]? = some v):w.cell? ⟨(adr oa).block,(adr oa).off+j,none⟩=some v:=by
  rw [← Ai]
  exact (hs.rdO hm).cell j v hj
end
theorem Fy (b o n:Nat):(⟨b,o,none⟩:Addr).add n=⟨b,o+n,none⟩:=by
  unfold Addr.add;split <;> simp_all
section
variable {P:Program} {N:FN} {F:List (Nat×Value)} {a:Act} {w:World} {d:Option Tmp} {ty:TypeId} {pos:String} {af:Array Edge} {g:Option (Nat×Bool)}
theorem Aa (hF:Fr N F a) {x:Operand} {v:Value} (hx:opv F x=some v):(execOp a.eval ⟨d,.move x,ty,pos,af,g⟩).run P w=.ok (.value v) w:=by
  simp [execOp,hF.ev hx]
theorem Ca (hF:Fr N F a) {x:Operand} {v:Value} (hx:opv F x=some v):(execOp a.eval ⟨d,.assign x,ty,pos,af,g⟩).run P w=.ok (.value v) w:=by
  simp [execOp,hF.ev hx]
theorem Ab (hF:Fr N F a) {c x y:Operand} {v:Value} (hc:opv F c=some (.bool true)) (hx:opv F x=some v):(execOp a.eval ⟨d,.pick c x y,ty,pos,af,g⟩).run P w=.ok (.value v) w:=by
  simp [execOp,hF.ev hx,hF.ev hc,asBool]
theorem Ac (hF:Fr N F a) {c x y:Operand} {v:Value} (hc:opv F c=some (.bool false)) (hy:opv F y=some v):(execOp a.eval ⟨d,.pick c x y,ty,pos,af,g⟩).run P w=.ok (.value v) w:=by
  simp [execOp,hF.ev hy,hF.ev hc,asBool]
theorem Ao (hF:Fr N F a) {x y:Operand} {t u:TypeId} {k:IntKind} {m n:Int} (hx:opv F x=some (.int k m)) (hy:opv F y=some (.int k n)) :
    (execOp a.eval ⟨d,.binOp .add t x y u,ty,pos,af,g⟩).run P w=.ok (.value (.int k (k.wrap (m+n)))) w:=by
  simp [execOp,hF.ev hx,hF.ev hy,eqGuard,binOp,Op.intArith]
theorem Dr (hF:Fr N F a) {x y:Operand} {t u:TypeId} {k:IntKind} {m n:Int} (hx:opv F x=some (.int k m)) (hy:opv F y=some (.int k n)) :
    (execOp a.eval ⟨d,.binOp .sub t x y u,ty,pos,af,g⟩).run P w=.ok (.value (.int k (k.wrap (m - n)))) w:=by
  simp [execOp,hF.ev hx,hF.ev hy,eqGuard,binOp,Op.intArith]
theorem JbT (hF:Fr N F a) {x y:Operand} {t u:TypeId} {k:IntKind} {m n:Int} (hx:opv F x=some (.int k m)) (hy:opv F y=some (.int k n)) :
    (execOp a.eval ⟨d,.binOp .mul t x y u,ty,pos,af,g⟩).run P w=.ok (.value (.int k (k.wrap (m * n)))) w:=by
  simp [execOp,hF.ev hx,hF.ev hy,eqGuard,binOp,Op.intArith]
theorem Ja2 (n:Int) (h1 : -9223372036854775808≤n) (h2:n≤9223372036854775807):IntKind.i64.wrap n=n:=IntWalk.i64_in n (by omega)
theorem Dx (hF:Fr N F a) {x y:Operand} {t u:TypeId} {m n r:Int} (hx:opv F x=some (.int .i64 m)) (hy:opv F y=some (.int .i64 n)) (hr:m+n=r) (h : -9223372036854775808≤m+n∧m+n≤9223372036854775807) :
    (execOp a.eval ⟨d,.binOp .add t x y u,ty,pos,af,g⟩).run P w=.ok (.value (.int .i64 r)) w:=by
  rw [Ao hF hx hy,Ja2 _ h.1 h.2,hr]
theorem JeT (hF:Fr N F a) {x y:Operand} {t u:TypeId} {m n r:Int} (hx:opv F x=some (.int .i64 m)) (hy:opv F y=some (.int .i64 n)) (hr:m - n=r) (h : -9223372036854775808≤m - n∧m - n≤9223372036854775807) :
    (execOp a.eval ⟨d,.binOp .sub t x y u,ty,pos,af,g⟩).run P w=.ok (.value (.int .i64 r)) w:=by
  rw [Dr hF hx hy,Ja2 _ h.1 h.2,hr]
theorem Jg6 (hF:Fr N F a) {x y:Operand} {t u:TypeId} {k:IntKind} {m n:Int} (hx:opv F x=some (.int k m)) (hy:opv F y=some (.int k n)) (hn:n≠0) :
    (execOp a.eval ⟨d,.binOp .quo t x y u,ty,pos,af,g⟩).run P w=.ok (.value (.int k (k.wrap (m.tdiv n)))) w:=by
  simp [execOp,hF.ev hx,hF.ev hy,eqGuard,binOp,Op.intDiv,hn]
theorem JgG (hF:Fr N F a) {x y:Operand} {t u:TypeId} {k:IntKind} {m n:Int} (hx:opv F x=some (.int k m)) (hy:opv F y=some (.int k n)) (hn:n≠0) :
    (execOp a.eval ⟨d,.binOp .rem t x y u,ty,pos,af,g⟩).run P w=.ok (.value (.int k (m.tmod n))) w:=by
  simp [execOp,hF.ev hx,hF.ev hy,eqGuard,binOp,Op.intDiv,hn]
theorem Jg4 (hF:Fr N F a) {x y:Operand} {t u:TypeId} {k:IntKind} {m n:Int} (hx:opv F x=some (.int k m)) (hy:opv F y=some (.int k n)) :
    (execOp a.eval ⟨d,.binOp .and t x y u,ty,pos,af,g⟩).run P w=.ok (.value (.int k (k.wrap (BitVec.ofInt k.bits m &&& BitVec.ofInt k.bits n).toNat))) w:=by
  simp [execOp,hF.ev hx,hF.ev hy,eqGuard,binOp,Op.intBits]
theorem Am (hF:Fr N F a) {x y:Operand} {t u:TypeId} {k:IntKind} {m n:Int} (hx:opv F x=some (.int k m)) (hy:opv F y=some (.int k n)) :
    (execOp a.eval ⟨d,.binOp .lss t x y u,ty,pos,af,g⟩).run P w=.ok (.value (.bool (decide (m < n)))) w:=by
  simp [execOp,hF.ev hx,hF.ev hy,eqGuard,binOp,Op.intCmp]
theorem Gd (hF:Fr N F a) {x y:Operand} {t u:TypeId} {k:IntKind} {m n:Int} (hx:opv F x=some (.int k m)) (hy:opv F y=some (.int k n)) :
    (execOp a.eval ⟨d,.binOp .leq t x y u,ty,pos,af,g⟩).run P w=.ok (.value (.bool (decide (m≤n)))) w:=by
  simp [execOp,hF.ev hx,hF.ev hy,eqGuard,binOp,Op.intCmp]
theorem Ba (hF:Fr N F a) {x y:Operand} {t u:TypeId} {k:IntKind} {m n:Int} (hx:opv F x=some (.int k m)) (hy:opv F y=some (.int k n)) :
    (execOp a.eval ⟨d,.binOp .gtr t x y u,ty,pos,af,g⟩).run P w=.ok (.value (.bool (decide (n < m)))) w:=by
  simp [execOp,hF.ev hx,hF.ev hy,eqGuard,binOp,Op.intCmp]
theorem Bw (hF:Fr N F a) {x y:Operand} {t u:TypeId} {k:IntKind} {m n:Int} (hx:opv F x=some (.int k m)) (hy:opv F y=some (.int k n)) :
    (execOp a.eval ⟨d,.binOp .geq t x y u,ty,pos,af,g⟩).run P w=.ok (.value (.bool (decide (n≤m)))) w:=by
  simp [execOp,hF.ev hx,hF.ev hy,eqGuard,binOp,Op.intCmp]
theorem Ah (hF:Fr N F a) {x y:Operand} {t u:TypeId} {k:IntKind} {m n:Int} (hx:opv F x=some (.int k m)) (hy:opv F y=some (.int k n)) :
    (execOp a.eval ⟨d,.binOp .eql t x y u,ty,pos,af,g⟩).run P w=.ok (.value (.bool (decide (m=n)))) w:=by
  have:(m == n)=decide (m=n):=by by_cases h:m=n <;> simp [h]
  simp [execOp,hF.ev hx,hF.ev hy,eqGuard,binOp,Op.intCmp,this]
theorem Bg (hF:Fr N F a) {x y:Operand} {t u:TypeId} {k:IntKind} {m n:Int} (hx:opv F x=some (.int k m)) (hy:opv F y=some (.int k n)) :
    (execOp a.eval ⟨d,.binOp .neq t x y u,ty,pos,af,g⟩).run P w=.ok (.value (.bool (decide (m≠n)))) w:=by
  have:(m != n)=decide (m≠n):=by by_cases h:m=n <;> simp [h]
  simp [execOp,hF.ev hx,hF.ev hy,eqGuard,binOp,Op.intCmp,this]
theorem Jao {t:TypeId} {m n:Bool} (hu:∀ w,(underlying t).run P w=.ok .bool w):(Op.equal t (.bool m) (.bool n)).run P w=.ok (m == n) w:=by
  unfold Op.equal
  rw [show Op.maxDepth=9999+1 from rfl]
  generalize 9999=k
  simp [Op.equalIn,hu]
theorem Js (hF:Fr N F a) {x y:Operand} {t u:TypeId} {m n:Bool} (hu:∀ w,(underlying t).run P w=.ok .bool w) (hx:opv F x=some (.bool m)) (hy:opv F y=some (.bool n)) :
    (execOp a.eval ⟨d,.binOp .neq t x y u,ty,pos,af,g⟩).run P w=.ok (.value (.bool (m != n))) w:=by
  simp [execOp,hF.ev hx,hF.ev hy,eqGuard,binOp,Jao hu,bne]
theorem Bi (hF:Fr N F a) {x:Operand} {t:TypeId} {m:Bool} (hx:opv F x=some (.bool m)) :
    (execOp a.eval ⟨d,.unOp .not t x,ty,pos,af,g⟩).run P w=.ok (.value (.bool (!m))) w:=by
  simp [execOp,hF.ev hx,Op.unary]
theorem Jfd (hF:Fr N F a) {x y:Operand} {t u:TypeId} {m n:ByteArray} (hx:opv F x=some (.string m)) (hy:opv F y=some (.string n)) :
    (execOp a.eval ⟨d,.binOp .eql t x y u,ty,pos,af,g⟩).run P w=.ok (.value (.bool (m.toList == n.toList))) w:=by
  simp [execOp,hF.ev hx,hF.ev hy,eqGuard,binOp,Op.stringOp]
theorem JfF (hF:Fr N F a) {x y:Operand} {t u:TypeId} {m n:ByteArray} (hx:opv F x=some (.string m)) (hy:opv F y=some (.string n)) :
    (execOp a.eval ⟨d,.binOp .neq t x y u,ty,pos,af,g⟩).run P w=.ok (.value (.bool (!(m.toList == n.toList)))) w:=by
  simp [execOp,hF.ev hx,hF.ev hy,eqGuard,binOp,Op.stringOp]
theorem Cn (hF:Fr N F a) {x:Operand} {t e:TypeId} {oa:Option Addr} {n c:Nat} (hu:∀ w,(underlying t).run P w=.ok (.slice e) w) (hx:opv F x=some (.slice oa n c)) :
    (execOp a.eval ⟨d,.call ⟨.builtin .len,#[x],#[t]⟩,ty,pos,af,g⟩).run P w=.ok (.value (.int .i64 n)) w:=by
  simp [execOp,resolve,invoke,builtin,hF.ev hx,Builtin.len_,hu,goInt]
theorem JeK (hF:Fr N F a) {x:Operand} {t:TypeId} {s:ByteArray} (hu:∀ w,(underlying t).run P w=.ok .string w) (hx:opv F x=some (.string s)) :
    (execOp a.eval ⟨d,.call ⟨.builtin .len,#[x],#[t]⟩,ty,pos,af,g⟩).run P w=.ok (.value (.int .i64 s.size)) w:=by
  simp [execOp,resolve,invoke,builtin,hF.ev hx,Builtin.len_,hu,goInt]
theorem Tb (hF:Fr N F a) {x y:Operand} {ts:Array TypeId} {k:IntKind} {m n:Int} (hx:opv F x=some (.int k m)) (hy:opv F y=some (.int k n)) :
    (execOp a.eval ⟨d,.call ⟨.builtin .min,#[x,y],ts⟩,ty,pos,af,g⟩).run P w=.ok (.value (.int k (min m n))) w:=by
  have:(if n < m then n else m)=min m n:=by simp only [Int.min_def];split <;> split <;> omega
  simp [execOp,resolve,invoke,builtin,hF.ev hx,hF.ev hy,Builtin.min_,Builtin.min2,this]
theorem JaX (hF:Fr N F a) {x y:Operand} {ts:Array TypeId} {k:IntKind} {m n:Int} (hx:opv F x=some (.int k m)) (hy:opv F y=some (.int k n)) :
    (execOp a.eval ⟨d,.call ⟨.builtin .max,#[x,y],ts⟩,ty,pos,af,g⟩).run P w=.ok (.value (.int k (max m n))) w:=by
  have:(if m < n then n else m)=max m n:=by simp only [Int.max_def];split <;> split <;> omega
  simp [execOp,resolve,invoke,builtin,hF.ev hx,hF.ev hy,Builtin.max_,Builtin.max2,this]
theorem Af (hF:Fr N F a) {x:Operand} {ad:Addr} (hx:opv F x=some (.pointer (some ad))):(execOp a.eval ⟨d,.nilCheck x,ty,pos,af,g⟩).run P w=.ok (.value (.pointer (some ad))) w:=by
  simp [execOp,hF.ev hx]
theorem Dt (hF:Fr N F a) {x:Operand} {i:Nat} {vs:List Value} {v:Value} (hx:opv F x=some (.tuple vs.toArray)) (hv:nth vs i=some v):(execOp a.eval ⟨d,.extract x i,ty,pos,af,g⟩).run P w=.ok (.value v) w:=by
  rw [Kg] at hv
  simp [execOp,hF.ev hx,Instr.extract,hv]
theorem Ad (hF:Fr N F a) {x:Operand} {t:TypeId} {f b o k:Nat} (hfa:∀ (ad:Addr) (w:World),(Instr.fieldAt t (.pointer (some ad)) f).run P w=.ok (.pointer (some (ad.add k))) w)
    (hx:opv F x=some (.pointer (some ⟨b,o,none⟩))):(execOp a.eval ⟨d,.fieldAddr t x f,ty,pos,af,g⟩).run P w=.ok (.value (.pointer (some ⟨b,o+k,none⟩))) w:=by
  simp [execOp,hF.ev hx,hfa,Fy]
theorem Es (hF:Fr N F a) {x y:Operand} {t e:TypeId} {k:IntKind} {j:Int} {sz n c i:Nat} {oa:Option Addr}
    (hu:∀ w,(underlying t).run P w=.ok (.slice e) w) (hz:∀ w,(sizeOf e).run P w=.ok sz w)
    (hx:opv F x=some (.slice oa n c)) (hy:opv F y=some (.int k j)) (hj:j=(i:Int)) (hi:i < n) (hoa:oa=some ⟨(adr oa).block,(adr oa).off,none⟩) :
    (execOp a.eval ⟨d,.indexAddr t x y,ty,pos,af,g⟩).run P w=.ok (.value (.pointer (some ⟨(adr oa).block,(adr oa).off+i * sz,none⟩))) w:=by
  subst hj
  cases oa with
  | none=>cases hoa
  | some ad =>
    simp only [Option.some.injEq] at hoa
    have h1:(i:Int) < (n:Int):=by omega
    have h2:ad.add (i * sz)=⟨(adr (some ad)).block,(adr (some ad)).off+i * sz,none⟩:=by
      conv=>lhs;rw [hoa]
      exact Fy _ _ _
    simp [execOp,hF.ev hx,hF.ev hy,Instr.indexAt,asIntOf,hu,hz,hi,h2]
theorem Ap (hF:Fr N F a) {x:Operand} {t:TypeId} {ad:Addr} {v:Value} (hg:∀ w,(isAgg t).run P w=.ok false w) (hx:opv F x=some (.pointer (some ad))) (hc:w.cell? ad=some v) :
    (execOp a.eval ⟨d,.load t x,ty,pos,af,g⟩).run P w=.ok (.value v) w:=by
  simp [execOp,hF.ev hx,Instr.loadAt,Instr.sureAddr,loadVar,hg,load,Sem.run,hc]
theorem An (hF:Fr N F a) {x:Operand} {t:TypeId} {b o n:Nat} {vs:List Value} (hg:∀ w,(isAgg t).run P w=.ok true w) (hz:∀ w,(sizeOf t).run P w=.ok n w) (hx:opv F x=some (.pointer (some ⟨b,o,none⟩))) (hn:vs.length=n)
    (hc:∀ (j:Nat) (v:Value),vs[j]? = some v→w.cell? ⟨b,o+j,none⟩=some v) :
    (execOp a.eval ⟨d,.load t x,ty,pos,af,g⟩).run P w=.ok (.value (.agg vs.toArray)) w:=by
  have h:=run_loadCells_list (P:=P) w ⟨b,o,none⟩ vs (fun j v hv=>by rw [Fy];exact hc j v hv)
  rw [hn] at h
  simp [execOp,hF.ev hx,Instr.loadAt,Instr.sureAddr,loadVar,hg,hz,h]
theorem Jhr (hF:Fr N F a) {x:Operand} {lo hi:Option Operand} {t e:TypeId} {sz n c l h:Nat} {oa:Option Addr} {vl vh:Int}
    (hu:∀ w,(underlying t).run P w=.ok (.slice e) w) (hz:∀ w,(sizeOf e).run P w=.ok sz w)
    (hx:opv F x=some (.slice oa n c))
    (hlo:match lo with | some o=>opv F o=some (.int .i64 vl)∧vl=(l:Int) | none=>l=0)
    (hhi:match hi with | some o=>opv F o=some (.int .i64 vh)∧vh=(h:Int) | none=>h=n)
    (hlh:l≤h) (hhc:h≤c) :
    (execOp a.eval ⟨d,.slice t x lo hi none,ty,pos,af,g⟩).run P w=.ok (.value (.slice (if c=l then oa else oa.map (·.add (l * sz))) (h - l) (c - l))) w:=by
  have hsl:∀ (vx:Value),vx=.slice oa n c→(Instr.sliceAt t vx (lo.map a.eval) (hi.map a.eval) none).run P w=.ok (.slice (if c=l then oa else oa.map (·.add (l * sz))) (h - l) (c - l)) w:=by
    rintro vx rfl
    cases lo with
    | none =>
      subst hlo
      cases hi with
      | none=>subst hhi;simp [Instr.sliceAt,hu,Instr.slice,Instr.sliceBounds,hz]
      | some o =>
        obtain ⟨ho,rfl⟩:=hhi
        simp [Instr.sliceAt,hu,Instr.slice,Instr.sliceBounds,hz,hF.ev ho,Instr.sliceBound,asIntOf,hhc]
    | some o' =>
      obtain ⟨ho',rfl⟩:=hlo
      cases hi with
      | none =>
        subst hhi
        simp [Instr.sliceAt,hu,Instr.slice,Instr.sliceBounds,hz,hF.ev ho',Instr.sliceBound,asIntOf,hlh]
      | some o =>
        obtain ⟨ho,rfl⟩:=hhi
        simp [Instr.sliceAt,hu,Instr.slice,Instr.sliceBounds,hz,hF.ev ho,hF.ev ho',Instr.sliceBound,asIntOf,hhc,hlh]
  have:=hsl _ rfl
  simp only [Option.map] at this
  simp [execOp,hF.ev hx,this,Option.map]
def rho (F:List (Nat×Value)) (x:Operand):Value:=(opv F x).getD undef
end
end Go.LL
namespace Go.LL
open Go
section
variable {P:Program} {ops:Array Oper} {Q:Exit→Act→World→Prop} {a:Act} {w:World} {N:FN} {F:List (Nat×Value)}
  {w0:World} {M:Nat→Prop} {Hs:List PH} {L L':List HA} {K:Act→World→Prop}
  {d:Nat} {ty:TypeId} {pos:String} {af:Array Edge}
theorem Lq (w:World) (g:Nat) (cs:Array Value) (a:Addr):(w.setRow g cs).frozen? a=w.frozen? a:=by
  unfold World.frozen? World.setRow
  simp only [Array.getElem?_modify]
  by_cases e:g=a.block
  · rw [if_pos e]
    cases h:w.heap[a.block]? with
    | none=>rfl
    | some o=>cases o <;> rfl
  · rw [if_neg e]
theorem Hh (w:World) (o:Obj):hp (w.alloc o) w.heap.size=some o:=by
  show (w.heap.push o)[w.heap.size]? = some o
  simp
theorem St.alloc (hS:St w0 M Hs L w) (o:Obj) (ho:Kq o):St w0 M Hs (blk w.heap.size o :: L) (w.alloc o):=
  hS.add (.alloc _ _ _ ho) (Hh w o) (fun b hb=>Nat.le_of_eq hb.symm)
theorem Bo {t:TypeId} {x:Operand} {v:Value} {cs:Array Value} (hF:Fr N F a) (hN:Nat.blt d N.n=true) (hS:St w0 M Hs L w) (hx:opv F x=some v) (hc:v.cells=cs)
    (k:∀ b w a,St w0 M Hs (blk b (.cells cs t (0,0)) :: L) w→Fr N ((d,.pointer (some ⟨b,0,none⟩)) :: F) a→K a w):stp P ops Q ⟨some d,.box t x,ty,pos,af,none⟩ a w K:=by
  subst hc
  refine m1 (w':=w.alloc (.cells v.cells t)) hF hN (v:=.pointer (some ⟨w.heap.size,0,none⟩)) ?_ fun a hF=>k _ _ _ (hS.alloc _ (by first | exact H5 _ _ | exact Xy _ _ | exact hsoft)) hF
  simp [execOp,hF.ev hx,Instr.box,newVar,newRow,newObj,Sem.run]
theorem Aq {t:TypeId} {z:Value} {cs:Array Value} (hF:Fr N F a) (hN:Nat.blt d N.n=true) (hS:St w0 M Hs L w) (hz:∀ w,(zeroValue t).run P w=.ok z w) (hc:z.cells=cs)
    (k:∀ b w a,St w0 M Hs (blk b (.cells cs t (0,0)) :: L) w→Fr N ((d,.pointer (some ⟨b,0,none⟩)) :: F) a→K a w):stp P ops Q ⟨some d,.alloc t,ty,pos,af,none⟩ a w K:=by
  subst hc
  refine m1 (w':=w.alloc (.cells z.cells t)) hF hN (v:=.pointer (some ⟨w.heap.size,0,none⟩)) ?_ fun a hF=>k _ _ _ (hS.alloc _ (by first | exact H5 _ _ | exact Xy _ _ | exact hsoft)) hF
  simp [execOp,Instr.alloc,hz,newVar,newRow,newObj,Sem.run]
theorem Je0 {t e:TypeId} {n sz:Nat} {parts:Array (Nat×Operand)} (xs:List Value) (hF:Fr N F a) (hN:Nat.blt d N.n=true) (hS:St w0 M Hs L w)
    (ho:((Op.buildSlice t n parts).operands.toList.all fun x=>(opv F x).isSome)=true)
    (hl:xs.length=n * sz) (hm:Nat.ble n 1000000=true)
    (hr:∀ w:World,(execOp (rho F) ⟨some d,.buildSlice t n parts,ty,pos,af,none⟩).run P w=.ok (.value (.slice (some ⟨w.heap.size,0,none⟩) n n)) (w.alloc (.cells xs.toArray e)))
    (k:∀ b w a,St w0 M Hs (sla e sz (some ⟨b,0,none⟩) n n xs :: L) w→Fr N ((d,.slice (some ⟨b,0,none⟩) n n) :: F) a→K a w):stp P ops Q ⟨some d,.buildSlice t n parts,ty,pos,af,none⟩ a w K:=by
  refine m1 (w':=w.alloc (.cells xs.toArray e)) hF hN (v:=.slice (some ⟨w.heap.size,0,none⟩) n n) ?_ fun a hF=>k _ _ _ ?_ hF
  · rw [execOp_congr (ρ := a.eval) (ρ' := rho F) _ (fun cs b e => by cases e) (fun x hx => ?_)]
    · exact hr w
    · have h1 := List.all_eq_true.1 ho x (by simpa using hx)
      obtain ⟨v,hv⟩:=Option.isSome_iff_exists.1 h1
      rw [hF.ev hv,rho,hv];rfl
  · refine hS.add (.alloc _ _ _ (H5 _ _)) ?_ ?_
    · refine ⟨hl, .inr ⟨w.heap.size, n, xs.toArray, rfl, Hh w _, Nat.le_refl _, ?_, by simpa using hl, ?_⟩⟩
      · have:=Nat.le_of_ble_eq_true hm;unfold maxLen;omega
      · rw [List.take_of_length_le (by simp [hl])]
    · intro b hb
      simp [sl,Dk] at hb
      omega
inductive SetAt:List Value→Nat→Value→List Value→Prop
  | zero {x v:Value} {l:List Value}:SetAt (x :: l) 0 v (v :: l)
  | succ {x v:Value} {l l':List Value} {n:Nat} (h:SetAt l n v l'):SetAt (x :: l) (n+1) v (x :: l')
theorem SetAt.eq {l l':List Value} {n:Nat} {v:Value} (h:SetAt l n v l'):l'=l.set n v∧n < l.length:=by
  induction h with
  | zero=>simp
  | succ _ ih=>simp [ih.1,ih.2]
theorem Qe {w:World} {b o:Nat} {c:Array Value} {e:TypeId} {f:Nat×Nat} (v:Value) (hb:w.heap[b]? = some (.cells c e f)):hp (w.setCell ⟨b,o,none⟩ v) b=some (.cells (c.setIfInBounds o v) e f):=by
  unfold hp World.setCell
  simp [Array.getElem?_modify,hb]
theorem Keep.setCell {w:World} {b o:Nat} (v:Value):Keep (fun x=>x=b) w (w.setCell ⟨b,o,none⟩ v):=
  ⟨rfl,rfl,rfl,by simp,fun x _ hx=>by
    unfold World.setCell
    simp only [Array.getElem?_modify]
    rw [if_neg (fun e=>hx e.symm)],fun a _=>World.frozen?_setCell _ _ _ _⟩
theorem M9 {t:TypeId} {ad:Addr} {v u:Value} (hz:∀ w,(sizeOf t).run P w=.ok 1 w) (hv:v.cells=#[v]) (h1:v.oneCell'=true) (hc:w.cell? ad=some u) (hf:w.frozen? ad=false) :
    (Instr.storeAt t (.pointer (some ad)) v).run P w=.ok () (w.setCell ad v):=by
  have e0:ad.add 0=ad:=rfl
  have hst:(store ad v).run P w=.ok () (w.setCell ad v):=by
    rw [run_store P w ad v .plain h1,hc]
    simp [hf]
  simp [Instr.storeAt,Instr.sureAddr,storeVar,hz,hv,storeCells,e0,hst]
theorem Bl {t e:TypeId} {x y:Operand} {b o:Nat} {v:Value} {c c':List Value} (hF:Fr N F a) (hS:St w0 M Hs L w) (hz:∀ w,(sizeOf t).run P w=.ok 1 w)
    (hx:opv F x=some (.pointer (some ⟨b,o,none⟩))) (hy:opv F y=some v) (hv:v.cells=#[v]) (h1:v.oneCell'=true)
    (hr:Repl (blk b (.cells c.toArray e (0,0))) (blk b (.cells c'.toArray e (0,0))) L L') (hset:SetAt c o v c')
    (k:∀ w,St w0 M Hs L' w→K a w):stp P ops Q ⟨none,.store t x y,ty,pos,af,none⟩ a w K:=by
  obtain ⟨rfl,hlt⟩:=hset.eq
  have hb:w.heap[b]? = some (.cells c.toArray e (0,0)):=hS.ok _ hr.memOld
  have hc:w.cell? ⟨b,o,none⟩=some c[o]:=Ip hb (by simp [hlt])
  have hf:w.frozen? ⟨b,o,none⟩=false:=by simp [World.frozen?,hb]
  refine m0 (w':=w.setCell ⟨b,o,none⟩ v) ?_ (k _ ?_)
  · simp [execOp,hF.ev hx,hF.ev hy,M9 hz hv h1 hc hf]
  · refine hS.upd hr (.setCell v) ?_ (fun b' hb' => .inl hb')
    show hp _ b=_
    rw [Qe v hb]
    simp
theorem JcD {e:TypeId} {sz i n cap:Nat} {oa:Option Addr} {v:Value} {xs:List Value} (hS:St w0 M Hs L w)
    (hr:Repl (sla e sz oa n cap xs) (sla e sz oa n cap (xs.set i v)) L L') (hi:i < xs.length) :
    w.cell? ⟨(adr oa).block,(adr oa).off+i,none⟩=some xs[i]∧w.frozen? ⟨(adr oa).block,(adr oa).off+i,none⟩=false∧St w0 M Hs L' (w.setCell ⟨(adr oa).block,(adr oa).off+i,none⟩ v):=by
  have hok:SlOk e sz (.slice oa n cap) n xs (hp w):=hS.ok _ hr.memOld
  obtain ⟨hl,hn | ⟨g,cap',cur,hv,hg,hnc,hm,hs,ht⟩⟩:=hok
  · obtain ⟨_,h0⟩:=hn;subst h0;rw [Nat.zero_mul] at hl;omega
  · simp only [Value.slice.injEq] at hv
    obtain ⟨rfl,_,rfl⟩:=hv
    have hlen:xs.length≤cur.size:=by rw [hl,hs];exact Nat.mul_le_mul_right _ hnc
    have hci:cur[i]? = some xs[i]:=by
      have:(cur.toList.take (n * sz))[i]? = some xs[i]:=by rw [ht];simp [hi]
      rw [List.getElem?_take] at this
      split at this
      · simpa using this
      · cases this
    have e0:(adr (some ⟨g,0,none⟩)).off+i=i:=by simp [adr]
    have e1:(adr (some ⟨g,0,none⟩)).block=g:=rfl
    rw [e0,e1]
    have hg':w.heap[g]? = some (.cells cur e (0,0)):=hg
    refine ⟨Ip hg' hci,by simp [World.frozen?,hg'],?_⟩
    refine hS.upd hr ((Keep.setCell v).mono fun x hx=>?_) ?_ (fun b hb=>.inl hb)
    · subst hx;rfl
    · refine ⟨by simp [hl], .inr ⟨g, cap, cur.setIfInBounds i v, rfl, Qe v hg', hnc, hm, by simp [hs], ?_⟩⟩
      rw [Array.toList_setIfInBounds,← ht,List.take_set]
theorem Jf6 {t e:TypeId} {x y:Operand} {sz i n cap:Nat} {oa:Option Addr} {v:Value} {xs:List Value} (hF:Fr N F a) (hS:St w0 M Hs L w) (hz:∀ w,(sizeOf t).run P w=.ok 1 w)
    (hx:opv F x=some (.pointer (some ⟨(adr oa).block,(adr oa).off+i,none⟩))) (hy:opv F y=some v) (hv:v.cells=#[v]) (h1:v.oneCell'=true)
    (hr:Repl (sla e sz oa n cap xs) (sla e sz oa n cap (xs.set i v)) L L') (hi:i < xs.length)
    (k:∀ w,St w0 M Hs L' w→K a w):stp P ops Q ⟨none,.store t x y,ty,pos,af,none⟩ a w K:=by
  obtain ⟨hc,hf,hS'⟩:=JcD hS hr hi
  refine m0 (w':=w.setCell ⟨(adr oa).block,(adr oa).off+i,none⟩ v) ?_ (k _ hS')
  simp [execOp,hF.ev hx,hF.ev hy,M9 hz hv h1 hc hf]
theorem Ar {t e:TypeId} {x y:Operand} {b n:Nat} {c c':List Value} (hF:Fr N F a) (hS:St w0 M Hs L w) (hz:∀ w,(sizeOf t).run P w=.ok n w)
    (hx:opv F x=some (.pointer (some ⟨b,0,none⟩))) (hy:opv F y=some (.agg c'.toArray)) (hl:c.length=n) (hl':c'.length=n) (h1:∀ v∈c',v.oneCell'=true)
    (hr:Repl (blk b (.cells c.toArray e (0,0))) (blk b (.cells c'.toArray e (0,0))) L L')
    (k:∀ w,St w0 M Hs L' w→K a w):stp P ops Q ⟨none,.store t x y,ty,pos,af,none⟩ a w K:=by
  have hb:w.heap[b]? = some (.cells c.toArray e (0,0)):=hS.ok _ hr.memOld
  have hst:=run_storeCells_at P b 0 e c' 0 c.toArray w hb (by simp [hl,hl']) h1
  have e1:(c.toArray.toList.take (0+0) ++ c' ++ c.toArray.toList.drop (0+0+c'.length))=c':=by
    simp [hl,hl']
  rw [e1] at hst
  refine m0 (w':=w.setRow b c'.toArray) ?_ (k _ ?_)
  · simp [execOp,hF.ev hx,hF.ev hy,Instr.storeAt,Instr.sureAddr,storeVar,hz,Value.cells,hl',hst]
  · refine hS.upd hr ⟨rfl,rfl,rfl,by simp,fun x _ hx=>setRow_other w b x _ (fun e=>hx e),fun a _=>Lq w b _ a⟩ (setRow_heap w b _ _ e _ hb) (fun b' hb'=>.inl hb')
theorem Jf4 {t ty e:TypeId} {i:TypeInfo} {z:Value} {sz:Nat} (ht:P.underlying t=some (.slice e)) (hi:P.info? e=some i) (hz:i.zero=some z)
    (hsize:i.size=sz) (hzs:z.cells.size=sz) (hsz:0 < sz)
    {oa:Option Addr} {n cap:Nat} {xs:List Value} (hok:SlOk e sz (.slice oa n cap) n xs (hp w))
    {ob:Option Addr} {m c:Nat} {ys:List Value} (hl:ys.length=m * sz) (hob:ys≠[]→ob=some ⟨(adr ob).block,(adr ob).off,none⟩)
    (hys:∀ (j:Nat) (u:Value),ys[j]? = some u→w.cell? ⟨(adr ob).block,(adr ob).off+j,none⟩=some u) (h1:∀ u∈ys,u.oneCell'=true)
    (hmb:(n+m) * i.bytes≤140737488355328) (h63:n+m≤maxLen) :
    ∃ oa' cap' w', (Builtin.append_ #[t, t] ty #[.slice oa n cap, .slice ob m c]).run P w = .ok (.slice oa' (n + m) cap') w' ∧
      SlOk e sz (.slice oa' (n+m) cap') (n+m) (xs ++ ys) (hp w')∧Keep (fun b=>Dk (.slice oa n cap)=some b) w w'∧
      (∀ b,Dk (.slice oa' (n+m) cap')=some b→Dk (.slice oa n cap)=some b∨w.heap.size≤b):=by
  subst hsize
  have hlen:(xs ++ ys).length=(n+m) * i.size:=by rw [List.length_append,hok.1,hl,Nat.add_mul]
  have h63i : ¬ (9223372036854775807 < ((n:Int)+(m:Int))):=by unfold maxLen at h63;omega
  -- the new cells, read in w or behind a draw
  have hnew:∀ w1:World,(∀ ad,w1.cell? ad=w.cell? ad)→(Builtin.firstCells i.size m (.slice ob m c)).run P w1=.ok ys.toArray w1:=by
    intro w1 hw1
    cases ob with
    | none =>
      have:ys=[]:=by
        by_cases h:ys=[]
        · exact h
        · cases hob h
      subst this
      simp [Builtin.firstCells]
    | some ad =>
      by_cases h:ys=[]
      · subst h
        have hm0:m * i.size=0:=by simpa using hl.symm
        simp [Builtin.firstCells,hm0,loadCells,loadCellsFrom]
      · have had := hob h
        simp only [Option.some.injEq] at had
        refine run_firstCells_some (P:=P) w1 i.size m ad m c ys hl (fun j v hj=>?_)
        rw [had,Fy,hw1]
        exact hys j v hj
  have grow:∀ (old:Nat) (xs':Array Value),xs'=xs.toArray → 
      SlOk e i.size (.slice (some ⟨w.heap.size,0,none⟩) (n+m) (grownCap w (n+m) old e)) (n+m) (xs ++ ys) (hp (w.drew.alloc (.cells (xs' ++ ys.toArray ++ Builtin.zeroCells z.cells (grownCap w (n+m) old e - (n+m))) e))):=by
    intro old xs' hx'
    subst hx'
    have hge:=grownCap_ge w (n+m) old e
    have hcm:grownCap w (n+m) old e≤maxLen:=grownCap_le_maxLen w (n+m) old e h63
    refine ⟨hlen,.inr ⟨w.heap.size,_,_,rfl,Hh w.drew _,hge,hcm,?_,?_⟩⟩
    · simp only [Array.size_append, List.size_toArray, size_zeroCells, hzs, hok.1, hl, ← Nat.add_mul]
      congr 1
      omega
    · simp only [Array.toList_append, List.append_assoc]
      rw [← List.append_assoc,← hlen]
      exact List.take_left
  have kgrow:∀ (c:Array Value) (t:TypeId),Keep (fun b=>Dk (.slice oa n cap)=some b) w (w.drew.alloc (.cells c t)):=fun c t=>(Keep.drew _ w).trans (Keep.alloc Nil w.drew _ (H5 c t)) (fun _ _ h=>h.elim)
  rcases hok.2 with ⟨hv,hn0⟩ | ⟨g,cap',cur,hv,hg,hnc,hcm,hcs,htake⟩
  · simp only [Value.slice.injEq] at hv
    obtain ⟨rfl,_,rfl⟩:=hv
    subst hn0
    have hx:xs=[]:=List.eq_nil_of_length_eq_zero (by simpa using hok.1)
    subst hx
    by_cases hm0:m=0
    · subst hm0
      have hy:ys=[]:=List.eq_nil_of_length_eq_zero (by simpa using hl)
      subst hy
      refine ⟨none,0,w,?_,⟨by simp,.inl ⟨rfl,rfl⟩⟩,.refl _ _,fun b hb=>by simp [Dk] at hb⟩
      have h0:=hnew w (fun _=>rfl)
      simp [Builtin.append_,run_underlying ht,sizeOf,typeInfo,hi,Builtin.lenOf,h0]
    · have hgr := grow 0 #[] rfl
      have h48' : ¬ (281474976710656 < Builtin.nextslicecap m 0 * i.bytes):=by
        rw [nextslicecap_zero (by omega)];simp only [Nat.zero_add] at hmb;omega
      have h0:=hnew w.drew (fun _=>rfl)
      have h63m : ¬ (9223372036854775807 < (m:Int)):=by omega
      simp only [Nat.zero_add] at hgr ⊢
      refine ⟨_,_,_,?_,hgr,kgrow _ _,fun b hb=>.inr (by simp [Dk] at hb;omega)⟩
      simp [Builtin.append_,run_underlying ht,sizeOf,typeInfo,zeroValue,hi,hz,Builtin.lenOf,hm0,h63m,h48',Question.forced,run_firstCells_none,h0,newRow,grownCap]
  · simp only [Value.slice.injEq] at hv
    obtain ⟨rfl,_,rfl⟩:=hv
    by_cases hroom:n+m≤cap
    · have hfit : n * i.size + ys.length ≤ cur.size := by rw [hl, hcs, ← Nat.add_mul]; exact Nat.mul_le_mul_right _ hroom
      have hst:=run_storeCells_at P g (n * i.size) e ys 0 cur w hg (by simpa using hfit) h1
      simp only [Nat.add_zero] at hst
      have h0:=hnew w (fun _=>rfl)
      refine ⟨some ⟨g,0,none⟩,cap,w.setRow g (cur.toList.take (n * i.size) ++ ys ++ cur.toList.drop (n * i.size+ys.length)).toArray,?_,⟨hlen,.inr ⟨g,cap,_,rfl,setRow_heap w g cur _ e _ hg,hroom,hcm,?_,?_⟩⟩,
        ⟨rfl,rfl,rfl,by simp,fun x _ hx=>setRow_other w g x _ (fun e=>hx (by simp [Dk,e])),fun a _=>Lq w g _ a⟩,fun b hb=>.inl hb⟩
      · simp [Builtin.append_,run_underlying ht,sizeOf,typeInfo,hi,Builtin.lenOf,hroom,h0,Fy,hst]
      · simp only [List.size_toArray, List.length_append, List.length_take, List.length_drop, Array.length_toList]
        omega
      · rw [htake, ← hlen]
        exact List.take_left
    · have hgr := grow cap xs.toArray rfl
      have h48' : ¬ (281474976710656 < Builtin.nextslicecap (n+m) cap * i.bytes):=by
        have:=growslice_fits (need:=n+m) (old:=cap) (bytes:=i.bytes) (by omega) hmb
        omega
      have h0:=hnew w.drew (fun _=>rfl)
      have hold:(Builtin.firstCells i.size n (.slice (some ⟨g,0,none⟩) n cap)).run P w.drew=.ok xs.toArray w.drew:=by
        refine run_firstCells_some (P:=P) w.drew i.size n ⟨g,0,none⟩ n cap xs hok.1 (fun j v hj=>?_)
        rw [Fy]
        have:=(SlOk.rd hok).cell j v hj
        rw [Ai] at this
        exact this
      refine ⟨_,_,_,?_,hgr,kgrow _ _,fun b hb=>.inr (by simp [Dk] at hb;omega)⟩
      simp [Builtin.append_,run_underlying ht,sizeOf,typeInfo,zeroValue,hi,hz,Builtin.lenOf,hroom,h63i,h48',Question.forced,hold,h0,newRow,grownCap]
      congr 2
      rw [← Array.append_assoc]
      congr 1
      simp
theorem ap {t e:TypeId} {i:TypeInfo} {z:Value} {sz:Nat} {x y:Operand} {oa ob:Option Addr} {n cap m c:Nat} {xs ys:List Value}
    (hF:Fr N F a) (hN:Nat.blt d N.n=true) (hS:St w0 M Hs L w)
    (ht:P.underlying t=some (.slice e)) (hi:P.info? e=some i) (hz:i.zero=some z) (hsize:i.size=sz) (hzs:z.cells.size=sz) (hsz:0 < sz)
    (hx:opv F x=some (.slice oa n cap)) (hy:opv F y=some (.slice ob m c)) (hmem:sla e sz oa n cap xs∈L)
    (hl:ys.length=m * sz) (hrd:Rd (hp w) ob ys) (h1:∀ u∈ys,u.oneCell'=true) (hmb:(n+m) * i.bytes≤140737488355328) (h63:n+m≤maxLen)
    (k:∀ oa' cap' w a,(∀ L',Repl (sla e sz oa n cap xs) (sla e sz oa' (n+m) cap' (xs ++ ys)) L L'→St w0 M Hs L' w)→Fr N ((d,.slice oa' (n+m) cap') :: F) a→K a w) :
    stp P ops Q ⟨some d,.call ⟨.builtin .append,#[x,y],#[t,t]⟩,ty,pos,af,none⟩ a w K:=by
  obtain ⟨oa',cap',w',hr,hok,hk,hf⟩:=Jf4 (P:=P) (ty:=ty) (w:=w) ht hi hz hsize hzs hsz (hS.ok _ hmem) hl hrd.some (fun j u hj=>by rw [← Ai];exact hrd.cell j u hj) h1 hmb h63 (c:=c)
  refine m1 (w':=w') hF hN (v:=.slice oa' (n+m) cap') ?_ fun a hF=>k oa' cap' w' a (fun L' hrep=>hS.upd hrep hk hok hf) hF
  simp [execOp,resolve,invoke,builtin,hF.ev hx,hF.ev hy,hr]
end
end Go.LL
namespace Go.LL
open Go
def Ce {α:Type} (f:α→HA) (l:List α):HA:=
  { fp := fun b => ∃ x ∈ l, (f x).fp b,
    ok:=fun h=>(∀ x∈l,(f x).ok h)∧l.Pairwise (fun x y=>Apart (f x) (f y)),
    dom:=fun h b ho ⟨x,hx,hb⟩=>(f x).dom h b (ho.1 x hx) hb,
    loc:=fun h h' e ho=>⟨fun x hx=>(f x).loc h h' (fun b hb=>e b ⟨x,hx,hb⟩) (ho.1 x hx),ho.2⟩ }
theorem Jcw {α:Type} (f:α→HA) (h:PH):(Ce f []).ok h:=⟨fun x hx=>(by cases hx),.nil⟩
section
variable {κ:Type} [DecidableEq κ]
def toE (kv:κ→Value) (x:κ×Value×Nat):MapEntry:=⟨kv x.1,x.2.1,x.2.2⟩
def Hi (k:κ):List (κ×Value×Nat)→Option Value
  | []=>none
  | x :: r=>if k=x.1 then some x.2.1 else Hi k r
def Jak (k:κ) (v:Value):List (κ×Value×Nat)→List (κ×Value×Nat)
  | []=>[]
  | x :: r=>if k=x.1 then (x.1,v,x.2.2) :: r else x :: Jak k v r
def JcU (k:κ) (v:Value) (c:Nat) (l:List (κ×Value×Nat)):List (κ×Value×Nat):=
  if (Hi k l).isSome then Jak k v l else l ++ [(k,v,c)]
theorem Jcd (k k':κ) (v:Value) (c:Nat) (l:List (κ×Value×Nat)):Hi k' (JcU k v c l)=if k'=k then some v else Hi k' l:=by
  have hset:∀ l:List (κ×Value×Nat),(Hi k l).isSome=true→Hi k' (Jak k v l)=if k'=k then some v else Hi k' l:=by
    intro l
    induction l with
    | nil=>intro h;simp [Hi] at h
    | cons x r ih =>
      intro h
      simp only [Hi] at h
      by_cases e:k=x.1
      · simp only [Jak, e, if_true, Hi]
        split <;> rfl
      · rw [if_neg e] at h
        simp only [Jak,e,if_false,Hi,ih h]
        by_cases e2:k'=x.1
        · have e3 : ¬ k' = k := fun e3 => e (e3.symm.trans e2)
          rw [if_pos e2,if_neg e3,if_pos e2]
        · rw [if_neg e2,if_neg e2]
  unfold JcU
  split
  · rename_i h;exact hset l h
  · rename_i h
    have hn:Hi k l=none:=by simpa using h
    have happ:∀ l:List (κ×Value×Nat),Hi k' (l ++ [(k,v,c)])=(Hi k' l).or (if k'=k then some v else none):=by
      intro l
      induction l with
      | nil=>simp [Hi]
      | cons x r ih=>simp only [List.cons_append,Hi,ih];split <;> simp
    rw [happ]
    by_cases e:k'=k
    · subst e;simp [hn]
    · simp [e]
def Wo (l:List (κ×Value×Nat)):Prop:=(l.map (·.1)).Nodup
theorem Ki {k:κ} {l:List (κ×Value×Nat)} {v:Value} {b:Nat} (hd:Wo l) (h:(k,v,b)∈l):Hi k l=some v:=by
  induction l with
  | nil=>cases h
  | cons x r ih =>
    unfold Wo at hd
    simp only [List.map_cons,List.nodup_cons] at hd
    simp only [Hi]
    rcases List.mem_cons.1 h with rfl | h
    · simp
    · by_cases e : k = x.1
      · exact absurd (List.mem_map.2 ⟨(k,v,b),h,e⟩) hd.1
      · rw [if_neg e];exact ih hd.2 h
theorem Sl {k:κ} {l:List (κ×Value×Nat)}:Hi k l=none↔k ∉ l.map (·.1):=by
  induction l with
  | nil=>simp [Hi]
  | cons x r ih =>
    simp only [Hi,List.map_cons,List.mem_cons,not_or]
    by_cases e:k=x.1
    · simp [e]
    · simp [e,ih]
theorem Jb5 (k:κ) (v:Value) (l:List (κ×Value×Nat)):(Jak k v l).map (·.1)=l.map (·.1):=by
  induction l with
  | nil=>rfl
  | cons x r ih=>simp only [Jak];split <;> simp [ih]
theorem Jcn {k:κ} {v:Value} {c:Nat} {l:List (κ×Value×Nat)} (h:Wo l):Wo (JcU k v c l):=by
  unfold JcU Wo
  split
  · rw [Jb5];exact h
  · rename_i hn
    have hn':Hi k l=none:=by simpa using hn
    rw [List.map_append,List.map_cons,List.map_nil,List.nodup_append]
    refine ⟨h,by simp,?_⟩
    intro a ha b hb
    simp at hb;subst hb
    intro e;subst e
    exact Sl.1 hn' ha
def Jee (kv:κ→Value) (r:Nat) (l:List (κ×Value×Nat)) (c:Nat):HA:=blk r (.map (l.map (toE kv)).toArray c)
section
variable {P:Program} {kt et t:TypeId} {kv:κ→Value}
end
section
variable {P:Program} {ops:Array Oper} {Q:Exit→Act→World→Prop} {a:Act} {w:World} {N:FN} {F:List (Nat×Value)}
  {w0:World} {M:Nat→Prop} {Hs:List PH} {L L':List HA} {K:Act→World→Prop}
  {d:Nat} {ty:TypeId} {pos:String} {af:Array Edge} {kt et t:TypeId} {kv:κ→Value}
end
end
section
variable {P:Program} {ops:Array Oper} {Q:Exit→Act→World→Prop} {a:Act} {w:World} {N:FN} {F:List (Nat×Value)}
  {w0:World} {M:Nat→Prop} {Hs:List PH} {L L':List HA} {K:Act→World→Prop}
  {d:Nat} {ty:TypeId} {pos:String} {af:Array Edge}
theorem Ss (z:Value) (n:Nat):madeCells #[z] n=(List.replicate n z).toArray:=by
  apply Array.ext
  · simp [madeCells]
  · intro j h1 h2
    simp [madeCells,Nat.mod_one]
theorem Wx {t e:TypeId} {z:Value} {bytes:Nat} {x y:Operand} {n:Nat} (hF:Fr N F a) (hN:Nat.blt d N.n=true) (hS:St w0 M Hs L w)
    (ht:P.underlying t=some (.slice e)) (hinfo:(P.info? e).map (fun i=>(i.zero,i.size,i.bytes))=some (some z,1,bytes)) (hzc:z.cells=#[z])
    (hx:opv F x=some (.int .i64 n)) (hy:opv F y=some (.int .i64 n)) (hb:bytes * n≤281474976710656) (hn:n≤maxLen)
    (k:∀ b w a,St w0 M Hs (sla e 1 (some ⟨b,0,none⟩) n n (List.replicate n z) :: L) w→Fr N ((d,.slice (some ⟨b,0,none⟩) n n) :: F) a→K a w) :
    stp P ops Q ⟨some d,.makeSlice t x y,ty,pos,af,none⟩ a w K:=by
  have hrun:=run_make_row' (P:=P) t e z bytes ht hinfo hzc .i64 .i64 n hb (by unfold maxLen at hn;omega) w
  rw [Ss] at hrun
  refine m1 (w':=w.alloc (.cells (List.replicate n z).toArray e)) hF hN (v:=.slice (some ⟨w.heap.size,0,none⟩) n n) ?_ fun a hF=>k _ _ _ ?_ hF
  · simp [execOp,hF.ev hx,hF.ev hy,hrun]
  · refine hS.add (.alloc _ _ _ (H5 _ _)) ⟨by simp, .inr ⟨w.heap.size, n, _, rfl, Hh w _, Nat.le_refl _, hn, by simp, by simp⟩⟩ ?_
    intro b hb
    simp [sl,Dk] at hb
    omega
theorem apI {t e:TypeId} {z:Value} {sz bytes:Nat} {x y:Operand} {oa ob:Option Addr} {n cap m c:Nat} {xs ys:List Value}
    (hF:Fr N F a) (hN:Nat.blt d N.n=true) (hS:St w0 M Hs L w)
    (ht:P.underlying t=some (.slice e)) (hinfo:(P.info? e).map (fun i=>(i.zero,i.size,i.bytes))=some (some z,sz,bytes)) (hzs:z.cells.size=sz) (hsz:0 < sz)
    (hx:opv F x=some (.slice oa n cap)) (hy:opv F y=some (.slice ob m c)) (hmem:sla e sz oa n cap xs∈L)
    (hl:ys.length=m * sz) (hrd:Rd (hp w) ob ys) (h1:∀ u∈ys,u.oneCell'=true) (hmb:(n+m) * bytes≤140737488355328) (h63:n+m≤maxLen)
    (k:∀ oa' cap' w a,(∀ L',Repl (sla e sz oa n cap xs) (sla e sz oa' (n+m) cap' (xs ++ ys)) L L'→St w0 M Hs L' w)→Fr N ((d,.slice oa' (n+m) cap') :: F) a→K a w) :
    stp P ops Q ⟨some d,.call ⟨.builtin .append,#[x,y],#[t,t]⟩,ty,pos,af,none⟩ a w K:=by
  obtain ⟨i,hi,hzz⟩:=Option.map_eq_some_iff.1 hinfo
  simp only [Prod.mk.injEq] at hzz
  obtain ⟨hz,hs,hb⟩:=hzz
  subst hb
  exact ap hF hN hS ht hi hz hs hzs hsz hx hy hmem hl hrd h1 hmb h63 k
end
def sepA (L:List HA):HA:=Ce id L
theorem Bz {L:List HA} {h:PH}:(sepA L).ok h↔(∀ A∈L,A.ok h)∧L.Pairwise Apart:=Iff.rfl
structure Mut (w:World) (A A':HA) (w':World):Prop where
  keep:Keep A.fp w w'
  ok:A'.ok (hp w')
  fp:∀ b,A'.fp b→A.fp b∨w.heap.size≤b
structure Fresh (w:World) (A:HA) (w':World):Prop where
  keep:Keep Nil w w'
  ok:A.ok (hp w')
  fp:∀ b,A.fp b→w.heap.size≤b
section
variable {w0 w w':World} {M:Nat→Prop} {Hs:List PH} {L L':List HA}
theorem St.mut (hs:St w0 M Hs L w) {A A':HA} (hm:Mut w A A' w') (hr:Repl A A' L L'):St w0 M Hs L' w':=hs.upd hr hm.keep hm.ok hm.fp
theorem St.fresh (hs:St w0 M Hs L w) {A:HA} (hm:Fresh w A w'):St w0 M Hs (A :: L) w':=hs.add hm.keep hm.ok hm.fp
theorem St.nilS (hs:St w0 M Hs L w) (e:TypeId) (sz:Nat):St w0 M Hs (sla e sz none 0 0 [] :: L) w:=
  hs.add (.refl _ _) ⟨by simp,.inl ⟨rfl,rfl⟩⟩ (fun b hb=>by simp [sl,Dk] at hb)
theorem St.startL (h:∀ x∈Hs,x.le w) (ho:(sepA L).ok (hp w)) (hd:∀ b,(sepA L).fp b→∀ x∈Hs,x b=none):St w (sepA L).fp Hs L w:=
  ⟨.refl _ w,h,ho.1,fun A hA b hb=>⟨.inr ⟨A,hA,hb⟩,hd b ⟨A,hA,hb⟩⟩,ho.2⟩
theorem St.endMut {A:HA} (hs:St w0 A.fp Hs L w):Mut w0 A (sepA L) w:=
  ⟨hs.keep,⟨hs.ok,hs.disj⟩,fun b ⟨B,hB,hb⟩=>((hs.own B hB b hb).1).symm⟩
theorem St.endFresh (hs:St w0 Nil Hs L w) {A:HA} (hA:A∈L):Fresh w0 A w:=
  ⟨hs.keep,hs.ok A hA,fun b hb=>((hs.own A hA b hb).1).resolve_right id⟩
theorem St.endFreshL (hs:St w0 Nil Hs L w):Fresh w0 (sepA L) w:=
  ⟨hs.keep,⟨hs.ok,hs.disj⟩,fun b ⟨B,hB,hb⟩=>((hs.own B hB b hb).1).resolve_right id⟩
theorem Ii {h:PH} {b off:Nat} {c:List Value} {e:TypeId} {f:Nat×Nat} {v:Value} (hb:h b=some (.cells c.toArray e f)) (hv:nth c off=some v):h.cell? ⟨b,off,none⟩=some v:=by
  rw [Kg] at hv
  simp [PH.cell?,hb,hv]
theorem Rd.up {h:PH} {oa:Option Addr} {vs:List Value} (hr:Rd h oa vs) (hl:h.le w):Rd (hp w) oa vs:=hr.mono hl
theorem St.rdH (hs:St w0 M Hs L w) {h:PH} (hh:h∈Hs) {oa:Option Addr} {vs:List Value} (hr:Rd h oa vs):Rd (hp w) oa vs:=hr.up (hs.hs h hh)
theorem St.rdO (hs:St w0 M Hs L w) {e:TypeId} {sz:Nat} {oa:Option Addr} {n cap:Nat} {xs:List Value} (hm:sla e sz oa n cap xs∈L):Rd (hp w) oa xs:=hs.ld.rdO hm
end
section
variable {w:World} {Hs:List PH} {L:List HA}
theorem Lds.elH2 (hs:Lds Hs L w) {h:PH} (hh:h∈Hs) {oa:Option Addr} {vs:List Value} (hr:Rd h oa vs) {j f:Nat} {v:Value} (hj:vs[j+f]? = some v):w.cell? ⟨(adr oa).block,(adr oa).off+j+f,none⟩=some v:=by
  rw [Nat.add_assoc];exact hs.elH hh hr hj
theorem Lds.elO2 (hs:Lds Hs L w) {e:TypeId} {sz:Nat} {oa:Option Addr} {n cap:Nat} {xs:List Value} (hm:sla e sz oa n cap xs∈L) {j f:Nat} {v:Value} (hj:xs[j+f]? = some v):w.cell? ⟨(adr oa).block,(adr oa).off+j+f,none⟩=some v:=by
  rw [Nat.add_assoc];exact hs.elO hm hj
theorem Lds.elsO (hs:Lds Hs L w) {e:TypeId} {sz:Nat} {oa:Option Addr} {n cap:Nat} {xs us:List Value} (hm:sla e sz oa n cap xs∈L) {k:Nat} (hj:∀ (j:Nat) (v:Value),us[j]? = some v→xs[k+j]? = some v) :
    ∀ (j:Nat) (v:Value),us[j]? = some v→w.cell? ⟨(adr oa).block,(adr oa).off+k+j,none⟩=some v:=fun j v h=>hs.elO2 hm (hj j v h)
theorem Lds.cellsB (hs:Lds Hs L w) {b:Nat} {vs:List Value} {e:TypeId} {f:Nat×Nat} (hA:blk b (.cells vs.toArray e f)∈L) :
    ∀ (j:Nat) (v:Value),vs[j]? = some v→w.cell? ⟨b,0+j,none⟩=some v:=fun j v h=>by
  rw [Nat.zero_add];exact hs.cellB hA (by simpa [Kg] using h)
end
theorem elR {w:World} {oa:Option Addr} {vs:List Value} (hr:Rd (hp w) oa vs) {j:Nat} {v:Value} (hj:vs[j]? = some v):w.cell? ⟨(adr oa).block,(adr oa).off+j,none⟩=some v:=by
  rw [← Ai];exact hr.cell j v hj
theorem Ak {l:List Value} (h:l.all (·.oneCell')=true):∀ v∈l,v.oneCell'=true:=fun v hv=>List.all_eq_true.1 h v hv
theorem Kn {α:Type} {f:α→List Value} {sz:Nat} (hf:∀ x,(f x).length=sz):∀ {l:List α} {k j:Nat} (hk:k < l.length) (_:j < sz),(l.flatMap f)[k * sz+j]? = (f l[k])[j]?:=by
  intro l
  induction l with
  | nil=>intro k j hk;simp at hk
  | cons x r ih =>
    intro k j hk hj
    rw [List.flatMap_cons]
    cases k with
    | zero =>
      rw [Nat.zero_mul,Nat.zero_add,List.getElem?_append_left (by rw [hf];exact hj)]
      rfl
    | succ k =>
      rw [List.getElem?_append_right (by rw [hf,Nat.succ_mul];omega),hf,show (k+1) * sz+j - sz=k * sz+j by rw [Nat.succ_mul];omega]
      simpa using ih (by simpa using hk) hj
theorem Jdi {α:Type} {f:α→List Value} {sz:Nat} (hf:∀ x,(f x).length=sz) {l:List α} {k:Nat} (hk:k < l.length):∀ (j:Nat) (v:Value),(f l[k])[j]? = some v→(l.flatMap f)[k * sz+j]? = some v:=by
  intro j v h
  have hj:j < sz:=by rw [← hf l[k]];exact (List.getElem?_eq_some_iff.1 h).1
  rw [Kn hf hk hj];exact h
theorem flat_len {α:Type} {f:α→List Value} {sz:Nat} (hf:∀ x,(f x).length=sz) (l:List α):(l.flatMap f).length=l.length * sz:=by
  induction l with
  | nil=>simp
  | cons x r ih=>rw [List.flatMap_cons,List.length_append,hf,ih,List.length_cons,Nat.succ_mul,Nat.add_comm]
theorem Ja5 {α:Type} {f:α→List Value} {sz:Nat} (hf:∀ x,(f x).length=sz) (hs:0 < sz) {l:List α} (h:0 < l.length):l.flatMap f≠[]:=by
  intro e
  have:=flat_len hf l
  rw [e] at this
  have:0 < l.length * sz:=Nat.mul_pos h hs
  simp at *
  omega
def Bj (l:List Int):List Value:=l.map (.int .i64)
theorem Ev (l:List Int):(Bj l).length=l.length * 1:=by simp [Bj]
theorem Eu {l:List Int} {k:Nat} (h:k < l.length):(Bj l)[k * 1]? = some (.int .i64 l[k]):=by simp [Bj,h]
theorem Dl {l:List Int} (h:0 < l.length):Bj l≠[]:=by cases l <;> simp_all [Bj]
theorem Ra (l:List Int) (k:Nat) (n:Int):(Bj l).set (k * 1) (.int .i64 n)=Bj (l.set k n):=by simp [Bj,List.map_set]
theorem Fx (l m:List Int):Bj l ++ Bj m=Bj (l ++ m):=by simp [Bj]
theorem Fo (l:List Int):∀ v∈Bj l,v.oneCell'=true:=by
  intro v hv
  obtain ⟨n,_,rfl⟩:=List.mem_map.1 hv
  rfl
theorem Iy (n:Nat) (z:Int):List.replicate n (Value.int .i64 z)=Bj (List.replicate n z):=by simp [Bj]
section
variable {α:Type} {f:α→HA} {w w':World}
theorem Je5 {A:HA} {w:World} {b:Nat} (ho:A.ok (hp w)) (hb:A.fp b):b < w.heap.size:=by
  have h2:=A.dom _ b ho hb
  rcases Nat.lt_or_ge b w.heap.size with h | h
  · exact h
  · exact absurd (Array.getElem?_eq_none h) h2
theorem Jdf {l1 l2:List α} {x x':α} (ho:(Ce f (l1 ++ x :: l2)).ok (hp w)) (hk:Keep (f x).fp w w') (hx:(f x').ok (hp w')) (hf:∀ b,(f x').fp b→(f x).fp b∨w.heap.size≤b) :
    (Ce f (l1 ++ x' :: l2)).ok (hp w'):=by
  have hpw:=List.pairwise_append.1 ho.2
  have hc:=List.pairwise_cons.1 hpw.2.1
  have hxo:=ho.1 x (by simp)
  have ap1:∀ y∈l1,Apart (f y) (f x):=fun y hy=>hpw.2.2 y hy x (by simp)
  have okO:∀ y,y∈l1∨y∈l2→(f y).ok (hp w'):=by
    intro y hy
    refine (f y).loc _ _ (fun b hb=>?_) (ho.1 y (by rcases hy with h | h <;> simp [h]))
    refine hk.block b (Je5 (ho.1 y (by rcases hy with h | h <;> simp [h])) hb) (fun hxb=>?_)
    rcases hy with h | h
    · exact ap1 y h b hb hxb
    · exact hc.1 y h b hxb hb
  have apN:∀ y,y∈l1∨y∈l2→∀ b,(f y).fp b→¬ (f x').fp b:=by
    intro y hy b hb hb'
    rcases hf b hb' with h | h
    · rcases hy with h1 | h1
      · exact ap1 y h1 b hb h
      · exact hc.1 y h1 b h hb
    · have := Je5 (ho.1 y (by rcases hy with h | h <;> simp [h])) hb
      omega
  refine ⟨fun y hy=>?_,?_⟩
  · rcases List.mem_append.1 hy with h | h
    · exact okO y (.inl h)
    · rcases List.mem_cons.1 h with rfl | h
      · exact hx
      · exact okO y (.inr h)
  · refine List.pairwise_append.2 ⟨hpw.1, List.pairwise_cons.2 ⟨fun y hy b hb hb' => apN y (.inr hy) b hb' hb, hc.2⟩, fun y hy z hz => ?_⟩
    rcases List.mem_cons.1 hz with rfl | hz
    · exact fun b hb hb'=>apN y (.inl hy) b hb hb'
    · exact hpw.2.2 y hy z (by simp [hz])
end
def Vj:List (Option Value)→List Value→List Value
  | none :: r,v :: s=>v :: Vj r s
  | some z :: r,s=>z :: Vj r s
  | none :: _,[]=>[]
  | [],_=>[]
section
variable {P:Program} {a:Act} {w:World} {N:FN} {F:List (Nat×Value)} {d:Option Tmp} {ty:TypeId} {pos:String} {af:Array Edge} {g:Option (Nat×Bool)}
theorem Mj {t:TypeId} {parts:List (Nat×Operand)} {vs:List Value} {r:Value} (hF:Fr N F a) (hargs:N8 F (parts.map (·.2)) vs)
    (hr:(Instr.build t ((parts.map (·.1)).zip vs).toArray).run P w=.ok r w) :
    (execOp a.eval ⟨d,.build t parts.toArray,ty,pos,af,g⟩).run P w=.ok (.value r) w:=by
  have e:(parts.toArray.map fun (i,x)=>(i,a.eval x))=((parts.map (·.1)).zip vs).toArray:=by
    rw [← Jg hF hargs]
    rw [List.map_toArray]
    congr 1
    clear hr hargs
    induction parts with
    | nil=>rfl
    | cons p q ih=>simp [ih]
  simp only [execOp]
  rw [e]
  simp [hr]
theorem JfV {t:TypeId} {parts:List (Nat×Operand)} (vs:List Value) (hF:Fr N F a) (hargs:N8 F (parts.map (·.2)) vs)
    (hr:∀ w,(Instr.build t ((parts.map (·.1)).zip vs).toArray).run P w=.ok (.agg vs.toArray) w) :
    (execOp a.eval ⟨d,.build t parts.toArray,ty,pos,af,g⟩).run P w=.ok (.value (.agg vs.toArray)) w:=Mj hF hargs (hr w)
theorem Gk {t:TypeId} {parts:List (Nat×Operand)} (vs:List Value) (zs:List (Option Value)) (hF:Fr N F a) (hargs:N8 F (parts.map (·.2)) vs)
    (hr:∀ w,(Instr.build t ((parts.map (·.1)).zip vs).toArray).run P w=.ok (.agg (Vj zs vs).toArray) w) :
    (execOp a.eval ⟨d,.build t parts.toArray,ty,pos,af,g⟩).run P w=.ok (.value (.agg (Vj zs vs).toArray)) w:=Mj hF hargs (hr w)
end
end Go.LL
namespace Go.LL
open Go
section
variable {P:Program} {ops:Array Oper} {Q:Exit→Act→World→Prop} {a:Act} {w:World} {N:FN} {F:List (Nat×Value)}
  {w0:World} {M:Nat→Prop} {Hs:List PH} {L L':List HA} {K:Act→World→Prop}
  {d:Nat} {ty:TypeId} {pos:String} {af:Array Edge}
theorem cp {t t' e e':TypeId} {x y:Operand} {oa ob:Option Addr} {n cap m c:Nat} {xs ys:List Value}
    (hF:Fr N F a) (hN:Nat.blt d N.n=true) (hS:St w0 M Hs L w)
    (ht:P.underlying t=some (.slice e)) (hi:(P.info? e).map (·.size)=some 1)
    (hx:opv F x=some (.slice oa n cap)) (hy:opv F y=some (.slice ob m c)) (hm:m≤n)
    (hr:Repl (sla e' 1 oa n cap xs) (sla e' 1 oa n cap (ys ++ xs.drop m)) L L')
    (hl:ys.length=m) (hrd:Rd (hp w) ob ys) (h1:∀ u∈ys,u.oneCell'=true)
    (k:∀ w a,St w0 M Hs L' w→Fr N ((d,.int .i64 (m:Int)) :: F) a→K a w) :
    stp P ops Q ⟨some d,.call ⟨.builtin .copy,#[x,y],#[t,t']⟩,ty,pos,af,none⟩ a w K:=by
  have hok:SlOk e' 1 (.slice oa n cap) n xs (hp w):=hS.ok _ hr.memOld
  have hmin:Nat.min m n=m:=Nat.min_eq_left hm
  by_cases h0:m=0
  · subst h0
    obtain rfl:ys=[]:=List.eq_nil_of_length_eq_zero hl
    have hrun:=run_copy_none (P:=P) w t t' ty e oa ob n cap 0 c ht hi hmin
    refine m1 (w':=w) hF hN (v:=goInt 0) ?_ fun a hF=>k w a ?_ hF
    · simp [execOp,resolve,invoke,builtin,hF.ev hx,hF.ev hy,hrun]
    · exact hS.upd hr (.refl _ _) (show SlOk _ _ _ _ _ _ by simpa using hok) (fun b hb=>.inl hb)
  · have hne : ys ≠ [] := fun e => by rw [e] at hl; exact h0 hl.symm
    have hsome:=hrd.some hne
    obtain ⟨hlx,hn | ⟨g,cap',cur,hv,hg,hnc,hcm,hcs,htake⟩⟩:=hok
    · omega
    · simp only [Value.slice.injEq] at hv
      obtain ⟨rfl,_,rfl⟩:=hv
      have hg':w.heap[g]? = some (.cells cur e' (0,0)):=hg
      have hrun:=run_copy_row (P:=P) w t t' ty e g 0 n cap (adr ob) m c cur e' ys ht hi hg' (by rw [hl,hmin])
        (fun j v hj=>by
          have h2:=hrd.cell j v hj
          rw [Ai] at h2
          rw [show adr ob=⟨(adr ob).block,(adr ob).off,none⟩ by cases ob with | none=>rfl | some ad=>simpa [adr] using Option.some.inj hsome,Fy];exact h2) (by rw [hl,hcs];omega) h1
      have hob:some (adr ob)=ob:=by rw [hsome];rfl
      rw [hob] at hrun
      refine m1 (w':=w.setRow g (cur.toList.take 0 ++ ys ++ cur.toList.drop (0+ys.length)).toArray) hF hN (v:=goInt ys.length) ?_ fun a hF=>k _ a ?_ (by rw [← hl];exact hF)
      · simp [execOp,resolve,invoke,builtin,hF.ev hx,hF.ev hy,hrun]
      · refine hS.upd hr ⟨rfl, rfl, rfl, by simp, fun x _ hx => setRow_other w g x _ (fun e => hx (by simp [Dk, e, sla, sl])), fun a _ => Lq w g _ a⟩ ?_ (fun b hb => .inl hb)
        refine ⟨by simp [hl,hlx];omega,.inr ⟨g,cap,_,rfl,setRow_heap w g cur _ e' _ hg',hnc,hcm,by simp [hcs,hl];omega,?_⟩⟩
        rw [← htake]
        simp only [List.take_zero,List.nil_append,Nat.zero_add,Nat.mul_one]
        rw [hl,List.take_append,hl,List.take_of_length_le (by omega),List.drop_take]
inductive PickL:List HA→List HA→Prop
  | nil {L:List HA}:PickL [] L
  | cons {A:HA} {L L1 L':List HA} (h:Pick A L L1) (t:PickL L' L1):PickL (A :: L') L
theorem Pick.mem2 {A:HA} {L L1:List HA} (h:Pick A L L1):A∈L∧∀ B∈L1,B∈L:=by
  induction h with
  | head=>exact ⟨.head _,fun B h=>.tail _ h⟩
  | tail _ ih =>
    refine ⟨.tail _ ih.1,fun B h=>?_⟩
    rcases List.mem_cons.1 h with rfl | h
    · exact .head _
    · exact .tail _ (ih.2 B h)
theorem Apart.symm {A B:HA} (h:Apart A B):Apart B A:=fun b h1 h2=>h b h2 h1
theorem Pick.disj {A:HA} {L L1:List HA} (h:Pick A L L1) (hd:L.Pairwise Apart):(∀ B∈L1,Apart A B)∧L1.Pairwise Apart:=by
  induction h with
  | head=>exact ⟨(List.pairwise_cons.1 hd).1,(List.pairwise_cons.1 hd).2⟩
  | tail h ih =>
    obtain ⟨h1,h2⟩:=List.pairwise_cons.1 hd
    obtain ⟨h3,h4⟩:=ih h2
    refine ⟨fun B hB=>?_,List.pairwise_cons.2 ⟨fun B hB=>h1 B (h.mem2.2 B hB),h4⟩⟩
    rcases List.mem_cons.1 hB with rfl | hB
    · exact (h1 _ h.mem2.1).symm
    · exact h3 B hB
theorem PickL.mem {L L':List HA} (h:PickL L' L):∀ B∈L',B∈L:=by
  induction h with
  | nil=>intro B h;cases h
  | cons h _ ih =>
    intro B hB
    rcases List.mem_cons.1 hB with rfl | hB
    · exact h.mem2.1
    · exact h.mem2.2 B (ih B hB)
theorem PickL.disj {L L':List HA} (h:PickL L' L) (hd:L.Pairwise Apart):L'.Pairwise Apart:=by
  induction h with
  | nil=>exact .nil
  | cons h t ih =>
    obtain ⟨h1,h2⟩:=h.disj hd
    exact List.pairwise_cons.2 ⟨fun B hB=>h1 B (t.mem B hB),ih h2⟩
theorem St.pickL (hS:St w0 M Hs L w) (h:PickL L' L):St w0 M Hs L' w:=
  ⟨hS.keep,hS.hs,fun A hA=>hS.ok A (h.mem A hA),fun A hA=>hS.own A (h.mem A hA),h.disj hS.disj⟩
theorem St.unsep {K:List HA} (hS:St w0 M Hs (sepA K :: L) w):St w0 M Hs (K ++ L) w:=by
  have h1:=Bz.1 (hS.ok (sepA K) (.head _))
  obtain ⟨h2,h3⟩:=List.pairwise_cons.1 hS.disj
  refine ⟨hS.keep,hS.hs,fun A hA=>?_,fun A hA=>?_,List.pairwise_append.2 ⟨h1.2,h3,fun A hA B hB b hb=>h2 B hB b ⟨A,hA,hb⟩⟩⟩
  · rcases List.mem_append.1 hA with h | h
    · exact h1.1 A h
    · exact hS.ok A (.tail _ h)
  · rcases List.mem_append.1 hA with h | h
    · exact fun b hb=>hS.own (sepA K) (.head _) b ⟨A,h,hb⟩
    · exact hS.own A (.tail _ h)
theorem St.nilBig {α:Type} (hS:St w0 M Hs L w) (f:α→HA):St w0 M Hs (Ce f [] :: L) w:=hS.add (.refl _ _) (Jcw f _) (fun b ⟨x,hx,_⟩=>nomatch hx)
end
end Go.LL
namespace Go.LL
open Go
abbrev Vec (n:Nat):={ l:List Int // l.length=n }
abbrev kA (n:Nat):Vec n→Value:=fun l=>.agg (Bj l.1).toArray
theorem St.bigPush {α:Type} {f:α→HA} {l:List α} {x:α} {w0 w:World} {M:Nat→Prop} {Hs:List PH} {L L1 L2:List HA} (hS:St w0 M Hs L w) (hp:Pick (f x) L L1) (hr:Repl (Ce f l) (Ce f (l ++ [x])) L1 L2):St w0 M Hs L2 w:=by
  have h1:=hS.drop hp
  have hap:=(hp.disj hS.disj).1
  have hbig:(Ce f l).ok (_root_.Go.LL.hp w):=h1.ok _ hr.memOld
  have hx:=hS.ok _ hp.mem
  have hsplit:∀ b,(Ce f (l ++ [x])).fp b→(Ce f l).fp b∨(f x).fp b:=fun b ⟨y,hy,hb⟩=>by
    rcases List.mem_append.1 hy with h | h
    · exact .inl ⟨y,h,hb⟩
    · simp only [List.mem_cons,List.not_mem_nil,or_false] at h;subst h;exact .inr hb
  refine ⟨h1.keep,h1.hs,?_,?_,?_⟩
  · intro A hA
    rcases hr.others h1.disj A hA with rfl | ⟨h,_⟩
    · refine ⟨fun y hy => ?_, List.pairwise_append.2 ⟨hbig.2, List.pairwise_cons.2 ⟨fun _ h => (nomatch h), .nil⟩, fun y hy z hz => ?_⟩⟩
      · rcases List.mem_append.1 hy with h | h
        · exact hbig.1 y h
        · simp only [List.mem_cons,List.not_mem_nil,or_false] at h;subst h;exact hx
      · simp only [List.mem_cons, List.not_mem_nil, or_false] at hz; subst hz
        exact fun b hb hb2=>hap _ hr.memOld b hb2 ⟨y,hy,hb⟩
    · exact h1.ok A h
  · intro A hA b hb
    rcases hr.others h1.disj A hA with rfl | ⟨h,_⟩
    · rcases hsplit b hb with h | h
      · exact h1.own _ hr.memOld b h
      · exact hS.own _ hp.mem b h
    · exact h1.own A h b hb
  · have key:∀ {L1 L2:List HA},Repl (Ce f l) (Ce f (l ++ [x])) L1 L2→L1.Pairwise Apart→(∀ B∈L1,Apart (f x) B)→L2.Pairwise Apart∧∀ B∈L2,B=Ce f (l ++ [x])∨B∈L1:=by
      intro L1 L2 hr
      induction hr with
      | head =>
        intro hd ha
        obtain ⟨h2,h3⟩:=List.pairwise_cons.1 hd
        refine ⟨List.pairwise_cons.2 ⟨fun B hB b hb hb2=>?_,h3⟩,fun B hB=>?_⟩
        · rcases hsplit b hb with h | h
          · exact h2 B hB b h hb2
          · exact ha B (.tail _ hB) b h hb2
        · rcases List.mem_cons.1 hB with h | h
          · exact .inl h
          · exact .inr (.tail _ h)
      | tail hr ih =>
        intro hd ha
        obtain ⟨h2,h3⟩:=List.pairwise_cons.1 hd
        obtain ⟨h4,h5⟩:=ih h3 (fun B hB=>ha B (.tail _ hB))
        refine ⟨List.pairwise_cons.2 ⟨fun B hB=>?_,h4⟩,fun B hB=>?_⟩
        · rcases h5 B hB with rfl | h
          · intro b hb hb2
            rcases hsplit b hb2 with h | h
            · exact h2 _ hr.memOld b hb h
            · exact ha _ (.head _) b h hb
          · exact h2 B h
        · rcases List.mem_cons.1 hB with rfl | h
          · exact .inr (.head _)
          · rcases h5 B h with h | h
            · exact .inl h
            · exact .inr (.tail _ h)
    exact (key hr h1.disj hap).1
section
variable {P:Program} {a:Act} {w:World} {N:FN} {F:List (Nat×Value)} {d:Option Tmp} {ty:TypeId} {pos:String} {af:Array Edge} {g:Option (Nat×Bool)}
end
end Go.LL
namespace Go.LL
open Go
def lo (n:Nat) (m:Int):Nat:=(BitVec.ofInt 64 m &&& BitVec.ofInt 64 n).toNat
theorem Jgo {n:Nat} (h:n < 9223372036854775808) (m:Int):lo n m≤n:=by
  unfold lo
  rw [BitVec.toNat_and]
  refine Nat.le_trans Nat.and_le_right (Nat.le_of_eq ?_)
  rw [BitVec.toNat_ofInt]
  omega
section
variable {P:Program} {a:Act} {w:World} {N:FN} {F:List (Nat×Value)} {d:Option Tmp} {ty:TypeId} {pos:String} {af:Array Edge} {g:Option (Nat×Bool)}
theorem Jav (hF:Fr N F a) {x y:Operand} {t u:TypeId} {m:Int} {n:Nat} (hn:n < 9223372036854775808) (hx:opv F x=some (.int .i64 m)) (hy:opv F y=some (.int .i64 (n:Int))) :
    (execOp a.eval ⟨d,.binOp .and t x y u,ty,pos,af,g⟩).run P w=.ok (.value (.int .i64 ((lo n m:Nat):Int))) w:=by
  have h:=Jg4 (P:=P) (w:=w) (d:=d) (ty:=ty) (pos:=pos) (af:=af) (g:=g) (t:=t) (u:=u) hF hx hy
  rw [h]
  have:IntKind.i64.wrap ((lo n m:Nat):Int)=((lo n m:Nat):Int):=by
    have:=Jgo hn m
    rw [IntKind.wrap_i64];omega
  rw [← this]
  rfl
theorem Yx (hF:Fr N F a) {x y:Operand} {t u:TypeId} {k:IntKind} {m n:Nat} (hx:opv F x=some (.int k (m:Int))) (hy:opv F y=some (.int k (n:Int))) (hn:0 < n) :
    (execOp a.eval ⟨d,.binOp .rem t x y u,ty,pos,af,g⟩).run P w=.ok (.value (.int k ((m % n:Nat):Int))) w:=by
  rw [JgG hF hx hy (by omega)]
  rfl
theorem Je8 (hF:Fr N F a) {x y:Operand} {t e:TypeId} {k:IntKind} {j:Int} {sz n b i:Nat} (hu:∀ w,(underlying t).run P w=.ok (.array n e) w) (hz:∀ w,(sizeOf e).run P w=.ok sz w)
    (hx:opv F x=some (.pointer (some ⟨b,0,none⟩))) (hy:opv F y=some (.int k j)) (hj:j=(i:Int)) (hi:i < n) :
    (execOp a.eval ⟨d,.indexAddr t x y,ty,pos,af,g⟩).run P w=.ok (.value (.pointer (some ⟨b,0+i * sz,none⟩))) w:=by
  subst hj
  have h1:(i:Int) < (n:Int):=by omega
  have h2:(⟨b,0,none⟩:Addr).add (i * sz)=⟨b,0+i * sz,none⟩:=Fy _ _ _
  simp [execOp,hF.ev hx,hF.ev hy,Instr.indexAt,asIntOf,hu,hz,h1,h2,Instr.sureAddr]
  intro h;exact absurd h (by omega)
theorem As {o:Oper} {v v':Value} (h:(execOp a.eval o).run P w=.ok (.value v) w) (e:v=v'):(execOp a.eval o).run P w=.ok (.value v') w:=e ▸ h
end
end Go.LL
namespace Go.LL
open Go Go.ChangeShapes Go.WideShapes Go.ChangeAt Go.RowKit Go.WideElems
section
variable {H:Type} {enc:TypeId×Value→H} {P:Program} {W W':World} {base:Nat}
theorem Keep.frame (h:Keep Nil W W') (p:MemPlace→Prop):W.keptBut W' p:=by
  refine World.keptBut_mono (may:=fun _=>False) (fun x hx=>hx.elim) ⟨h.os,h.output,fun i hi=>?_⟩
  rw [h.block i hi id]
  cases W.heap[i]? with
  | none=>rfl
  | some o => cases o with
    | cells c t fr=>exact ⟨rfl,rfl,rfl,fun _ _=>rfl⟩
    | map es c=>exact .inr ⟨rfl,rfl⟩
    | _=>rfl
theorem Uu {f:Func} {s:ChangeSpec} {apart fresh handsOn again:Bool} {args:Array Value} {v:Value} {ds gs:List (DataW H)} {before pa pv:List MemPlace}
    (hW:DataW.Whole enc P f.params.toList s.vars apart W args.toList ds gs before)
    (hres:∀ (b:Nat) (sp:Nat→Bool) (hd:Bool),DataW.TrodAll enc P W' b sp hd f.resultTypes.toList (v.resultList f.resultTypes.size) (s.fn H (ds ++ gs)).results [])
    (hargs:∀ sp:Nat→Bool,(∀ p∈before,sp p.block=true)→DataW.TrodAll enc P W' 0 sp true f.params.toList args.toList (s.fn H (ds ++ gs)).args pa)
    (hvars:∀ sp:Nat→Bool,(∀ p∈before,sp p.block=true)→DataW.TrodVars enc P W' sp s.vars (s.fn H (ds ++ gs)).vars pv)
    (hps:before=pa ++ pv) (hk:Keep Nil W W')
    (hok:∀ (j:Nat) (t:TypeId) (r:Value),f.resultTypes[j]? = some t→(v.resultList f.resultTypes.size)[j]? = some r→Value.okWide P W' .any 0 t r) :
    s.post enc P f apart fresh handsOn again W args v W':=by
  have hold:∀ p∈before,(fun b=>decide (b < W.heap.size)) p.block=true:=fun p hp=>by simpa using hW.lt p hp
  have hlt:=hW.lt
  refine ⟨ds,gs,before,[],pa,pv,hW,hres _ _ _,hargs _ hold,hvars _ hold,hk.frame _,fun _=>?_⟩
  · obtain ⟨_, _, _, _, _, hz, hn⟩ := hW
    refine ⟨hok,_,_,([] ++ pa) ++ pv,⟨[] ++ pa,pv,trodAll_append (hargs _ (fun _ _=>rfl)) (hres _ _ _),hvars _ (fun _ _=>rfl),rfl,?_,?_⟩,?_⟩
    · intro b off hp
      have hp2:MemPlace.cell b off∈before:=by rw [hps];simpa using hp
      rw [hk.fz _ (hlt _ hp2)]
      exact hz b off hp2
    · intro ha
      have:=hn ha
      rw [hps] at this
      simpa using this
    · intro p hp _
      rw [hps]
      simpa using hp
theorem Keep.sameAt (h:Keep Nil W W') {p:MemPlace} (hp:p.block < W.heap.size):W.sameAt W' p:=by
  cases p with
  | cell b off =>
    show W'.cell? _=W.cell? _
    unfold World.cell?
    rw [h.block b hp id]
  | map b=>exact h.block b hp id
theorem Np (hl:laidOutB P=true):∀ {ts:List TypeId} {vs:List Value} {ds:List (DataW H)} {ps:List MemPlace} {sp:Nat→Bool},(∀ t∈ts,P.readableRec t=true∧t < P.types.size)→
    DataW.TrodAll enc P W base (fun _=>true) true ts vs ds ps→(∀ p∈ps,W.sameAt W' p)→(∀ p∈ps,sp p.block=true)→DataW.TrodAll enc P W' base sp true ts vs ds ps
  | [], vs, ds, ps, sp, _, h, _, _ => by
    obtain ⟨rfl,rfl,rfl⟩:=trodAll_nil h
    exact rfl
  | t :: ts, vs, ds, ps, sp, hr, h, h1, h2 => by
    obtain ⟨v,vs',d,ds',p,q,rfl,rfl,rfl,hd,ht⟩:=trodAll_cons h
    exact ⟨p,q,Trod_stays hl (hr t (.head _)).1 (hr t (.head _)).2 hd (fun x hx=>h1 x (List.mem_append.2 (.inl hx))) (fun x hx=>h2 x (List.mem_append.2 (.inl hx))),
      Np hl (fun t ht=>hr t (.tail _ ht)) ht (fun x hx=>h1 x (List.mem_append.2 (.inr hx))) (fun x hx=>h2 x (List.mem_append.2 (.inr hx))),rfl⟩
theorem JcQ {f:Func} {s:ChangeSpec} {apart fresh handsOn again:Bool} {args:Array Value} {ds gs:List (DataW H)} {before:List MemPlace} {tb:TypeId}
    (hW:DataW.Whole enc P f.params.toList s.vars apart W args.toList ds gs before) (hl:laidOutB P=true) (hr0:(f.params.toList.all fun t=>P.readableRec t && decide (t < P.types.size))=true) (hv:s.vars=[])
    (hres:f.resultTypes=#[tb]) (htb:P.underlying tb=some .bool) (hfn:s.fn H ds={ results:=[.lit (.bool true)],args:=ds }) (hk:Keep Nil W W') :
    s.post enc P f apart fresh handsOn again W args (.bool true) W':=by
  have hr:∀ t∈f.params.toList,P.readableRec t=true∧t < P.types.size:=fun t ht=>by
    have:=List.all_eq_true.1 hr0 t ht
    simpa using this
  have hlt:=hW.lt
  have hW2:=hW
  obtain ⟨p,q,hA,hV,rfl,hz,hn⟩:=hW2
  rw [hv] at hV
  obtain ⟨rfl,rfl⟩:=trodVars_none hV
  have e0:s.fn H (ds ++ [])={ results:=[.lit (.bool true)],args:=ds }:=by rw [List.append_nil];exact hfn
  refine Uu (pa:=p) (pv:=[]) hW (fun b sp hd=>?_) (fun sp hsp=>?_) (fun sp _=>?_) rfl hk (ok_one hres rfl (okWide_bool_mk htb _))
  · rw [e0,hres];exact trodAll_mk1 (shut_bool htb true)
  · rw [e0];exact Np hl hr hA (fun x hx=>hk.sameAt (hlt x (List.mem_append.2 (.inl hx)))) (fun x hx=>hsp x (List.mem_append.2 (.inl hx)))
  · rw [e0,hv];rfl
theorem Jbw {w:World} {a:Addr} {v:Value} (h:w.cell? (a.add 0)=some v):a=⟨a.block,a.off,none⟩:=by
  obtain ⟨b,o,sp⟩:=a
  cases sp with
  | none=>rfl
  | some s =>
    exfalso
    have e:(⟨b,o,some s⟩:Addr).add 0=⟨b,o,some s⟩:=rfl
    rw [e] at h
    unfold World.cell? at h
    split at h <;> simp at h
end
end Go.LL
namespace Go.MD
open Go
abbrev Str:=List UInt8
structure IntK (k:IntKind) where
  v:Int
  deriving DecidableEq
structure Arr (n:Nat) (α:Type) where
  l:List α
  h:l.length=n
theorem Arr.ext {n:Nat} {α:Type}:∀ {a b:Arr n α},a.l=b.l→a=b
  | ⟨_,_⟩,⟨_,_⟩,rfl=>rfl
instance {n:Nat} {α:Type} [DecidableEq α]:DecidableEq (Arr n α):=fun a b=>if h:a.l=b.l then .isTrue (Arr.ext h) else .isFalse (fun e=>h (by rw [e]))
def getI {α:Type} (xs:List α) (i:Int):Option α:=if 0≤i then xs[i.toNat]? else none
def Dj {α:Type} (xs:List α) (lo hi:Int):Option (List α):=if 0≤lo∧lo≤hi∧hi≤(xs.length:Int) then some ((xs.take hi.toNat).drop lo.toNat) else none
def Cj {α:Type} (bytes:Nat) (xs ys:List α):Option (List α):=if (xs.length+ys.length) * bytes≤140737488355328∧xs.length+ys.length≤4611686018427387904 then some (xs ++ ys) else none
def Kc {α:Type} (xs:List α) (i:Int) (v:α):Option (List α):=if 0≤i∧i.toNat < xs.length then some (xs.set i.toNat v) else none
def Vm (a b:Str):Option Str:=if a.length+b.length≤9223372036854775807 then some (a ++ b) else none
def Jd9 (k:IntKind) (x y:Int):Option Int:=if y=0 then none else some (k.wrap (x.tdiv y))
def Pn (s:Str) (i:Int):Option Int:=(getI s i).map fun b=>(b.toNat:Int)
def Lx (b:Bool):Option Unit:=if b then some () else none
theorem bind_some {α β:Type} {x:Option α} {f:α→Option β} {r:β} (h:x.bind f=some r):∃ a,x=some a∧f a=some r:=Option.bind_eq_some_iff.1 h
theorem Cr {b:Bool} {u:Unit} (h:Lx b=some u):b=true:=by
  unfold Lx at h
  split at h
  · assumption
  · cases h
theorem Fh {α:Type} {xs:List α} {i:Int} {x:α} (h:getI xs i=some x):0≤i∧xs[i.toNat]? = some x:=by
  unfold getI at h
  split at h
  · exact ⟨by assumption,h⟩
  · cases h
theorem Lr {α:Type} {xs:List α} {i:Int} {x:α} (h:getI xs i=some x):0≤i∧i.toNat < xs.length:=⟨(Fh h).1,(List.getElem?_eq_some_iff.1 (Fh h).2).1⟩
theorem Ls {α:Type} {xs ys:List α} {lo hi:Int} (h:Dj xs lo hi=some ys):0≤lo∧lo≤hi∧hi≤(xs.length:Int)∧ys=(xs.take hi.toNat).drop lo.toNat:=by
  unfold Dj at h
  split at h
  · rename_i c;exact ⟨c.1,c.2.1,c.2.2,(Option.some.inj h).symm⟩
  · cases h
theorem Jbu {α:Type} {b:Nat} {xs ys zs:List α} (h:Cj b xs ys=some zs):(xs.length+ys.length) * b≤140737488355328∧xs.length+ys.length≤4611686018427387904∧zs=xs ++ ys:=by
  unfold Cj at h
  split at h
  · rename_i c;exact ⟨c.1,c.2,(Option.some.inj h).symm⟩
  · cases h
theorem Tz {α:Type} {xs ys:List α} {i:Int} {v:α} (h:Kc xs i v=some ys):0≤i∧i.toNat < xs.length∧ys=xs.set i.toNat v:=by
  unfold Kc at h
  split at h
  · rename_i c;exact ⟨c.1,c.2,(Option.some.inj h).symm⟩
  · cases h
theorem H8 {α:Type} {xs ys:List α} {i:Int} {v:α} (h:Kc xs i v=some ys):ys.length=xs.length:=by rw [(Tz h).2.2,List.length_set]
theorem Jb7 {a b c:Str} (h:Vm a b=some c):a.length+b.length≤9223372036854775807∧c=a ++ b:=by
  unfold Vm at h
  split at h
  · rename_i q;exact ⟨q,(Option.some.inj h).symm⟩
  · cases h
theorem Jaa {s:Str} {i n:Int} (h:Pn s i=some n):∃ b,getI s i=some b∧n=(b.toNat:Int):=by
  obtain ⟨b,h1,h2⟩:=Option.map_eq_some_iff.1 h
  exact ⟨b,h1,h2.symm⟩
def Je2 {κ β:Type} [DecidableEq κ] (k:κ):List (κ×β)→Option β
  | []=>none
  | x :: r=>if k=x.1 then some x.2 else Je2 k r
def Ww (n:Int):Option Str:=if -9223372036854775808≤n∧n≤9223372036854775807 then some (Lib.itoa n) else none
def yy {σ ρ α:Type} (bd:σ→α→Option (σ ⊕ ρ)):σ ⊕ ρ→α→Option ((σ ⊕ ρ)×Bool)
  | .inl s,x=>(bd s x).map fun r=>(r,r.isLeft)
  | .inr _,_=>none
end Go.MD
namespace Go.MD
end Go.MD
namespace Go.MD
end Go.MD
namespace Go.MD
end Go.MD
