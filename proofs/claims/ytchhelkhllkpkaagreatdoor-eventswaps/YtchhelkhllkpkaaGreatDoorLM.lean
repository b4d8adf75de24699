/- The lifter's library: how plain data lies in memory, and the operations of lifted functions. No condition: definitions and plain lemmas. -/
import Derived.Test.YtchhelkhllkpkaaGreatDoorLLa
import Derived.Laws.Strings
import Derived.Lib.AppendStr
import Derived.RangeFuncNested
import Derived.Shelf.Spec.SlicesGrow
import Derived.Maps.RangeRun
import Derived.HandedShaped
import Derived.OpenShut
import Derived.Lib.LaidTab
import Derived.Stop.LaidErr
import Derived.Shelf.Strconv.Itoa0
import Derived.Shelf.Strconv.Itoa1
import Derived.Shelf.LaysM
import Derived.Shelf.Strconv.Itoa2
import Derived.Shelf.Strconv.Itoa3
import Derived.Test.YtchhelkhllkpkaaGreatDoorProg
set_option linter.unusedSectionVars false
namespace Go.LM
open Go Go.LL Go.MD
class Enc (α:Type) where
  sz:Nat
  rep:PH→List Value→α→Prop
  len:∀ {h:PH} {cs:List Value} {x:α},rep h cs x→cs.length=sz
  mono:∀ {h h':PH} {cs:List Value} {x:α},(∀ b o,h b=some o→h' b=some o)→rep h cs x→rep h' cs x
  one:∀ {h:PH} {cs:List Value} {x:α},rep h cs x→∀ v∈cs,v.oneCell'=true
theorem Jbk {u:Value} (h:u.oneCell'=true):∀ v∈[u],v.oneCell'=true:=fun v hv=>by
  simp only [List.mem_cons,List.not_mem_nil,or_false] at hv;subst hv;exact h
abbrev Ae (s:Str):Value:=.string ⟨s.toArray⟩
instance:Enc Int:={ sz:=1,rep:=fun _ cs x=>cs=[.int .i64 x],len:=fun h=>by rw [h];rfl,mono:=fun _ h=>h,one:=fun h=>by subst h;exact Jbk rfl }
instance:Enc Bool:={ sz:=1,rep:=fun _ cs x=>cs=[.bool x],len:=fun h=>by rw [h];rfl,mono:=fun _ h=>h,one:=fun h=>by subst h;exact Jbk rfl }
instance:Enc (List UInt8):={ sz:=1,rep:=fun _ cs x=>cs=[Ae x],len:=fun h=>by rw [h];rfl,mono:=fun _ h=>h,one:=fun h=>by subst h;exact Jbk rfl }
instance {k:IntKind}:Enc (IntK k):={ sz:=1,rep:=fun _ cs x=>cs=[.int k x.v],len:=fun h=>by rw [h];rfl,mono:=fun _ h=>h,one:=fun h=>by subst h;exact Jbk rfl }
instance {α β:Type} [Enc α] [Enc β]:Enc (α×β):=
  { sz := Enc.sz α + Enc.sz β
    rep:=fun h cs x=>∃ c1 c2,cs=c1 ++ c2∧Enc.rep h c1 x.1∧Enc.rep h c2 x.2
    len:=fun ⟨c1,c2,e,h1,h2⟩=>by rw [e,List.length_append,Enc.len h1,Enc.len h2]
    mono:=fun hm ⟨c1,c2,e,h1,h2⟩=>⟨c1,c2,e,Enc.mono hm h1,Enc.mono hm h2⟩
    one:=fun ⟨c1,c2,e,h1,h2⟩ v hv=>by
      subst e
      rcases List.mem_append.1 hv with h | h
      · exact Enc.one h1 v h
      · exact Enc.one h2 v h }
@[reducible] def Enc.via {α β:Type} [Enc β] (n:Nat) (hn:Enc.sz β=n) (f:α→β):Enc α:=
  { sz:=n,rep:=fun h cs x=>Enc.rep h cs (f x),len:=fun h=>by rw [Enc.len h,hn],mono:=fun hm h=>Enc.mono hm h,one:=fun h=>Enc.one h }
inductive Rows {α:Type} [Enc α] (h:PH):List Value→List α→Prop
  | nil:Rows h [] []
  | cons {c vs:List Value} {x:α} {xs:List α} (hc:Enc.rep h c x) (hr:Rows h vs xs):Rows h (c ++ vs) (x :: xs)
section
variable {α:Type} [Enc α] {h h':PH} {vs us c:List Value} {xs ys zs:List α} {x:α}
theorem Rows.len (hr:Rows h vs xs):vs.length=xs.length * Enc.sz α:=by
  induction hr with
  | nil=>simp
  | cons hc _ ih=>rw [List.length_append,ih,Enc.len hc,List.length_cons,Nat.succ_mul,Nat.add_comm]
theorem Rows.mono (hm:∀ b o,h b=some o→h' b=some o) (hr:Rows h vs xs):Rows h' vs xs:=by
  induction hr with
  | nil=>exact .nil
  | cons hc _ ih=>exact .cons (Enc.mono hm hc) ih
theorem Rows.one (hr:Rows h vs xs):∀ v∈vs,v.oneCell'=true:=by
  induction hr with
  | nil=>intro v hv;cases hv
  | cons hc _ ih =>
    intro v hv
    rcases List.mem_append.1 hv with h | h
    · exact Enc.one hc v h
    · exact ih v h
theorem Rows.app (hr:Rows h vs xs) (hs:Rows h us ys):Rows h (vs ++ us) (xs ++ ys):=by
  induction hr with
  | nil=>exact hs
  | cons hc _ ih=>rw [List.append_assoc];exact .cons hc ih
theorem Rows.get (hr:Rows h vs xs):∀ {k:Nat} {x:α},xs[k]? = some x→∃ c,Enc.rep h c x∧∀ (j:Nat) (v:Value),c[j]? = some v→vs[k * Enc.sz α+j]? = some v:=by
  induction hr with
  | nil=>intro k x hx;simp at hx
  | cons hc hr ih =>
    rename_i c vs y xs
    intro k x hx
    cases k with
    | zero =>
      simp only [List.getElem?_cons_zero,Option.some.injEq] at hx
      subst hx
      refine ⟨c,hc,fun j v hj=>?_⟩
      rw [Nat.zero_mul,Nat.zero_add,List.getElem?_append_left (List.getElem?_eq_some_iff.1 hj).1]
      exact hj
    | succ k =>
      rw [List.getElem?_cons_succ] at hx
      obtain ⟨c',h1,h2⟩:=ih hx
      refine ⟨c',h1,fun j v hj=>?_⟩
      rw [List.getElem?_append_right (by rw [Enc.len hc,Nat.succ_mul];omega),Enc.len hc,show (k+1) * Enc.sz α+j - Enc.sz α=k * Enc.sz α+j by rw [Nat.succ_mul];omega]
      exact h2 j v hj
theorem Rows.take (hr:Rows h vs xs):∀ (k:Nat),Rows h (vs.take (k * Enc.sz α)) (xs.take k):=by
  induction hr with
  | nil=>intro k;simp;exact .nil
  | cons hc hr ih =>
    intro k
    cases k with
    | zero=>simp;exact .nil
    | succ k =>
      rw [List.take_succ_cons,List.take_append,Enc.len hc,Nat.succ_mul,List.take_of_length_le (by rw [Enc.len hc];omega),Nat.add_sub_cancel]
      exact .cons hc (ih k)
theorem Rows.drop (hr:Rows h vs xs):∀ (k:Nat),Rows h (vs.drop (k * Enc.sz α)) (xs.drop k):=by
  induction hr with
  | nil=>intro k;simp;exact .nil
  | cons hc hr ih =>
    intro k
    cases k with
    | zero=>simp;exact .cons hc hr
    | succ k =>
      rw [List.drop_succ_cons,List.drop_append,Enc.len hc,Nat.succ_mul,List.drop_of_length_le (by rw [Enc.len hc];omega),Nat.add_sub_cancel,List.nil_append]
      exact ih k
theorem Rows.ne (hr:Rows h vs xs) (hs:0 < Enc.sz α) (hx:xs≠[]):vs≠[]:=by
  intro e
  have:=hr.len
  rw [e] at this
  have h1:0 < xs.length:=List.length_pos_iff.2 hx
  have:0 < xs.length * Enc.sz α:=Nat.mul_pos h1 hs
  simp at *
  omega
theorem Rows.put (hr:Rows h vs xs) (hc:Enc.rep h c x) {k:Nat} (hk:k < xs.length):Rows h (vs.take (k * Enc.sz α) ++ (c ++ vs.drop (k * Enc.sz α+Enc.sz α))) (xs.set k x):=by
  have e:xs.set k x=xs.take k ++ (x :: xs.drop (k+1)):=by rw [List.set_eq_take_append_cons_drop,if_pos hk]
  rw [e,show k * Enc.sz α+Enc.sz α=(k+1) * Enc.sz α by rw [Nat.succ_mul]]
  exact (hr.take k).app (.cons hc (hr.drop (k+1)))
theorem Rows.put1 (h1:Enc.sz α=1) {v:Value} (hr:Rows h vs xs) (hc:Enc.rep h [v] x) {k:Nat} (hk:k < xs.length):Rows h (vs.set (k * 1) v) (xs.set k x):=by
  have:=hr.put hc hk
  rw [h1] at this
  have hl:=hr.len
  rw [h1] at hl
  rw [List.set_eq_take_append_cons_drop,if_pos (by omega)]
  exact this
theorem Rows.rep {v:Value} (hc:Enc.rep h [v] x):∀ n:Nat,Rows h (List.replicate n v) (List.replicate n x)
  | 0=>.nil
  | n+1=>by rw [List.replicate_succ,List.replicate_succ];exact .cons hc (Rows.rep hc n)
end
def SR {α:Type} [Enc α] (h:PH) (oa:Option Addr) (xs:List α):Prop:=∃ vs,Rd h oa vs∧Rows h vs xs
instance {α:Type} [Enc α]:Enc (List α):=
  { sz := 1
    rep:=fun h cs xs=>∃ oa cap,cs=[.slice oa xs.length cap]∧xs.length≤cap∧SR h oa xs
    len:=fun ⟨_,_,e,_⟩=>by rw [e];rfl
    mono:=fun hm ⟨oa,cap,e,h1,vs,h2,h3⟩=>⟨oa,cap,e,h1,vs,h2.mono hm,h3.mono hm⟩
    one:=fun ⟨_,_,e,_⟩=>by subst e;exact Jbk rfl }
instance {α:Type} {n:Nat} [Enc α]:Enc (Arr n α):=
  { sz:=n * Enc.sz α,rep:=fun h cs a=>Rows h cs a.l,len:=fun {_ _ a} hr=>by rw [hr.len,a.h],mono:=fun hm hr=>hr.mono hm,one:=fun hr=>hr.one }
section
variable {α:Type} [Enc α] {h h':PH} {oa:Option Addr} {xs ys:List α} {x:α} {i:Int}
theorem SR.nil (h:PH) (oa:Option Addr):SR h oa ([]:List α):=⟨[],Rd.nil _ _,.nil⟩
theorem SR.mono (hr:SR h oa xs) (hm:∀ b o,h b=some o→h' b=some o):SR h' oa xs:=by
  obtain ⟨vs,h1,h2⟩:=hr;exact ⟨vs,h1.mono hm,h2.mono hm⟩
theorem SR.get (hr:SR h oa xs) (hg:getI xs i=some x):∃ c,Enc.rep h c x∧∀ (j:Nat) (v:Value),c[j]? = some v→h.cell? ⟨(adr oa).block,(adr oa).off+i.toNat * Enc.sz α+j,none⟩=some v:=by
  obtain ⟨vs,h1,h2⟩:=hr
  obtain ⟨c,h3,h4⟩:=h2.get (Fh hg).2
  refine ⟨c,h3,fun j v hj=>?_⟩
  rw [Nat.add_assoc]
  exact h1.cell _ _ (h4 j v hj)
theorem Rd.oaI {vs:List Value} (hr:Rd h oa vs) (h2:Rows h' vs xs) (hs:0 < Enc.sz α) (hg:getI xs i=some x):oa=some ⟨(adr oa).block,(adr oa).off,none⟩:=
  hr.some (h2.ne hs (fun e=>by have:=(Lr hg).2;rw [e] at this;simp at this))
theorem SR.oaI (hr:SR h oa xs) (hs:0 < Enc.sz α) (hg:getI xs i=some x):oa=some ⟨(adr oa).block,(adr oa).off,none⟩:=by
  obtain ⟨vs,h1,h2⟩:=hr;exact Rd.oaI h1 h2 hs hg
theorem Rows.getI {vs:List Value} (hr:Rows h vs xs) (hg:getI xs i=some x):∃ c,Enc.rep h c x∧∀ (j:Nat) (v:Value),c[j]? = some v→vs[i.toNat * Enc.sz α+j]? = some v:=hr.get (Fh hg).2
def Xi (oa:Option Addr) (cap l sz:Nat):Option Addr:=if cap=l then oa else oa.map (·.add (l * sz))
theorem SR.sub {lo hi:Int} {cap sz:Nat} (hr:SR h oa xs) (hc:xs.length≤cap) (hz:Enc.sz α=sz) (hg:Dj xs lo hi=some ys):∃ oa' cap',Xi oa cap lo.toNat sz=oa'∧cap - lo.toNat=cap'∧ys.length≤cap'∧SR h oa' ys:=by
  obtain ⟨h0,h1,h2,rfl⟩:=Ls hg
  refine ⟨_,_,rfl,rfl,by simp;omega,?_⟩
  subst hz
  unfold Xi
  by_cases e:cap=lo.toNat
  · rw [if_pos e]
    have:(xs.take hi.toNat).drop lo.toNat=[]:=List.drop_eq_nil_of_le (by simp;omega)
    rw [this];exact .nil _ _
  · rw [if_neg e]
    obtain ⟨vs,h3,h4⟩:=hr
    refine ⟨_,⟨fun hne=>?_,fun j v hj=>?_⟩,(h4.take hi.toNat).drop lo.toNat⟩
    · have hne' : vs ≠ [] := fun e => hne (by rw [e]; simp)
      rw [h3.some hne']
      simp only [Option.map_some,Fy,adr,Option.getD_some]
    · have hj2:vs[lo.toNat * Enc.sz α+j]? = some v:=by
        rw [List.getElem?_drop,List.getElem?_take] at hj
        split at hj
        · exact hj
        · cases hj
      have hne':vs≠[]:=fun e=>by rw [e] at hj2;simp at hj2
      have h5:=h3.cell _ _ hj2
      rw [h3.some hne']
      simp only [Option.map_some,Fy,adr,Option.getD_some]
      rw [Nat.add_assoc]
      exact h5
end
structure Ext (w0:World) (H H':PH):Prop where
  sub:∀ b o,H b=some o→H' b=some o
  new:∀ b,H' b≠none→H b≠none∨w0.heap.size≤b
theorem Ext.refl (w0:World) (H:PH):Ext w0 H H:=⟨fun _ _ h=>h,fun _ h=>.inl h⟩
theorem Ext.trans {w0:World} {H H' H'':PH} (h:Ext w0 H H') (k:Ext w0 H' H''):Ext w0 H H'':=⟨fun b o hb=>k.sub b o (h.sub b o hb),fun b hb=>by
  rcases k.new b hb with h1 | h1
  · exact h.new b h1
  · exact .inr h1⟩
theorem Ext.lift {w0 w:World} {H H':PH} (h:Ext w H H') (hw:w0.heap.size≤w.heap.size):Ext w0 H H':=⟨h.sub,fun b hb=>(h.new b hb).imp id (fun h=>Nat.le_trans hw h)⟩
section
variable {w0 w w':World} {M:Nat→Prop} {H H':PH} {L L':List HA}
theorem Lds.le (hl:Lds [H] L w):H.le w:=hl.hs _ (.head _)
theorem St.le (hS:St w0 M [H] L w):H.le w:=hS.hs _ (.head _)
theorem St.up (hS:St w0 M [H] L w):∀ b o,H b=some o→hp w b=some o:=fun b o h=>St.le hS b o h
theorem St.extc (hS:St w0 M [H] L w) (h:Ext w H H'):Ext w0 H H':=h.lift hS.keep.size
theorem St.passH (hS:St w0 M [H] L w) (hk:Keep Nil w w') (he:Ext w H H') (hl:H'.le w'):St w0 M [H'] L w':=by
  have h1:=hS.pass hk
  refine ⟨h1.keep,fun h hh=>by simp only [List.mem_cons,List.not_mem_nil,or_false] at hh;subst hh;exact hl,h1.ok,fun A hA b hb=>⟨(h1.own A hA b hb).1,fun h hh=>?_⟩,h1.disj⟩
  simp only [List.mem_cons,List.not_mem_nil,or_false] at hh;subst hh
  cases hx:h b with
  | none=>rfl
  | some o =>
    rcases he.new b (by rw [hx];simp) with h2 | h2
    · exact absurd ((hS.own A hA b hb).2 H (.head _)) h2
    · have:=hS.fpLt hA hb;omega
theorem St.frz (hS:St w0 Nil [H] L w) {A:HA} (hp':Pick A L L'):∃ H':PH,A.ok H'∧Ext w0 H H'∧St w0 Nil [H'] L' w:=by
  classical
  have hA:=hp'.mem
  have hnone:∀ b,A.fp b→H b=none:=fun b hb=>(hS.own A hA b hb).2 H (.head _)
  refine ⟨fun b=>if A.fp b then w.heap[b]? else H b,?_,⟨fun b o hb=>?_,fun b hb=>?_⟩,?_⟩
  · exact A.loc _ _ (fun b hb=>by simp [hb,hp]) (hS.ok A hA)
  · have : ¬ A.fp b := fun h => by rw [hnone b h] at hb; cases hb
    simp [this,hb]
  · by_cases h : A.fp b
    · exact .inr (((hS.own A hA b h).1).resolve_right id)
    · simp [h] at hb;exact .inl hb
  · have h1 := hS.drop hp'
    refine ⟨h1.keep,fun h hh=>?_,h1.ok,fun B hB b hb=>⟨(h1.own B hB b hb).1,fun h hh=>?_⟩,h1.disj⟩
    · simp only [List.mem_cons, List.not_mem_nil, or_false] at hh; subst hh
      intro b o hb
      by_cases h:A.fp b
      · simpa [h] using hb
      · simp [h] at hb;exact St.le hS b o hb
    · simp only [List.mem_cons, List.not_mem_nil, or_false] at hh; subst hh
      have:=(hp'.pairwise hS.disj).2 B hB
      simp [show ¬ A.fp b from fun hA=>this b hA hb]
      exact (h1.own B hB b hb).2 H (.head _)
theorem SlOk.capLe {e:TypeId} {sz:Nat} {oa:Option Addr} {n cap:Nat} {xs:List Value} {h:PH} (ho:SlOk e sz (.slice oa n cap) n xs h):n≤cap:=by
  obtain ⟨_,hn | ⟨g,cap',cur,hv,_,hnc,_⟩⟩:=ho
  · obtain ⟨hv,h0⟩:=hn;omega
  · simp only [Value.slice.injEq] at hv;obtain ⟨_,_,rfl⟩:=hv;exact hnc
theorem St.frzS {α:Type} [Enc α] (hS:St w0 Nil [H] L w) {e:TypeId} {sz n cap:Nat} {oa:Option Addr} {vs:List Value} {xs:List α} (hp':Pick (sla e sz oa n cap vs) L L') (hv:Rows H vs xs) :
    ∃ H':PH,Ext w0 H H'∧SR H' oa xs∧n≤cap∧St w0 Nil [H'] L' w:=by
  obtain ⟨H',h1,h2,h3⟩:=St.frz hS hp'
  exact ⟨H',h2,⟨vs,SlOk.rd h1,hv.mono h2.sub⟩,SlOk.capLe h1,h3⟩
theorem St.capO (hS:St w0 M [H] L w) {e:TypeId} {sz n cap:Nat} {oa:Option Addr} {vs:List Value} (hm:sla e sz oa n cap vs∈L):n≤cap:=SlOk.capLe (show SlOk e sz (.slice oa n cap) n vs _ from hS.ok _ hm)
theorem St.srO {α:Type} [Enc α] (hS:St w0 M [H] L w) {e:TypeId} {sz n cap:Nat} {oa:Option Addr} {vs:List Value} {xs:List α} (hm:sla e sz oa n cap vs∈L) (hv:Rows H vs xs):SR (hp w) oa xs:=⟨vs,hS.rdO hm,hv.mono (St.up hS)⟩
theorem St.srH {α:Type} [Enc α] (hS:St w0 M [H] L w) {oa:Option Addr} {xs:List α} (hr:SR H oa xs):SR (hp w) oa xs:=hr.mono (St.up hS)
theorem St.blkO (hS:St w0 M [H] L w) {b:Nat} {o:Obj} (hm:blk b o∈L):hp w b=some o:=hS.ok _ hm
end
section
variable {P:Program} {N:FN} {F:List (Nat×Value)} {a:Act} {w:World} {d:Option Tmp} {ty:TypeId} {pos:String} {af:Array Edge} {g:Option (Nat×Bool)}
theorem As {o:Oper} {v v':Value} (h:(execOp a.eval o).run P w=.ok (.value v) w) (e:v=v'):(execOp a.eval o).run P w=.ok (.value v') w:=e ▸ h
theorem Co {α:Type} {x y:Operand} {t e:TypeId} {k:IntKind} {j:Int} {sz c:Nat} {oa:Option Addr} {xs:List α} {z:α}
    (hF:Fr N F a) (hu:∀ w,(underlying t).run P w=.ok (.slice e) w) (hz:∀ w,(sizeOf e).run P w=.ok sz w)
    (hx:opv F x=some (.slice oa xs.length c)) (hy:opv F y=some (.int k j)) (hg:getI xs j=some z) (hoa:oa=some ⟨(adr oa).block,(adr oa).off,none⟩) :
    (execOp a.eval ⟨d,.indexAddr t x y,ty,pos,af,g⟩).run P w=.ok (.value (.pointer (some ⟨(adr oa).block,(adr oa).off+j.toNat * sz,none⟩))) w:=
  Es hF hu hz hx hy (by have:=(Lr hg).1;omega) (Lr hg).2 hoa
theorem Aj {α:Type} (hF:Fr N F a) {x:Operand} {t e:TypeId} {oa:Option Addr} {xs:List α} {c:Nat} (hu:∀ w,(underlying t).run P w=.ok (.slice e) w) (hx:opv F x=some (.slice oa xs.length c)) :
    (execOp a.eval ⟨d,.call ⟨.builtin .len,#[x],#[t]⟩,ty,pos,af,g⟩).run P w=.ok (.value (.int .i64 (xs.length:Int))) w:=Cn hF hu hx
theorem Ft (hF:Fr N F a) {x:Operand} {t:TypeId} {s:Str} (hu:∀ w,(underlying t).run P w=.ok .string w) (hx:opv F x=some (Ae s)) :
    (execOp a.eval ⟨d,.call ⟨.builtin .len,#[x],#[t]⟩,ty,pos,af,g⟩).run P w=.ok (.value (.int .i64 (s.length:Int))) w:=JeK hF hu hx
theorem I9 (s:Str):(⟨s.toArray⟩:ByteArray).toList=s:=by rw [ByteArray.toList_eq]
theorem Qp (hF:Fr N F a) {x y:Operand} {t u:TypeId} {m n:Str} (hx:opv F x=some (Ae m)) (hy:opv F y=some (Ae n)) :
    (execOp a.eval ⟨d,.binOp .eql t x y u,ty,pos,af,g⟩).run P w=.ok (.value (.bool (decide (m=n)))) w:=by
  rw [Jfd hF hx hy,I9,I9]
  congr 2
  by_cases e:m=n <;> simp [e]
theorem H4 (hF:Fr N F a) {x y:Operand} {t u:TypeId} {m n:Str} (hx:opv F x=some (Ae m)) (hy:opv F y=some (Ae n)) :
    (execOp a.eval ⟨d,.binOp .neq t x y u,ty,pos,af,g⟩).run P w=.ok (.value (.bool (decide (m≠n)))) w:=by
  rw [JfF hF hx hy,I9,I9]
  congr 2
  by_cases e:m=n <;> simp [e]
theorem Ve (hF:Fr N F a) {x y:Operand} {t u:TypeId} {m n r:Str} (hx:opv F x=some (Ae m)) (hy:opv F y=some (Ae n)) (hg:Vm m n=some r) :
    (execOp a.eval ⟨d,.binOp .add t x y u,ty,pos,af,g⟩).run P w=.ok (.value (Ae r)) w:=by
  obtain ⟨h1,rfl⟩:=Jb7 hg
  have hs1:(⟨m.toArray⟩:ByteArray).size=m.length:=rfl
  have hs2:(⟨n.toArray⟩:ByteArray).size=n.length:=rfl
  have hle : ¬ (IntKind.i64.max < ((m.length+n.length:Nat):Int)):=by
    have:IntKind.i64.max=9223372036854775807:=by decide
    omega
  have happ:(⟨m.toArray⟩:ByteArray) ++ ⟨n.toArray⟩=⟨(m ++ n).toArray⟩:=by
    apply ByteArray.ext
    simp
  have hst:(Op.stringOp .add ⟨m.toArray⟩ ⟨n.toArray⟩).run P w=.ok (Ae (m ++ n)) w:=by
    unfold Op.stringOp
    simp only [hs1,hs2]
    rw [if_neg hle,happ]
    rfl
  simp [execOp,hF.ev hx,hF.ev hy,eqGuard,binOp,Ae,hst]
theorem Jfa (hF:Fr N F a) {x y:Operand} {t u:TypeId} {k:IntKind} {m n r:Int} (hx:opv F x=some (.int k m)) (hy:opv F y=some (.int k n)) (hg:Jd9 k m n=some r) :
    (execOp a.eval ⟨d,.binOp .quo t x y u,ty,pos,af,g⟩).run P w=.ok (.value (.int k r)) w:=by
  unfold Jd9 at hg
  split at hg
  · cases hg
  · rename_i hn;cases hg;exact Jg6 hF hx hy hn
theorem Je3 (hF:Fr N F a) {fn:Fn} {l:List Operand} {vs:List Value} (hargs:N8 F l vs) :
    (execOp a.eval ⟨d,.makeFunc fn #[] l.toArray,ty,pos,af,g⟩).run P w=.ok (.value (.func fn #[] vs.toArray)) w:=by
  simp [execOp,Instr.makeFunc,Jg hF hargs]
theorem N9 (hF:Fr N F a) {x y:Operand} {t:TypeId} {k:IntKind} {s:Str} {i r:Int} (hu:∀ w,(underlying t).run P w=.ok .string w) (hx:opv F x=some (Ae s)) (hy:opv F y=some (.int k i)) (hg:Pn s i=some r) :
    (execOp a.eval ⟨d,.index t x y,ty,pos,af,g⟩).run P w=.ok (.value (.int .u8 r)) w:=by
  obtain ⟨b,h1,rfl⟩:=Jaa hg
  have h2:=Fh h1
  have hlt:i.toNat < s.length:=(Lr h1).2
  have h3:(⟨s.toArray⟩:ByteArray)[i.toNat]? = some b:=by
    have:i.toNat < (⟨s.toArray⟩:ByteArray).size:=hlt
    rw [getElem?_pos (⟨s.toArray⟩:ByteArray) i.toNat this]
    congr 1
    have h4:=(List.getElem?_eq_some_iff.1 h2.2).2
    show s.toArray[i.toNat]'hlt=b
    simpa using h4
  have h4:(Instr.index t (Ae s) (.int k i)).run P w=.ok (.int .u8 b.toNat) w:=by
    simp only [Instr.index,asIntOf,Ae,Sem.run_bind,Sem.run_pure,Result.andThen_ok,hu,if_pos h2.1,h3]
  simp [execOp,hF.ev hx,hF.ev hy,h4]
theorem Dc {α:Type} (hF:Fr N F a) {x:Operand} {lo hi:Option Operand} {t e:TypeId} {sz c cap':Nat} {oa oa':Option Addr} {vl vh:Int} {xs ys:List α}
    (hu:∀ w,(underlying t).run P w=.ok (.slice e) w) (hz:∀ w,(sizeOf e).run P w=.ok sz w)
    (hx:opv F x=some (.slice oa xs.length c)) (hc:xs.length≤c)
    (hlo:match lo with | some o=>opv F o=some (.int .i64 vl) | none=>vl=0)
    (hhi:match hi with | some o=>opv F o=some (.int .i64 vh) | none=>vh=(xs.length:Int))
    (hg:Dj xs vl vh=some ys) (ho:Xi oa c vl.toNat sz=oa') (hc':c - vl.toNat=cap') :
    (execOp a.eval ⟨d,.slice t x lo hi none,ty,pos,af,g⟩).run P w=.ok (.value (.slice oa' ys.length cap')) w:=by
  obtain ⟨h0,h1,h2,rfl⟩:=Ls hg
  have:=Jhr (P:=P) (w:=w) (d:=d) (ty:=ty) (pos:=pos) (af:=af) (g:=g) hF (lo:=lo) (hi:=hi) (l:=vl.toNat) (h:=vh.toNat) (vl:=vl) (vh:=vh) hu hz hx
    (by cases lo with | none=>subst hlo;rfl | some o=>exact ⟨hlo,by omega⟩) (by cases hi with | none=>subst hhi;simp | some o=>exact ⟨hhi,by omega⟩) (by omega) (by omega)
  rw [this,← ho,← hc']
  have e1:((xs.take vh.toNat).drop vl.toNat).length=vh.toNat - vl.toNat:=by simp;omega
  rw [e1];rfl
theorem Od (hF:Fr N F a) {x:Operand} {lo hi:Option Operand} {t:TypeId} {vl vh:Int} {s r:Str}
    (hu:∀ w,(underlying t).run P w=.ok .string w) (hx:opv F x=some (Ae s))
    (hlo:match lo with | some o=>opv F o=some (.int .i64 vl) | none=>vl=0)
    (hhi:match hi with | some o=>opv F o=some (.int .i64 vh) | none=>vh=(s.length:Int))
    (hg:Dj s vl vh=some r) :
    (execOp a.eval ⟨d,.slice t x lo hi none,ty,pos,af,g⟩).run P w=.ok (.value (Ae r)) w:=by
  obtain ⟨h0,h1,h2,rfl⟩:=Ls hg
  have hs:(⟨s.toArray⟩:ByteArray).size=s.length:=rfl
  have hex:(⟨s.toArray⟩:ByteArray).extract vl.toNat vh.toNat=⟨((s.take vh.toNat).drop vl.toNat).toArray⟩:=by
    apply ByteArray.ext
    rw [ByteArray.data_extract]
    apply Array.ext'
    simp [List.drop_take]
  have hsl:(Instr.sliceAt t (Ae s) (lo.map a.eval) (hi.map a.eval) none).run P w=.ok (Ae ((s.take vh.toNat).drop vl.toNat)) w:=by
    cases lo with
    | none =>
      subst hlo
      cases hi with
      | none=>subst hhi;simp only [Int.toNat_zero,Int.toNat_natCast] at hex;simp [Instr.sliceAt,hu,Instr.slice,Instr.sliceBounds,Ae,hs,hex]
      | some o=>simp only [Int.toNat_zero] at hex;simp [Instr.sliceAt,hu,Instr.slice,Instr.sliceBounds,Ae,hF.ev hhi,Instr.sliceBound,asIntOf,hs,h2,show (0:Int)≤vh by omega,hex]
    | some o' =>
      cases hi with
      | none=>subst hhi;simp only [Int.toNat_natCast] at hex;simp [Instr.sliceAt,hu,Instr.slice,Instr.sliceBounds,Ae,hF.ev hlo,Instr.sliceBound,asIntOf,hs,h0,h1,hex]
      | some o=>simp [Instr.sliceAt,hu,Instr.slice,Instr.sliceBounds,Ae,hF.ev hlo,hF.ev hhi,Instr.sliceBound,asIntOf,hs,h0,h2,show (0:Int)≤vh by omega,show vl≤((vh.toNat:Nat):Int) by omega,show ¬ (max vh 0 < vl) by omega,hex]
  simp only [Option.map] at hsl
  simp [execOp,hF.ev hx,hsl,Option.map]
end
section
variable {P:Program} {ops:Array Oper} {Q:Exit→Act→World→Prop} {a:Act} {w:World} {N:FN} {F:List (Nat×Value)}
  {w0:World} {M:Nat→Prop} {H:PH} {L L':List HA} {K:Act→World→Prop}
  {d:Nat} {ty:TypeId} {pos:String} {af:Array Edge}
theorem Ay {α:Type} [Enc α] {t e:TypeId} {z:Value} {sz bytes:Nat} {x y:Operand} {oa ob:Option Addr} {cap c:Nat} {xs ys zs:List α} {vs us:List Value}
    (hF:Fr N F a) (hN:Nat.blt d N.n=true) (hS:St w0 M [H] L w)
    (ht:P.underlying t=some (.slice e)) (hinfo:(P.info? e).map (fun i=>(i.zero,i.size,i.bytes))=some (some z,sz,bytes)) (hzs:z.cells.size=sz) (hsz:0 < sz) (hz:Enc.sz α=sz)
    (hx:opv F x=some (.slice oa xs.length cap)) (hy:opv F y=some (.slice ob ys.length c)) (hmem:sla e sz oa xs.length cap vs∈L) (hv:Rows H vs xs)
    (hrd:Rd (hp w) ob us) (hu:Rows H us ys) (hg:Cj bytes xs ys=some zs)
    (k:∀ oa' cap' vs' w a,Rows H vs' zs→(∀ L',Repl (sla e sz oa xs.length cap vs) (sla e sz oa' zs.length cap' vs') L L'→St w0 M [H] L' w)→Fr N ((d,.slice oa' zs.length cap') :: F) a→K a w) :
    stp P ops Q ⟨some d,.call ⟨.builtin .append,#[x,y],#[t,t]⟩,ty,pos,af,none⟩ a w K:=by
  obtain ⟨h1,h2,rfl⟩:=Jbu hg
  refine apI hF hN hS ht hinfo hzs hsz hx hy hmem (by rw [hu.len,hz]) hrd hu.one h1 (by unfold maxLen;omega) fun oa' cap' w a hU hF=>?_
  rw [← List.length_append] at hU hF
  exact k oa' cap' (vs ++ us) w a (hv.app hu) hU hF
theorem JbJ {f:FuncId} {caps:Array Value} {x:Operand} {l:List Operand} {vs:List Value} {at_:Array TypeId} {d:Option Tmp} {g:Option (Nat×Bool)}
    (hx:a.eval x=.func (.func f) #[] caps) (hargs:l.map a.eval=vs) (hen:(callFunc f (vs.toArray ++ caps)).run P w=.ok (.enter f (vs.toArray ++ caps)) w) :
    (execOp a.eval ⟨d,.call ⟨.value x,l.toArray,at_⟩,ty,pos,af,g⟩).run P w=.ok (.enter f (vs.toArray ++ caps)) w:=by
  have e:(Array.map a.eval l.toArray)=vs.toArray:=by rw [List.map_toArray,hargs]
  simp [execOp,resolve,invoke,Deferred.ofValue,hx,hargs,hen]
theorem k1 {f:FuncId} {caps:List Value} {x:Operand} {l:List Operand} {vs us:List Value} {at_:Array TypeId} {R:Value→World→Prop}
    (hF:Fr N F a) (hN:Nat.blt d N.n=true) (hx:opv F x=some (.func (.func f) #[] caps.toArray)) (hen:∀ (x:Array Value) (w:World),(callFunc f x).run P w=.ok (.enter f x) w) (hc:Tot P f us.toArray w R) (hargs:N8 F l vs) (hus:vs ++ caps=us)
    (k:∀ v w' a,R v w'→Fr N ((d,v) :: F) a→K a w'):stp P ops Q ⟨some d,.call ⟨.value x,l.toArray,at_⟩,ty,pos,af,none⟩ a w K:=by
  refine Gj rfl ?_
  unfold Oper.wp
  have e1:vs.toArray ++ caps.toArray=us.toArray:=by rw [← hus];simp
  rw [JbJ (hF.ev hx) (Jg hF hargs) (hen _ _),e1]
  refine Calls.mono hc ?_
  rintro e w' ⟨v,rfl,hR⟩
  exact k v w' _ hR (hF.put (by simpa [Nat.blt_eq] using hN) v)
end
class EncF (α:Type) extends Enc α where
  ind:∀ {h h':PH} {cs:List Value} {x:α},rep h cs x→rep h' cs x
instance:EncF Int:={ ind:=fun h=>h }
instance:EncF Bool:={ ind:=fun h=>h }
instance:EncF (List UInt8):={ ind:=fun h=>h }
instance {k:IntKind}:EncF (IntK k):={ ind:=fun h=>h }
instance {α β:Type} [EncF α] [EncF β]:EncF (α×β):={ ind:=fun ⟨c1,c2,e,h1,h2⟩=>⟨c1,c2,e,EncF.ind h1,EncF.ind h2⟩ }
theorem Rows.ind {α:Type} [EncF α] {h h':PH} {vs:List Value} {xs:List α} (hr:Rows h vs xs):Rows h' vs xs:=by
  induction hr with
  | nil=>exact .nil
  | cons hc _ ih=>exact .cons (EncF.ind hc) ih
section
variable {P:Program} {ops:Array Oper} {Q:Exit→Act→World→Prop} {a:Act} {w:World} {N:FN} {F:List (Nat×Value)}
  {w0:World} {M:Nat→Prop} {H H0:PH} {L L':List HA} {K:Act→World→Prop}
  {ty:TypeId} {pos:String} {af:Array Edge}
theorem ctv {ro:Option Nat} {c:Operand} {x y:Code} {b:Bool} (hF:Fr N F a) (hc:opv F c=some (.bool b)) (hb:b=true) (h:wq ro P x Q a w):wq ro P (Code.cond c x y) Q a w:=ct hF (by rw [hc,hb]) h
theorem cfv {ro:Option Nat} {c:Operand} {x y:Code} {b:Bool} (hF:Fr N F a) (hc:opv F c=some (.bool b)) (hb:b=false) (h:wq ro P y Q a w):wq ro P (Code.cond c x y) Q a w:=cf hF (by rw [hc,hb]) h
theorem Av {ro:Option Nat} {x:Code} {K:Act→World→Prop} (R:Act→World→Prop) (h1:wq ro P x (Exit.then R Q) a w) (h2:∀ a w,R a w→K a w):wq ro P x (Exit.then K Q) a w:=
  wpIn_mono h1 fun e a w h=>by cases e <;> first | exact h2 _ _ h | exact h
theorem St.ldsX (hS:St w0 M [H] L w) (hs:∀ b o,H0 b=some o→H b=some o) (hL:∀ A∈L',A∈L):Lds [H0] L' w:=
  ⟨fun x hx=>by simp only [List.mem_cons,List.not_mem_nil,or_false] at hx;subst hx;exact fun b o h=>St.le hS b o (hs b o h),fun A hA=>hS.ok A (hL A hA)⟩
theorem JfA {b:Nat} {vs:List Value} {e:TypeId} {f:Nat×Nat} (hl:H.le w) (hb:H b=some (.cells vs.toArray e f)) :
    ∀ (j:Nat) (v:Value),vs[j]? = some v→w.cell? ⟨b,0+j,none⟩=some v:=fun j v hv=>by
  rw [Nat.zero_add];exact PH.le.cell hl (Ii hb (by simpa [Kg] using hv))
theorem Jfl {d:Option Tmp} {g:Option (Nat×Bool)} {t:TypeId} {parts:List (Nat×Operand)} (vs:List Value) (cs:List Value) (hF:Fr N F a) (hargs:N8 F (parts.map (·.2)) vs)
    (hr:∀ w,(Instr.build t ((parts.map (·.1)).zip vs).toArray).run P w=.ok (.agg cs.toArray) w) :
    (execOp a.eval ⟨d,.build t parts.toArray,ty,pos,af,g⟩).run P w=.ok (.value (.agg cs.toArray)) w:=Mj hF hargs (hr w)
theorem start1 (hH:H.le w):St w Nil [H] [] w:=.start (fun x hx=>by simp only [List.mem_cons,List.not_mem_nil,or_false] at hx;subst hx;exact hH)
theorem JaO {d:Option Tmp} {g:Option (Nat×Bool)} {x y:Operand} {t e:TypeId} {k:IntKind} {n sz:Nat} {i:Int} {vs cs:List Value} {α:Type} {l:List α} {z:α} (hF:Fr N F a)
    (hu:∀ w,(underlying t).run P w=.ok (.array n e) w) (hz:∀ w,(sizeOf e).run P w=.ok sz w) (hg:∀ w,(isAgg e).run P w=.ok true w)
    (hx:opv F x=some (.agg vs.toArray)) (hy:opv F y=some (.int k i)) (hl:l.length=n) (hi:getI l i=some z) (hc:cs.length=sz) (hv:∀ (j:Nat) (v:Value),cs[j]? = some v→vs[i.toNat * sz+j]? = some v) :
    (execOp a.eval ⟨d,.index t x y,ty,pos,af,g⟩).run P w=.ok (.value (.agg cs.toArray)) w:=by
  obtain ⟨h1,h2⟩:=Lr hi
  have h3:0≤i∧i < (n:Int):=⟨h1,by omega⟩
  have hex:vs.toArray.extract (i.toNat * sz) (i.toNat * sz+sz)=cs.toArray:=by
    apply Array.ext'
    rw [List.extract_toArray,List.toList_toArray,List.extract_eq_take_drop]
    apply List.ext_getElem?
    intro j
    by_cases hj:j < sz
    · rw [show i.toNat * sz + sz - i.toNat * sz = sz by omega, List.getElem?_take, if_pos hj, List.getElem?_drop]
      rw [hv j cs[j] (by simp [hc,hj])]
      simp [hc,hj]
    · rw [List.getElem?_eq_none (by simp;omega),List.getElem?_eq_none (by simp;omega)]
  have h4:(Instr.index t (.agg vs.toArray) (.int k i)).run P w=.ok (.agg cs.toArray) w:=by
    simp only [Instr.index,asIntOf,Sem.run_bind,Sem.run_pure,Result.andThen_ok,hu,if_pos h3,hz,part,hg,if_true,hex]
  simp [execOp,hF.ev hx,hF.ev hy,h4]
theorem P9 {α:Type} [Enc α] {t e:TypeId} {x y:Operand} {i:Int} {cap:Nat} {oa:Option Addr} {v:Value} {vs:List Value} {xs xs':List α} {nx:α} (hF:Fr N F a) (hS:St w0 M [H] L w) (hz:∀ w,(sizeOf t).run P w=.ok 1 w) (h1:Enc.sz α=1)
    (hx:opv F x=some (.pointer (some ⟨(adr oa).block,(adr oa).off+i.toNat * 1,none⟩))) (hy:opv F y=some v) (hv:v.cells=#[v])
    (hr:Rows H vs xs) (hrep:Enc.rep H [v] nx) (hg:Kc xs i nx=some xs') (hm:sla e 1 oa xs.length cap vs∈L)
    (k:∀ vs' w,Rows H vs' xs'→(∀ L',Repl (sla e 1 oa xs.length cap vs) (sla e 1 oa xs'.length cap vs') L L'→St w0 M [H] L' w)→K a w):stp P ops Q ⟨none,.store t x y,ty,pos,af,none⟩ a w K:=by
  obtain ⟨h2,h3,rfl⟩:=Tz hg
  have hl:=hr.len
  rw [h1] at hl
  have hll:(xs.set i.toNat nx).length=xs.length:=List.length_set
  rw [hll] at k
  have hi:i.toNat * 1 < vs.length:=by omega
  have key:∀ {L:List HA},sla e 1 oa xs.length cap vs∈L→∃ L',Repl (sla e 1 oa xs.length cap vs) (sla e 1 oa xs.length cap (vs.set (i.toNat * 1) v)) L L':=by
    intro L hm
    induction L with
    | nil=>cases hm
    | cons A L ih =>
      rcases List.mem_cons.1 hm with rfl | hm
      · exact ⟨_,.head⟩
      · obtain ⟨L',h⟩:=ih hm;exact ⟨_,.tail h⟩
  obtain ⟨L1,hr1⟩:=key hm
  obtain ⟨hc,hf,_⟩:=JcD hS hr1 hi
  refine m0 (w':=w.setCell ⟨(adr oa).block,(adr oa).off+i.toNat * 1,none⟩ v) ?_ (k _ _ (hr.put1 h1 hrep h3) fun L' hr'=>(JcD hS hr' hi).2.2)
  have hst:=M9 (P:=P) hz hv (Enc.one hrep v (.head _)) hc hf
  simp only [execOp,hF.ev hx,hF.ev hy,Sem.run_bind,hst,Result.andThen_ok,Sem.run_pure]
end
section
variable {P:Program} {a:Act} {w:World} {N:FN} {F:List (Nat×Value)}
theorem r1c {fn:Func} {t b n:Nat} {ty:TypeId} {vs:List Value} {R:Value→World→Prop} {how:Exit} (hh:how=.ret∨how=.normal) (hF:Fr N F a) (hr:fn.results=#[.cell t ty]) (ht:F.lookup t=some (.pointer (some ⟨b,0,none⟩)))
    (hg:∀ w,(isAgg ty).run P w=.ok true w) (hz:∀ w,(sizeOf ty).run P w=.ok n w) (hn:vs.length=n) (hc:∀ (j:Nat) (v:Value),vs[j]? = some v→w.cell? ⟨b,0+j,none⟩=some v) (h:R (.agg vs.toArray) w) (hds:N.ds=[]∧N.df=[]:=by exact ⟨rfl,rfl⟩) :
    bodyPost P fn (fun e w'=>∃ v,e=.returned v∧R v w') how a w:=by
  have h1:=run_loadCells_list (P:=P) w ⟨b,0,none⟩ vs (fun j v hv=>by rw [Fy];exact hc j v hv)
  rw [hn] at h1
  have h2:(results fn a.tmps).run P w=.ok (.agg vs.toArray) w:=by
    have:=hF.slots t _ ht
    simp [results,hr,this,asAddr,loadVar,hg,hz,h1]
  rcases hh with rfl | rfl
  · exact bodyPost_ret h2 (hF.defers.trans (by rw [hds.1,hds.2];rfl)) ⟨_,rfl,h⟩
  · exact bodyPost_end h2 (hF.defers.trans (by rw [hds.1,hds.2];rfl)) ⟨_,rfl,h⟩
end
theorem SR.none {α:Type} [Enc α] {h:PH} {oa:Option Addr} {xs:List α} (hr:SR h oa xs) (hs:0 < Enc.sz α) (ho:oa.isNone=true):xs=[]:=by
  obtain ⟨vs,h1,h2⟩:=hr
  cases xs with
  | nil=>rfl
  | cons x r =>
    have:=h1.some (h2.ne hs (by simp))
    rw [this] at ho;cases ho
theorem Lds.cellsP {Hs:List PH} {L:List HA} {w:World} (hs:Lds Hs L w) {b:Nat} {pre vs post:List Value} {e:TypeId} {f:Nat×Nat} (hA:blk b (.cells (pre ++ (vs ++ post)).toArray e f)∈L) :
    ∀ (j:Nat) (v:Value),vs[j]? = some v→w.cell? ⟨b,pre.length+j,none⟩=some v:=fun j v h=>by
  refine Go.LL.Lds.cellB hs hA ?_
  rw [Kg,List.getElem?_append_right (by omega),Nat.add_sub_cancel_left,List.getElem?_append_left (List.getElem?_eq_some_iff.1 h).1]
  exact h
theorem Rows.u8 {h:PH} {us:List Value} {xs:List (IntK .u8)} (hr:Rows h us xs):us=(xs.map (·.v)).map (Value.int .u8):=by
  induction hr with
  | nil=>rfl
  | cons hc _ ih=>rw [ih,hc];rfl
section
variable {P:Program} {N:FN} {F:List (Nat×Value)} {a:Act} {w:World} {d:Option Tmp} {ty:TypeId} {pos:String} {af:Array Edge} {g:Option (Nat×Bool)}
end
section
variable {κ β:Type} [DecidableEq κ]
structure MRel (ev:β→Value) (l:List (κ×Value×Nat)) (m:List (κ×β)):Prop where
  look:∀ k,Hi k l=(Je2 k m).map ev
  dl:Wo l
  dm:(m.map (·.1)).Nodup
def JcV (l:List (κ×Value×Nat)) (c:Nat):Prop:=(∀ x∈l,x.2.2 < c)∧(l.map (·.2.2)).Nodup
def Jhp (kv:κ→Value) (r:Nat) (l:List (κ×Value×Nat)) (c:Nat):HA:=
  { fp:=(Jee kv r l c).fp,ok:=fun h=>(Jee kv r l c).ok h∧JcV l c,dom:=fun h b ho hb=>(Jee kv r l c).dom h b ho.1 hb,loc:=fun h h' e ho=>⟨(Jee kv r l c).loc h h' e ho.1,ho.2⟩ }
section
variable {P:Program} {ops:Array Oper} {Q:Exit→Act→World→Prop} {a:Act} {w:World} {N:FN} {F:List (Nat×Value)}
  {w0:World} {M:Nat→Prop} {H:PH} {L L':List HA} {K:Act→World→Prop}
  {d:Option Tmp} {g:Option (Nat×Bool)} {ty:TypeId} {pos:String} {af:Array Edge} {kt et t:TypeId} {kv:κ→Value} {ev:β→Value}
end
end
section
variable {P:Program} {ops:Array Oper} {Q:Exit→Act→World→Prop} {a:Act} {w:World} {N:FN} {w0:World} {M:Nat→Prop} {Hs:List PH} {L:List HA}
theorem grp {Fk:List (Nat×Value)} {b:Bool} {l:List Oper} (n:Nat) (_:St w0 M Hs L w)
    (h1:b=true→(∀ a w,Fr N Fk a→St w0 M Hs L w→wpL P ops Q (l.drop n) a w)→wpL P ops Q l a w)
    (h2:b=false→(∀ a w,Fr N Fk a→St w0 M Hs L w→wpL P ops Q (l.drop n) a w)→wpL P ops Q l a w)
    (key:∀ a w,Fr N Fk a→St w0 M Hs L w→wpL P ops Q (l.drop n) a w):wpL P ops Q l a w:=by
  cases b with
  | true=>exact h1 rfl key
  | false=>exact h2 rfl key
theorem JbH {S:World→Prop} {z k:Nat} {Fk:List (Nat×Value)} {b:Bool} {l:List Oper} (n:Nat) (_:St w0 M Hs L w)
    (h1:b=true→(∀ a w,Fr N Fk a→St w0 M Hs L w→wpX P ops Q S z (l.drop n) (k+n) a w)→wpX P ops Q S z l k a w)
    (h2:b=false→(∀ a w,Fr N Fk a→St w0 M Hs L w→wpX P ops Q S z (l.drop n) (k+n) a w)→wpX P ops Q S z l k a w)
    (key:∀ a w,Fr N Fk a→St w0 M Hs L w→wpX P ops Q S z (l.drop n) (k+n) a w):wpX P ops Q S z l k a w:=by
  cases b with
  | true=>exact h1 rfl key
  | false=>exact h2 rfl key
end
section
variable {P:Program} {ops:Array Oper} {Q:Exit→Act→World→Prop} {a:Act} {w:World} {N:FN} {F:List (Nat×Value)}
  {w0:World} {M:Nat→Prop} {H:PH} {L L':List HA} {K:Act→World→Prop} {ty:TypeId} {pos:String} {af:Array Edge}
end
section
variable {P:Program} {ops:Array Oper} {Q:Exit→Act→World→Prop} {a:Act} {w:World} {N:FN} {F:List (Nat×Value)}
def wpY (P:Program) (ops:Array Oper) (S:World→Prop) (Q:Exit→Act→World→Prop) (m:Nat) (K:Act→World→Prop):List Oper→Nat→Act→World→Prop
  | [],_,a,w=>K a w
  | o :: rest, k, a, w =>
    if k=m then K a w
    else S w∧∃ v,YieldsIf P ops S o v a∧(∀ c a' w',Q (.panic c) (a'.put o.dst v) w'→Q (.panic c) a' w')∧wpY P ops S Q m K rest (k+1) (a.put o.dst v) w
theorem y1 {S:World→Prop} {K:Act→World→Prop} {m k d:Nat} {op:Op} {ty:TypeId} {pos:String} {af:Array Edge} {rest:List Oper} {v:Value}
    (hS:S w) (hF:Fr N F a) (hN:Nat.blt d N.n=true) (hz:(k == m)=false) (hQ:∀ c a' w',Q (.panic c) (a'.put (some d) v) w'→Q (.panic c) a' w')
    (hE:∀ w,S w→(execOp a.eval ⟨some d,op,ty,pos,af,none⟩).run P w=.ok (.value v) w)
    (kk:∀ a,Fr N ((d,v) :: F) a→wpY P ops S Q m K rest (k+1) a w):wpY P ops S Q m K (⟨some d,op,ty,pos,af,none⟩ :: rest) k a w:=by
  rw [wpY,if_neg (by simpa using hz)]
  exact ⟨hS,v,.inl ⟨rfl,hE⟩,hQ,kk _ (hF.put (by simpa [Nat.blt_eq] using hN) v)⟩
end
abbrev kS:Str→Value:=fun s=>Ae s
end Go.LM
namespace Go.LL
open Go
section
variable {P:Program} {w:World}
end
end Go.LL
namespace Go.LM
open Go Go.LL Go.MD
structure RowQ where
  oa:Option Addr
  n:Nat
  cap:Nat
  vs:List Value
inductive NR {α:Type} [Enc α] (h:PH):List RowQ→List (List α)→Prop
  | nil:NR h [] []
  | cons {q:RowQ} {qs:List RowQ} {x:List α} {e:List (List α)} (hn:q.n=x.length) (hr:Rows h q.vs x) (t:NR h qs e):NR h (q :: qs) (x :: e)
section
variable {α:Type} [Enc α] {h h':PH} {qs:List RowQ} {e:List (List α)}
theorem NR.at (hn:NR h qs e):∀ {i:Nat} {x:List α},e[i]? = some x→∃ oa cap vs,qs[i]? = some ⟨oa,x.length,cap,vs⟩∧Rows h vs x:=by
  induction hn with
  | nil=>intro i x hx;simp at hx
  | @cons q qs x' e' h1 h2 _ ih =>
    intro i x hx
    cases i with
    | zero =>
      simp only [List.getElem?_cons_zero,Option.some.injEq] at hx
      subst hx
      obtain ⟨oa,n,cap,vs⟩:=q
      cases h1
      exact ⟨oa,cap,vs,rfl,h2⟩
    | succ i=>exact ih (i:=i) (by simpa using hx)
end
section
variable {P:Program} {ops:Array Oper} {Q:Exit→Act→World→Prop} {a:Act} {w:World} {N:FN} {F:List (Nat×Value)}
  {w0:World} {M:Nat→Prop} {H:PH} {L L':List HA} {K:Act→World→Prop}
  {d:Nat} {ty:TypeId} {pos:String} {af:Array Edge}
theorem Nh {α:Type}:∀ {l:List α} {i:Nat} {x:α},l[i]? = some x→∃ l1 l2,l=l1 ++ x :: l2∧∀ y,l.set i y=l1 ++ y :: l2
  | [],i,x,h=>by simp at h
  | z :: l, 0, x, h => by
    simp only [List.getElem?_cons_zero,Option.some.injEq] at h
    subst h
    exact ⟨[],l,rfl,fun y=>rfl⟩
  | z :: l, i + 1, x, h => by
    obtain ⟨l1,l2,e1,e2⟩:=Nh (l:=l) (i:=i) (by simpa using h)
    exact ⟨z :: l1,l2,by rw [e1];rfl,fun y=>by rw [List.set_cons_succ,e2];rfl⟩
end
section
variable {P:Program} {ops:Array Oper} {Q:Exit→Act→World→Prop} {S:World→Prop} {z n m:Nat} {listed L:Array Bool} {a0:Act} {w0:World}
theorem Jgx {k:Nat} (R:Act→World→Prop) (h1:(∀ a w,R a w→wpD P ops Q S z m L a w)→wpD P ops Q S z (m+k) listed a0 w0) (h2:∀ a w,R a w→wpD P ops Q S z m L a w):wpD P ops Q S z (m+k) listed a0 w0:=h1 h2
theorem Cm {a:Act} {w:World} (e:listed=L) (h:wpD P ops Q S z m L a w):wpD P ops Q S z m listed a w:=e ▸ h
end
end Go.LM
namespace Go.MD
open Go
theorem w64 {n:Int} (h1 : -9223372036854775808≤n) (h2:n≤9223372036854775807):IntKind.i64.wrap n=n:=IntWalk.i64_in n ⟨h1,h2⟩
theorem Gr {α:Type} (xs:List α) (j:Nat):getI xs (j:Int)=xs[j]?:=by simp [getI]
theorem Al {α:Type} {xs:List α} {i:Int} {j:Nat} (h:i=(j:Int)) (hj:j < xs.length):getI xs i=some xs[j]:=by
  subst h;rw [Gr];simp [hj]
theorem Bf {j n:Nat} (hj:j < n) (hn:n≤4611686018427387904):IntKind.i64.wrap ((j:Int)+1)=((j+1:Nat):Int):=by
  rw [w64 (by omega) (by omega)];omega
theorem Ax {α:Type} {b:Nat} {xs ys:List α} (h:xs.length+ys.length≤1000000) (hb:b≤1000):Cj b xs ys=some (xs ++ ys):=by
  unfold Cj
  have h1:(xs.length+ys.length) * b≤1000000 * 1000:=Nat.mul_le_mul h hb
  rw [if_pos ⟨Nat.le_trans h1 (by decide),by omega⟩]
theorem Pq {a b:Str} (h:a.length+b.length≤9223372036854775807):Vm a b=some (a ++ b):=by unfold Vm;rw [if_pos h]
theorem Ef {α:Type} {xs:List α} {lo hi:Int} (h1:0≤lo) (h2:lo≤hi) (h3:hi≤(xs.length:Int)):Dj xs lo hi=some ((xs.take hi.toNat).drop lo.toNat):=by
  unfold Dj;rw [if_pos ⟨h1,h2,h3⟩]
theorem Yd {n:Int} (h1 : -9223372036854775808≤n) (h2:n≤9223372036854775807):Ww n=some (Lib.itoa n):=by unfold Ww;rw [if_pos ⟨h1,h2⟩]
def InR (n:Int):Prop:=-9223372036854775808≤n∧n≤9223372036854775807
theorem Mh {u:Nat} (h:u≤9223372036854775808):(Lib.decDigits u).length≤20:=by
  rw [Lib.decDigits_length]
  rcases Nat.lt_or_ge 20 (Lib.nDigits u) with h1 | h1
  · exfalso
    have key:∀ (k u:Nat),k < Lib.nDigits u→10 ^ k≤u∨k=0:=by
      intro k
      induction k with
      | zero=>intro u _;exact .inr rfl
      | succ k ih =>
        intro u hu
        by_cases h:u < 10
        · rw [Lib.nDigits_small h] at hu;omega
        · rw [Lib.nDigits_big h] at hu
          rcases ih (u / 10) (by omega) with h2 | h2
          · left;rw [Nat.pow_succ];omega
          · subst h2;left;simp;omega
    rcases key 20 u h1 with h2 | h2
    · have : (10 : Nat) ^ 20 = 100000000000000000000 := by decide
      omega
    · omega
  · exact h1
theorem Sa {n:Int} (h:InR n):(Lib.itoa n).length≤21:=by
  obtain ⟨h1,h2⟩:=h
  unfold Lib.itoa
  split
  · have := Mh (u := n.natAbs) (by omega)
    simp;omega
  · have := Mh (u := n.toNat) (by omega)
    omega
end Go.MD
namespace Go.LM
open Go Go.LL Go.MD
theorem Jg3 {fn:Func} {t u v:Tmp} (h:fn.results=#[.tmp t,.tmp u,.tmp v]) (tmps:Array Value) (P:Program) (w:World) :
    (results fn tmps).run P w=.ok (.tuple #[tmps.getD t undef,tmps.getD u undef,tmps.getD v undef]) w:=by
  simp [results,h]
theorem Jgd {fn:Func} {t u v x:Tmp} (h:fn.results=#[.tmp t,.tmp u,.tmp v,.tmp x]) (tmps:Array Value) (P:Program) (w:World) :
    (results fn tmps).run P w=.ok (.tuple #[tmps.getD t undef,tmps.getD u undef,tmps.getD v undef,tmps.getD x undef]) w:=by
  simp [results,h]
section
variable {P:Program} {a:Act} {w:World}
theorem r3 {fn:Func} {t u s N:Nat} {F:List (Nat×Value)} {v x y:Value} {R:Value→World→Prop} (hF:Fr ⟨N,[],[]⟩ F a) (hr:fn.results=#[.tmp t,.tmp u,.tmp s]) (ht:F.lookup t=some v) (hu:F.lookup u=some x) (hs:F.lookup s=some y) (h:R (.tuple #[v,x,y]) w) :
    bodyPost P fn (fun e w'=>∃ v,e=.returned v∧R v w') .ret a w:=by
  refine bodyPost_ret (Jg3 hr _ _ _) hF.defers ⟨_,rfl,?_⟩
  have h1:=hF.slots t v ht
  have h2:=hF.slots u x hu
  have h3:=hF.slots s y hs
  simpa [h1,h2,h3] using h
theorem r4 {fn:Func} {t u s q N:Nat} {F:List (Nat×Value)} {v x y z:Value} {R:Value→World→Prop} (hF:Fr ⟨N,[],[]⟩ F a) (hr:fn.results=#[.tmp t,.tmp u,.tmp s,.tmp q]) (ht:F.lookup t=some v) (hu:F.lookup u=some x) (hs:F.lookup s=some y) (hq:F.lookup q=some z) (h:R (.tuple #[v,x,y,z]) w) :
    bodyPost P fn (fun e w'=>∃ v,e=.returned v∧R v w') .ret a w:=by
  refine bodyPost_ret (Jgd hr _ _ _) hF.defers ⟨_,rfl,?_⟩
  have h1:=hF.slots t v ht
  have h2:=hF.slots u x hu
  have h3:=hF.slots s y hs
  have h4:=hF.slots q z hq
  simpa [h1,h2,h3,h4] using h
end
section
variable {P:Program} {M:Nat→Prop} {H H':PH} {L L' K:List HA} {w w0 w':World}
theorem Gg (hH:H.le w) (hO:(sepA K).ok (hp w)) (hD:∀ b,(sepA K).fp b→H b=none):St w (sepA K).fp [H] K w:=
  .startL (fun x hx=>by simp only [List.mem_cons,List.not_mem_nil,or_false] at hx;subst hx;exact hH) hO (fun b hb x hx=>by simp only [List.mem_cons,List.not_mem_nil,or_false] at hx;subst hx;exact hD b hb)
theorem St.sep (K:List HA) (hS:St w0 M [H] (K ++ L) w):St w0 M [H] (sepA K :: L) w:=by
  obtain ⟨d1,d2,d3⟩:=List.pairwise_append.1 hS.disj
  refine ⟨hS.keep,hS.hs,fun A hA=>?_,fun A hA b hb=>?_,List.pairwise_cons.2 ⟨fun B hB b ⟨A,hA,hb⟩=>d3 A hA B hB b hb,d2⟩⟩
  · rcases List.mem_cons.1 hA with rfl | hA
    · exact Bz.2 ⟨fun A hA=>hS.ok A (List.mem_append_left _ hA),d1⟩
    · exact hS.ok A (List.mem_append_right _ hA)
  · rcases List.mem_cons.1 hA with rfl | hA
    · obtain ⟨B, hB, hb⟩ := hb
      exact hS.own B (List.mem_append_left _ hB) b hb
    · exact hS.own A (List.mem_append_right _ hA) b hb
theorem St.sepOk (hS:St w0 M [H] (sepA K :: L) w):(sepA K).ok (hp w):=hS.ok _ (.head _)
theorem St.sepDis (hS:St w0 M [H] (sepA K :: L) w):∀ b,(sepA K).fp b→H b=none:=fun b hb=>(hS.own _ (.head _) b hb).2 _ (.head _)
theorem Jf0 (oa:Option Addr) (cap sz:Nat):Xi oa cap (Int.toNat 0) sz=oa:=by
  unfold Xi
  cases oa with
  | none=>simp
  | some a=>simp [Addr.add]
theorem St.shrink {α:Type} [Enc α] (hS:St w0 M [H] L w) {e:TypeId} {sz c:Nat} {oa:Option Addr} {vs:List Value} {xs ys:List α} {hi:Int} (hv:Rows H vs xs) (hz:Enc.sz α=sz) (hm:sla e sz oa xs.length c vs∈L) (hg:Dj xs 0 hi=some ys) :
    ∃ vs',Rows H vs' ys∧∀ L',Repl (sla e sz oa xs.length c vs) (sla e sz oa ys.length c vs') L L'→St w0 M [H] L' w:=by
  obtain ⟨_,h1,h2,rfl⟩:=Ls hg
  have hr:Rows H (vs.take (hi.toNat * sz)) ((xs.take hi.toNat).drop (Int.toNat 0)):=by
    subst hz
    rw [Int.toNat_zero,List.drop_zero]
    exact hv.take _
  refine ⟨_,hr,fun L' hL=>?_⟩
  have hl:((xs.take hi.toNat).drop (Int.toNat 0)).length=hi.toNat:=by simp;omega
  rw [hl] at hL
  have ho:SlOk e sz (.slice oa xs.length c) xs.length vs (hp w):=hS.ok _ hm
  refine hS.upd hL (.refl _ _) ?_ (fun b hb=>.inl ?_)
  · show SlOk e sz (.slice oa hi.toNat c) hi.toNat (vs.take (hi.toNat * sz)) (hp w)
    obtain ⟨q1,q2 | ⟨g,cap,cur,q2,q3,q4,q5,q6,q7⟩⟩:=ho
    · obtain ⟨q2, q3⟩ := q2
      have:hi.toNat=0:=by omega
      rw [this]
      simp only [Value.slice.injEq] at q2
      obtain ⟨rfl,_,rfl⟩:=q2
      exact ⟨by simp,.inl ⟨rfl,rfl⟩⟩
    · simp only [Value.slice.injEq] at q2
      obtain ⟨rfl,_,rfl⟩:=q2
      have hle:hi.toNat * sz≤xs.length * sz:=Nat.mul_le_mul_right _ (by omega)
      refine ⟨by rw [List.length_take,q1];omega,.inr ⟨g,c,cur,rfl,q3,by omega,q5,q6,?_⟩⟩
      rw [← q7,List.take_take,Nat.min_eq_left hle]
  · have hb' : Dk (.slice oa hi.toNat c) = some b := hb
    show Dk (.slice oa xs.length c)=some b
    cases oa <;> exact hb'
end
end Go.LM
namespace Go.LM
open Go Go.LL Go.MD
end Go.LM
namespace Go.LM
open Go Go.LL Go.MD
structure ExtM (w0:World) (M:Nat→Prop) (H H':PH):Prop where
  sub:∀ b o,H b=some o→H' b=some o
  new:∀ b,H' b≠none→H b≠none∨w0.heap.size≤b∨M b
section
variable {P:Program} {M:Nat→Prop} {H H' H'':PH} {L L' K:List HA} {w w0 w':World} {A A':HA}
theorem St.extcMM (hS:St w0 M [H] (A :: L) w) (h:ExtM w A.fp H H'):ExtM w0 M H H':=⟨h.sub,fun b hb=>by
  rcases h.new b hb with h1 | h1 | h1
  · exact .inl h1
  · exact .inr (.inl (Nat.le_trans hS.keep.size h1))
  · exact .inr (hS.own A (.head _) b h1).1⟩
theorem St.frzM (hS:St w0 M [H] L w) {A:HA} (hp':Pick A L L'):∃ H':PH,A.ok H'∧ExtM w0 M H H'∧St w0 M [H'] L' w:=by
  classical
  have hA:=hp'.mem
  have hnone:∀ b,A.fp b→H b=none:=fun b hb=>(hS.own A hA b hb).2 H (.head _)
  refine ⟨fun b=>if A.fp b then w.heap[b]? else H b,?_,⟨fun b o hb=>?_,fun b hb=>?_⟩,?_⟩
  · exact A.loc _ _ (fun b hb=>by simp [hb,hp]) (hS.ok A hA)
  · have : ¬ A.fp b := fun h => by rw [hnone b h] at hb; cases hb
    simp [this,hb]
  · by_cases h : A.fp b
    · exact .inr (hS.own A hA b h).1
    · simp only [h, if_false] at hb
      exact .inl hb
  · have hd := (hp'.pairwise hS.disj)
    have h1:=hS.drop hp'
    refine ⟨h1.keep,fun h hh=>?_,h1.ok,fun B hB b hb=>⟨(h1.own B hB b hb).1,fun h hh=>?_⟩,h1.disj⟩
    · simp only [List.mem_cons, List.not_mem_nil, or_false] at hh; subst hh
      intro b o hb
      by_cases h:A.fp b
      · simpa [h] using hb
      · simp only [h, if_false] at hb
        exact hS.hs H (.head _) b o hb
    · simp only [List.mem_cons, List.not_mem_nil, or_false] at hh; subst hh
      have hn : ¬ A.fp b:=fun h=>hd.2 B hB b h hb
      simp only [hn,if_false]
      exact (h1.own B hB b hb).2 H (.head _)
theorem St.frzSM {α:Type} [Enc α] (hS:St w0 M [H] L w) {e:TypeId} {sz n cap:Nat} {oa:Option Addr} {vs:List Value} {xs:List α} (hp':Pick (sla e sz oa n cap vs) L L') (hv:Rows H vs xs) :
    ∃ H':PH,ExtM w0 M H H'∧SR H' oa xs∧n≤cap∧St w0 M [H'] L' w:=by
  obtain ⟨H',h1,h2,h3⟩:=St.frzM hS hp'
  exact ⟨H',h2,⟨vs,SlOk.rd h1,hv.mono h2.sub⟩,SlOk.capLe h1,h3⟩
theorem St.disL (hS:St w0 M [H] L w):∀ b,(sepA L).fp b→H b=none:=fun b ⟨A,hA,hb⟩=>(hS.own A hA b hb).2 _ (.head _)
theorem St.mutH (hS:St w0 M [H] (A :: L) w) (hm:Mut w A A' w') (he:ExtM w A.fp H H') (hl:H'.le w') (hd:∀ b,A'.fp b→H' b=none):St w0 M [H'] (A' :: L) w':=by
  have h1:=hS.mut hm .head
  have hdj:=(List.pairwise_cons.1 hS.disj).1
  refine ⟨h1.keep,fun h hh=>by simp only [List.mem_cons,List.not_mem_nil,or_false] at hh;subst hh;exact hl,h1.ok,fun B hB b hb=>⟨(h1.own B hB b hb).1,fun h hh=>?_⟩,h1.disj⟩
  simp only [List.mem_cons,List.not_mem_nil,or_false] at hh;subst hh
  rcases List.mem_cons.1 hB with rfl | hB
  · exact hd b hb
  · cases hx : h b with
    | none=>rfl
    | some o =>
      rcases he.new b (by rw [hx];simp) with h2 | h2 | h2
      · exact absurd ((hS.own B (.tail _ hB) b hb).2 H (.head _)) h2
      · have:=hS.fpLt (.tail _ hB) hb;omega
      · exact absurd hb (hdj B hB b h2)
end
end Go.LM
namespace Go.LM
open Go Go.LL Go.MD
end Go.LM
namespace Go.LM
open Go Go.LL Go.MD
theorem Jaq {A B:HA} (h:Apart A B):Apart B A:=fun b hb ha=>h b ha hb
theorem _root_.Go.LL.St.perm {w0 w:World} {M:Nat→Prop} {Hs:List PH} {L L':List HA} (hS:St w0 M Hs L w) (h:L.Perm L'):St w0 M Hs L' w:=
  ⟨hS.keep,hS.hs,fun A hA=>hS.ok A (h.mem_iff.2 hA),fun A hA=>hS.own A (h.mem_iff.2 hA),(h.pairwise_iff (fun h=>Jaq h)).1 hS.disj⟩
theorem JaY {o:Obj} (h:Kq o) (x:Nat):(match some o with | some (.cells _ _ (lo,hi))=>decide (lo≤x) && decide (x < hi) | _=>false)=false:=by
  have:=h x
  cases o <;> first | rfl | exact this
theorem Keep.putObj {w:World} {r:Nat} {o u:Obj} (hr:w.heap[r]? = some o) (ho:Kq o) (hu:Kq u):Keep (fun x=>x=r) w (w.putObj r u):=
  ⟨rfl,rfl,rfl,by simp,fun x _ hx=>World.putObj_heap_other hx,fun a _=>by
    have hlt:=(Array.getElem?_eq_some_iff.1 hr).1
    unfold World.frozen?
    by_cases e:a.block=r
    · rw [e, World.putObj_heap_same hlt, hr]
      exact (JaY hu a.off).trans (JaY ho a.off).symm
    · rw [World.putObj_heap_other e]⟩
theorem _root_.Go.LL.St.putObj {w0 w:World} {M:Nat→Prop} {Hs:List PH} {L L':List HA} {r:Nat} {o u:Obj} (hS:St w0 M Hs L w) (hr:Repl (blk r o) (blk r u) L L') (ho:Kq o) (hu:Kq u):St w0 M Hs L' (w.putObj r u):=by
  have hb:w.heap[r]? = some o:=hS.ok _ hr.memOld
  exact hS.upd hr (Keep.putObj hb ho hu) (World.putObj_heap_same (Array.getElem?_eq_some_iff.1 hb).1) (fun b hb=>.inl hb)
theorem Ek (r:Loop):Kq (.loop r):=fun _=>rfl
theorem Jce (r:Option (List Deferred)):Kq (.deferred r):=fun _=>rfl
def dA (D:Nat):HA:=blk D (.deferred (some []))
abbrev dsA (ds:List Nat):HA:=sepA (ds.map dA)
section
variable {P:Program} {Q:Exit→Act→World→Prop} {a:Act} {w w0:World} {N:FN} {F:List (Nat×Value)} {M:Nat→Prop} {H H':PH} {L L':List HA}
def JfO (P:Program) (fn:Func) (R:Value→World→Prop):Exit→Act→World→Prop
  | .normal,a,w | .ret,a,w=>LeavesInM (FR none) 0 P fn a.tmps (fun e w'=>∃ v,e=.returned v∧R v w') a.defers .returning w
  | _,_,_=>False
instance {fn:Func} {R:Value→World→Prop}:NoOut (JfO P fn R):=⟨fun ⟨_,_,h⟩=>h⟩
end
theorem Jde (ps:List Tmp) (args:List Value) (f:Array Value→Tmp×Value→Array Value) (t:Array Value):(ps.toArray.zip args.toArray).foldl f t=(ps.zip args).foldl f t:=by
  rw [← Array.foldl_toList]
  congr 1
  simp [Array.toList_zip]
structure MutH (w:World) (A:HA) (H:PH) (w':World) (A':HA) (H':PH):Prop where
  mu:Mut w A A' w'
  ext:ExtM w A.fp H H'
  le:H'.le w'
  dis:∀ b,A'.fp b→H' b=none
def YC {τ α:Type} (P:Program) (l:Nat) (C:τ→PH→List HA→Prop) (en:PH→List Value→α→Prop) (y:τ→α→Option (τ×Bool)):Prop:=
  ∀ s x s' b H Lc args w, C s H Lc → H.le w → (sepA Lc).ok (hp w) → (∀ b, (sepA Lc).fp b → H b = none) → en H args x → y s x = some (s', b) →
    YieldAt Fence.wide 0 P l args.toArray w fun e w'=>e=.returned (.bool b)∧∃ H' Lc',C s' H' Lc'∧MutH w (sepA Lc) H w' (sepA Lc') H'
instance:NoOut (fun (_:Exit) (_:Act) (_:World)=>False):=⟨fun ⟨_,_,h⟩=>h⟩
def np (Q:Exit→Act→World→Prop):Exit→Act→World→Prop
  | .panic _,_,_=>False
  | .outgrown,_,_=>False
  | e,a,w=>Q e a w
instance {Q:Exit→Act→World→Prop}:NoOut (np Q):=⟨fun ⟨_,_,h⟩=>h⟩
theorem JeR {P:Program} {ro:Option Nat} {c:Code} {Q:Exit→Act→World→Prop} {a:Act} {w:World} (h:wq ro P c (np Q) a w):wq ro P c Q a w:=
  wpIn_mono h fun e a w h=>by cases e <;> first | exact h | exact h.elim
def jmp:Exit→Option Code
  | .ret=>some .ret
  | .exit id=>some (.exit id)
  | _=>none
section
variable {P:Program} {Q:Exit→Act→World→Prop} {a:Act} {w w0:World} {N:FN} {F:List (Nat×Value)} {M:Nat→Prop} {H H':PH} {L L':List HA}
theorem _root_.Go.LL.St.mutHH {A A':HA} {w':World} (hS:St w0 M [H] (A :: L) w) (m:MutH w A H w' A' H'):St w0 M [H'] (A' :: L) w':=St.mutH hS m.mu m.ext m.le m.dis
theorem Fr.zip {tmps:Array Value}:∀ (ps:List Tmp) (args:List Value) (F:List (Nat×Value)) (t:Array Value),args.length=ps.length→(∀ p∈ps,p < N.n)→Fr ⟨N.n,[],[]⟩ F { tmps:=t,defers:=[] }→
    Fr ⟨N.n,[],[]⟩ ((ps.zip args).reverse ++ F) { tmps:=(ps.zip args).foldl (fun t (p,v)=>t.setIfInBounds p v) t,defers:=[] }
  | [],_,F,t,_,_,h=>by simpa using h
  | p :: ps,[],F,t,hl,_,h=>by simp at hl
  | p :: ps, v :: args, F, t, hl, hp, h => by
    have h1:Fr ⟨N.n,[],[]⟩ ((p,v) :: F) { tmps:=t.setIfInBounds p v,defers:=[] }:=h.put (hp p (.head _)) v
    have h2:=Fr.zip (tmps:=tmps) ps args _ _ (by simpa using hl) (fun q hq=>hp q (.tail _ hq)) h1
    simpa using h2
theorem rf {σ ρ α:Type} {g:Operand} {ps:List Tmp} {assign body:Code} {gf:Nat} {lb:List Value} {s:σ} {ŝ:σ ⊕ ρ}
    (I:σ→PH→List HA→Prop) (J:ρ→Code→PH→List HA→Prop) (bd:σ→α→Option (σ ⊕ ρ)) (en:PH→List Value→α→Prop)
    (hF:Fr N F a) (hg:opv F g=some (.func (.func gf) #[] lb.toArray)) (hen:∀ args w,(callFunc gf args).run P w=.ok (.enter gf args) w)
    (hps:(ps.all fun p=>Nat.blt p N.n)=true) (hpe:∀ H args x,en H args x→args.length=ps.length)
    (hS:St w0 M [H] (dsA N.ds :: L) w) (hI:I s H L)
    (hIm:∀ s H H' L,(∀ b o,H b=some o→H' b=some o)→I s H L→I s H' L) (hJm:∀ t c H H' L,(∀ b o,H b=some o→H' b=some o)→J t c H L→J t c H' L)
    (hit:∀ (l:Nat) (C:σ ⊕ ρ→PH→List HA→Prop) (Lc:List HA) (w1:World),YC P l C en (yy bd)→(∀ s H H' L,(∀ b o,H b=some o→H' b=some o)→C s H L→C s H' L)→
      C (.inl s) H Lc→H.le w1→(sepA Lc).ok (hp w1)→(∀ b,(sepA Lc).fp b→H b=none)→
      Tot P gf (Value.func (.yield l) #[] #[] :: lb).toArray w1 fun _ w'=>∃ H' Lc',C ŝ H' Lc'∧MutH w1 (sepA Lc) H w' (sepA Lc') H')
    (hbody:∀ (l:Nat) (X Y:HA) (s:σ) (x:α) (r:σ ⊕ ρ) (H1:PH) (Lu:List HA) (args:List Value) (w1:World) (a1:Act) (K:Act→World→Prop) (Qr:Exit→Act→World→Prop),
      I s H1 Lu→en H1 args x→bd s x=some r→Fr ⟨N.n,[],[]⟩ ((ps.zip args).reverse ++ F) a1→St w1 (sepA (X :: Lu)).fp [H1] (X :: Lu) w1→
      (∀ H2 Lu2 a2 w2,St w1 (sepA (X :: Lu)).fp [H2] (X :: Lu2) w2→(∀ w3,St w1 (sepA (X :: Lu)).fp [H2] (Y :: Lu2) w3→wq (some l) P body (np Qr) a2 w3)→K a2 w2)→
      (∀ s' H2 Lu2 a2 w2,r=.inl s'→ExtM w1 (sepA (X :: Lu)).fp H1 H2→I s' H2 Lu2→St w1 (sepA (X :: Lu)).fp [H2] (Y :: Lu2) w2→Qr .normal a2 w2)→
      (∀ t e c H2 Lu2 a2 w2,r=.inr t→jmp e=some c→ExtM w1 (sepA (X :: Lu)).fp H1 H2→J t c H2 Lu2→St w1 (sepA (X :: Lu)).fp [H2] (Y :: Lu2) w2→Qr e a2 w2)→
      wq (some l) P assign (Exit.then K fun _ _ _=>False) a1 w1)
    (hdone:∀ s' D H' Lu a' w',ŝ=.inl s'→I s' H' Lu→ExtM w0 M H H'→Fr ⟨N.n,N.df,D :: N.ds⟩ F a'→St w0 M [H'] (dsA (D :: N.ds) :: Lu) w'→Q .normal a' w')
    (hstop:∀ t c D H' Lu a' w',ŝ=.inr t→J t c H' Lu→ExtM w0 M H H'→Fr ⟨N.n,N.df,D :: N.ds⟩ F a'→St w0 M [H'] (dsA (D :: N.ds) :: Lu) w'→wq none P c Q a' w') :
    wq none P (Code.rangeFunc g ps.toArray assign body) Q a w:=by
  refine wpIn_rangeFunc fun fn _=>?_
  obtain ⟨rec,hrec⟩:∃ rec:LoopState→Option Code→Loop,rec=fun st pe=>{ state:=st,pending:=pe,fn,tmps:=a.tmps,params:=ps.toArray,assign,body,defers:=w.heap.size }:=⟨_,rfl⟩
  obtain ⟨W1,hW1⟩:∃ W1,(w.alloc (.deferred (some []))).alloc (.loop (rec .ready none))=W1:=⟨_,rfl⟩
  have hnew:∀ (w:World) (o:Obj),(w.alloc o).heap[w.heap.size]? = some o:=World.alloc_heap_new
  have hSa:St w0 M [H] (dA w.heap.size :: dsA N.ds :: L) (w.alloc (.deferred (some []))):=hS.add (.alloc _ _ _ (Jce _)) (hnew _ _) (fun b hb=>by cases hb;exact Nat.le_refl _)
  have hSb:St w0 M [H] (blk (w.heap.size+1) (.loop (rec .ready none)) :: dA w.heap.size :: dsA N.ds :: L) W1:=by
    rw [← hW1]
    refine hSa.add (.alloc _ _ _ (Ek _)) ?_ (fun b hb=>by cases hb;simp)
    have:=hnew (w.alloc (.deferred (some []))) (.loop (rec .ready none))
    rw [World.size_alloc] at this
    exact this
  have hev:a.eval g=.func (.func gf) #[] lb.toArray:=hF.ev hg
  refine ⟨w.heap.size+1,[JbP w.heap.size],W1,{ target:=.fn (.func gf) lb.toArray,args:=#[.func (.yield (w.heap.size+1)) #[] #[]] },W1,gf,
    #[.func (.yield (w.heap.size+1)) #[] #[]] ++ lb.toArray,W1,?_,?_,fun _ _=>trivial,?_,fun e=>(by cases e),?_⟩
  · rw [← hW1,hrec];exact run_enterLoop_outer _ _ _ _ _
  · simp only [resolve, hev]
    simp [go_sem]
  · simp [invoke,go_sem,hen]
  -- the iterator, at the states of the loop
  let C:σ ⊕ ρ→PH→List HA→Prop:=fun s H Lc=>match s with
    | .inl s=>∃ Lu,Lc=blk (w.heap.size+1) (.loop (rec .ready none)) :: Lu∧I s H Lu
    | .inr t=>∃ Lu c,Lc=blk (w.heap.size+1) (.loop (rec .done (some c))) :: Lu∧J t c H Lu
  have hSc:St w0 M [H] (sepA (blk (w.heap.size+1) (.loop (rec .ready none)) :: L) :: dsA (w.heap.size :: N.ds) :: []) W1:=by
    have h1:St w0 M [H] (dsA N.ds :: (blk (w.heap.size+1) (.loop (rec .ready none)) :: dA w.heap.size :: L)) W1:=hSb.perm (by
      refine .trans (.cons _ (.swap _ _ _)) (.swap _ _ _))
    have h2:St w0 M [H] (N.ds.map dA ++ (blk (w.heap.size+1) (.loop (rec .ready none)) :: dA w.heap.size :: L)) W1:=St.unsep h1
    have h3:St w0 M [H] (((w.heap.size :: N.ds).map dA) ++ (blk (w.heap.size+1) (.loop (rec .ready none)) :: L)) W1:=h2.perm (by
      simp only [List.map_cons,List.cons_append]
      refine .trans (List.perm_middle (a:=blk (w.heap.size+1) (.loop (rec .ready none)))) ?_
      refine .trans (.cons _ (List.perm_middle (a:=dA w.heap.size))) ?_
      refine .trans (.swap _ _ _) (.cons _ ?_)
      exact List.perm_middle.symm)
    have h4:=St.sep _ h3
    have h5:St w0 M [H] ((blk (w.heap.size+1) (.loop (rec .ready none)) :: L) ++ [dsA (w.heap.size :: N.ds)]) W1:=h4.perm (List.perm_append_singleton _ _).symm
    exact St.sep _ h5
  have hCm:∀ s H H' L,(∀ b o,H b=some o→H' b=some o)→C s H L→C s H' L:=by
    intro s H H' L hs hC
    cases s with
    | inl s=>obtain ⟨Lu,e,h⟩:=hC;exact ⟨Lu,e,hIm s H H' Lu hs h⟩
    | inr t=>obtain ⟨Lu,c,e,h⟩:=hC;exact ⟨Lu,c,e,hJm t c H H' Lu hs h⟩
  have hy:YC P (w.heap.size+1) C en (yy bd):=by
    intro ss x s' b H1 Lc args w1 hC hle hok hdis hex hyy
    cases ss with
    | inr t=>cases hyy
    | inl s =>
      obtain ⟨Lu,rfl,hI1⟩:=hC
      cases hb:bd s x with
      | none=>simp [yy,hb] at hyy
      | some r =>
        simp only [yy,hb,Option.map_some,Option.some.injEq,Prod.mk.injEq] at hyy
        obtain ⟨rfl,rfl⟩:=hyy
        have hl:w1.heap[w.heap.size+1]? = some (.loop (rec .ready none)):=hok.1 _ (.head _)
        have hy:=run_yield (P:=P) (args:=args.toArray) hl (by rw [hrec];simpa using hpe _ _ _ hex)
        rw [hrec] at hy
        simp only at hy
        have hS1:=Gg hle hok hdis
        have hend:∀ (st:LoopState) (pe:Option Code) (H2:PH) (Lu2:List HA) (w2:World),
            St w1 (sepA (blk (w.heap.size+1) (.loop (rec .ready none)) :: Lu)).fp [H2] (blk (w.heap.size+1) (.loop (rec .busy none)) :: Lu2) w2→
            ExtM w1 (sepA (blk (w.heap.size+1) (.loop (rec .ready none)) :: Lu)).fp H1 H2→
            MutH w1 (sepA (blk (w.heap.size+1) (.loop (rec .ready none)) :: Lu)) H1 (w2.putObj (w.heap.size+1) (.loop (rec st pe))) (sepA (blk (w.heap.size+1) (.loop (rec st pe)) :: Lu2)) H2:=fun st pe H2 Lu2 w2 h2 he=>by
          have h3:=h2.putObj (u:=.loop (rec st pe)) .head (Ek _) (Ek _)
          exact ⟨h3.endMut,he,St.le h3,St.disL h3⟩
        refine ⟨fn,_,assign,body,hy,roundIn_of_wpIn trivial ?_⟩
        refine hbody (w.heap.size+1) (blk (w.heap.size+1) (.loop (rec .ready none))) (blk (w.heap.size+1) (.loop (rec .busy none))) s x r H1 Lu args w1 _ _ (roundPost P (w.heap.size+1) fun e w'=>e=.returned (.bool r.isLeft)∧∃ H' Lc',C r H' Lc'∧MutH w1 (sepA (blk (w.heap.size+1) (.loop (rec .ready none)) :: Lu)) H1 w' (sepA Lc') H') hI1 hex hb ?_ hS1 ?_ ?_ ?_
        · have h0 : Fr ⟨N.n, [], []⟩ F { tmps := a.tmps, defers := [] } := ⟨hF.size, hF.slots, rfl⟩
          have:=Fr.zip (N:=N) (tmps:=a.tmps) ps args F a.tmps (hpe _ _ _ hex) (fun p hp=>by have:=List.all_eq_true.1 hps p hp;simpa [Nat.blt_eq] using this) h0
          have e:=Jde ps args (fun (t:Array Value) (x:Tmp×Value)=>t.setIfInBounds x.1 x.2) a.tmps
          rw [e]
          exact this
        · intro H2 Lu2 a2 w2 h2 hk
          have hl2:w2.heap[w.heap.size+1]? = some (.loop (rec .ready none)):=h2.ok _ (.head _)
          refine ⟨_,run_beginRound hl2 (by rw [hrec]),?_⟩
          have h3:=h2.putObj (u:=.loop (rec .busy none)) .head (Ek _) (Ek _)
          have e:({ rec .ready none with state:=.busy }:Loop)=rec .busy none:=by rw [hrec]
          rw [e]
          exact JeR (hk _ h3)
        · rintro s' H2 Lu2 a2 w2 rfl he hI2 h2
          have hl2:w2.heap[w.heap.size+1]? = some (.loop (rec .busy none)):=h2.ok _ (.head _)
          have hr:=run_endRound (P:=P) none hl2
          refine ⟨_,_,hr,rfl,H2,_,⟨Lu2,rfl,hI2⟩,?_⟩
          have:=hend .ready none H2 Lu2 w2 h2 he
          rw [hrec] at this ⊢
          exact this
        · intro t e c H2 Lu2 a2 w2 hr1 hj he hJ2 h2
          subst hr1
          have hl2:w2.heap[w.heap.size+1]? = some (.loop (rec .busy none)):=h2.ok _ (.head _)
          have hr:=run_endRound (P:=P) (some c) hl2
          have h3:=hend .done (some c) H2 Lu2 w2 h2 he
          have key:∃ v w',(Instr.endRound (w.heap.size+1) (some c)).run P w2=.ok v w'∧(Ending.returned v=.returned (.bool (Sum.isLeft (Sum.inr t:σ ⊕ ρ)))∧∃ H' Lc',C (.inr t) H' Lc'∧MutH w1 (sepA (blk (w.heap.size+1) (.loop (rec .ready none)) :: Lu)) H1 w' (sepA Lc') H'):=by
            refine ⟨_,_,hr,rfl,H2,_,⟨Lu2,c,rfl,hJ2⟩,?_⟩
            rw [hrec] at h3 ⊢
            exact h3
          cases e with
          | ret=>cases hj;exact key
          | exit id=>cases hj;exact key
          | _=>cases hj
  have h0:=hit (w.heap.size+1) C _ W1 hy hCm ⟨L,rfl,hI⟩ (St.le hSc) (St.sepOk hSc) (St.sepDis hSc)
  have hargs:#[Value.func (.yield (w.heap.size+1)) #[] #[]] ++ lb.toArray=(Value.func (.yield (w.heap.size+1)) #[] #[] :: lb).toArray:=by simp
  rw [hargs]
  refine callsIn_wide.2 (Calls.mono h0 ?_)
  rintro e w' ⟨v,rfl,H',Lc',hC',hm⟩
  have hS2:=hSc.mutHH hm
  have hx:ExtM w0 M H H':=St.extcMM hSc hm.ext
  have hF2:Fr ⟨N.n,N.df,w.heap.size :: N.ds⟩ F { a with defers:=JbP w.heap.size :: a.defers }:=⟨hF.size,hF.slots,by simp [hF.defers]⟩
  cases ŝ with
  | inl s' =>
    obtain ⟨Lu,rfl,hI'⟩:=hC'
    have h1:St w0 M [H'] (blk (w.heap.size+1) (.loop (rec .ready none)) :: (Lu ++ [dsA (w.heap.size :: N.ds)])) w':=St.unsep hS2
    have hl2:w'.heap[w.heap.size+1]? = some (.loop (rec .ready none)):=h1.ok _ (.head _)
    have hp:(rec .ready none).pending=none:=by rw [hrec]
    refine ⟨none,_,(run_endLoop hl2 (by rw [hrec];exact fun e=>nomatch e)).trans (congrArg (fun p=>Result.ok p _) hp),?_⟩
    have h2:=(h1.putObj (u:=.loop { rec .ready none with state:=.exhausted }) .head (Ek _) (Ek _)).drop .head
    exact hdone s' w.heap.size H' Lu _ _ rfl hI' hx hF2 (h2.perm (List.perm_append_singleton _ _))
  | inr t =>
    obtain ⟨Lu,c,rfl,hJ'⟩:=hC'
    have h1:St w0 M [H'] (blk (w.heap.size+1) (.loop (rec .done (some c))) :: (Lu ++ [dsA (w.heap.size :: N.ds)])) w':=St.unsep hS2
    have hl2:w'.heap[w.heap.size+1]? = some (.loop (rec .done (some c))):=h1.ok _ (.head _)
    have hp:(rec .done (some c)).pending=some c:=by rw [hrec]
    refine ⟨some c,_,(run_endLoop hl2 (by rw [hrec];exact fun e=>nomatch e)).trans (congrArg (fun p=>Result.ok p _) hp),?_⟩
    have h2:=(h1.putObj (u:=.loop { rec .done (some c) with state:=.exhausted }) .head (Ek _) (Ek _)).drop .head
    exact hstop t c w.heap.size H' Lu _ _ rfl hJ' hx hF2 (h2.perm (List.perm_append_singleton _ _))
end
end Go.LM
namespace Go.LL
open Go
section
variable {P:Program} {N:FN} {F:List (Nat×Value)} {a:Act} {w:World} {d:Option Tmp} {ty:TypeId} {pos:String} {af:Array Edge} {g:Option (Nat×Bool)}
theorem JeV (hF:Fr N F a) {x y z:Operand} {ts:Array TypeId} {k:IntKind} {m n o:Int} (hx:opv F x=some (.int k m)) (hy:opv F y=some (.int k n)) (hz:opv F z=some (.int k o)) :
    (execOp a.eval ⟨d,.call ⟨.builtin .max,#[x,y,z],ts⟩,ty,pos,af,g⟩).run P w=.ok (.value (.int k (max (max m n) o))) w:=by
  have:∀ m n:Int,(if m < n then n else m)=max m n:=fun m n=>by simp only [Int.max_def];split <;> split <;> omega
  simp [execOp,resolve,invoke,builtin,hF.ev hx,hF.ev hy,hF.ev hz,Builtin.max_,Builtin.max2,this]
end
end Go.LL
namespace Go.LM
open Go Go.LL Go.MD
theorem St.eqL {w0 w:World} {M:Nat→Prop} {Hs:List PH} {L L':List HA} {A A':HA} (hS:St w0 M Hs L w) (hr:Repl A A' L L') (e:A=A'):St w0 M Hs L' w:=by
  subst e
  have:L=L':=by induction hr with
    | head=>rfl
    | tail h ih=>exact congrArg _ (ih (hS.sub (List.sublist_cons_self _ _)))
  exact this ▸ hS
end Go.LM
namespace Go.LM
open Go Go.LL Go.MD
section
variable {P:Program} {a:Act} {w:World} {N:FN} {F:List (Nat×Value)}
theorem r2c {fn:Func} {t b n u:Nat} {ty:TypeId} {vs:List Value} {x:Value} {R:Value→World→Prop} {how:Exit} (hh:how=.ret∨how=.normal) (hF:Fr N F a) (hr:fn.results=#[.cell t ty,.tmp u]) (ht:F.lookup t=some (.pointer (some ⟨b,0,none⟩)))
    (hu:F.lookup u=some x)
    (hg:∀ w,(isAgg ty).run P w=.ok true w) (hz:∀ w,(sizeOf ty).run P w=.ok n w) (hn:vs.length=n) (hc:∀ (j:Nat) (v:Value),vs[j]? = some v→w.cell? ⟨b,0+j,none⟩=some v) (h:R (.tuple #[.agg vs.toArray,x]) w) (hds:N.ds=[]∧N.df=[]:=by exact ⟨rfl,rfl⟩) :
    bodyPost P fn (fun e w'=>∃ v,e=.returned v∧R v w') how a w:=by
  have h1:=run_loadCells_list (P:=P) w ⟨b,0,none⟩ vs (fun j v hv=>by rw [Fy];exact hc j v hv)
  rw [hn] at h1
  have h2:(results fn a.tmps).run P w=.ok (.tuple #[.agg vs.toArray,x]) w:=by
    have e1:=hF.slots t _ ht
    have e2:=hF.slots u _ hu
    simp [results,hr,e1,e2,asAddr,loadVar,hg,hz,h1]
  rcases hh with rfl | rfl
  · exact bodyPost_ret h2 (hF.defers.trans (by rw [hds.1,hds.2];rfl)) ⟨_,rfl,h⟩
  · exact bodyPost_end h2 (hF.defers.trans (by rw [hds.1,hds.2];rfl)) ⟨_,rfl,h⟩
end
end Go.LM
namespace Go.LM
open Go Go.LL Go.MD
section
variable {P:Program} {a:Act} {w:World} {N:FN} {F:List (Nat×Value)} {fn:Func}
end
end Go.LM
namespace Go.LM
open Go Go.LL Go.MD
section
variable {P:Program} {w w' w0:World} {M:Nat→Prop} {H H':PH} {L L':List HA} {A A':HA}
theorem St.ds0 (hS:St w0 M [H] L w):St w0 M [H] (dsA [] :: L) w:=hS.add (.refl _ _) ⟨fun x hx=>(nomatch hx),.nil⟩ (fun b ⟨x,hx,_⟩=>(nomatch hx))
end
end Go.LM
namespace Go.LM
open Go Go.LL Go.MD Go.Proofs Go.Shelf
end Go.LM
namespace Go.LM
open Go Go.LL Go.MD
section
variable {κ β:Type} [DecidableEq κ]
theorem Tx {l:List (κ×Value×Nat)} (h:(l.map (·.2.2)).Nodup) {x y:κ×Value×Nat} (hx:x∈l) (hy:y∈l) (e:x.2.2=y.2.2):x=y:=by
  induction l with
  | nil=>cases hx
  | cons z r ih =>
    simp only [List.map_cons,List.nodup_cons] at h
    rcases List.mem_cons.1 hx with h1 | h1 <;> rcases List.mem_cons.1 hy with h2 | h2
    · rw [h1,h2]
    · exact absurd (List.mem_map (f:=fun x:κ×Value×Nat=>x.2.2).2 ⟨y,h2,by rw [← e,h1]⟩) h.1
    · exact absurd (List.mem_map (f:=fun x:κ×Value×Nat=>x.2.2).2 ⟨x,h1,by rw [e,h2]⟩) h.1
    · exact ih h.2 h1 h2
def MFil (X:Value) (seen:Array Nat) (l l':List (κ×Value×Nat)):Prop:=Wo l'∧∀ k v,Hi k l'=some v↔∃ st,(k,v,st)∈l∧v≠X∧seen.contains st=true
theorem MFil.keep {X:Value} {seen:Array Nat} {l l':List (κ×Value×Nat)} {e:κ×Value×Nat} {c cc:Nat} (h:MFil X seen l l') (hd:Wo l) (hg:JcV l cc) (he:e∈l) (hx:e.2.1≠X):MFil X (seen.push e.2.2) l (JcU e.1 e.2.1 c l'):=by
  refine ⟨Jcn h.1,fun k v=>?_⟩
  rw [Jcd]
  constructor
  · intro hv
    by_cases e2:k=e.1
    · rw [if_pos e2] at hv; obtain rfl := Option.some.inj hv; subst e2
      exact ⟨e.2.2,he,hx,by simp only [contains_push,beq_self_eq_true,Bool.or_true]⟩
    · rw [if_neg e2] at hv
      obtain ⟨st,h1,h2,h3⟩:=(h.2 k v).1 hv
      exact ⟨st,h1,h2,by simp only [contains_push,h3,Bool.true_or]⟩
  · rintro ⟨st, h1, h2, h3⟩
    simp only [contains_push,Bool.or_eq_true,beq_iff_eq] at h3
    by_cases e2:k=e.1
    · rw [if_pos e2]
      have:=Ki hd h1
      have h4:=Ki (k:=e.1) (v:=e.2.1) (b:=e.2.2) hd he
      rw [e2,h4] at this
      rw [Option.some.inj this]
    · rw [if_neg e2]
      rcases h3 with h3 | h3
      · exact (h.2 k v).2 ⟨st,h1,h2,h3⟩
      · have := Tx hg.2 h1 he h3
        exact absurd (congrArg Prod.fst this) e2
theorem MFil.skip {X:Value} {seen:Array Nat} {l l':List (κ×Value×Nat)} {e:κ×Value×Nat} {cc:Nat} (h:MFil X seen l l') (hg:JcV l cc) (he:e∈l) (hx:e.2.1=X):MFil X (seen.push e.2.2) l l':=by
  refine ⟨h.1,fun k v=>(h.2 k v).trans ⟨?_,?_⟩⟩
  · rintro ⟨st, h1, h2, h3⟩
    exact ⟨st,h1,h2,by simp only [contains_push,h3,Bool.true_or]⟩
  · rintro ⟨st, h1, h2, h3⟩
    simp only [contains_push,Bool.or_eq_true,beq_iff_eq] at h3
    rcases h3 with h3 | h3
    · exact ⟨st,h1,h2,h3⟩
    · have := Tx hg.2 h1 he h3
      exact absurd ((congrArg (fun x=>x.2.1) this).trans hx) h2
theorem MRel.val {ev:β→Value} {l:List (κ×Value×Nat)} {m:List (κ×β)} (hm:MRel ev l m) {e:κ×Value×Nat} (he:e∈l):∃ y,e.2.1=ev y:=by
  have h3:=Ki (k:=e.1) (v:=e.2.1) (b:=e.2.2) hm.dl he
  rw [hm.look] at h3
  obtain ⟨y,hy,h⟩:=Option.map_eq_some_iff.1 h3
  exact ⟨y,h.symm⟩
end
section
variable {κ β:Type} [DecidableEq κ]
variable {P:Program} {ops:Array Oper} {Q:Exit→Act→World→Prop} {a:Act} {w:World} {N:FN} {F:List (Nat×Value)}
  {w0:World} {M:Nat→Prop} {H:PH} {L L':List HA} {K:Act→World→Prop}
  {d:Nat} {dd:Option Tmp} {g:Option (Nat×Bool)} {ty:TypeId} {pos:String} {af:Array Edge} {kt et t:TypeId} {kv:κ→Value} {ev:β→Value}
def OMap (kv:κ→Value) (ev:β→Value) (vm:Value) (A:HA) (m:List (κ×β)):Prop:=(vm=.map none∧A=sepA []∧m=[])∨∃ b l c,vm=.map (some b)∧A=Jhp kv b l c∧MRel ev l m
theorem OMap.cells {vm:Value} {A:HA} {m:List (κ×β)} (h:OMap kv ev vm A m):vm.cells=#[vm]:=by
  rcases h with ⟨rfl,_⟩ | ⟨b,l,c,rfl,_⟩ <;> rfl
end
end Go.LM
namespace Go.LM
open Go Go.LL Go.MD
section
variable {P:Program} {ops:Array Oper} {Q:Exit→Act→World→Prop} {a:Act} {w:World} {N:FN} {F:List (Nat×Value)}
theorem qv {rest:List Oper} {d:Nat} {op:Op} {ty:TypeId} {pos:String} {af:Array Edge} {v:Value} (hF:Fr N F a) (hE:(execOp a.eval ⟨some d,op,ty,pos,af,none⟩).run P w=.ok (.value v) w)
    (k:∀ {a},Fr N ((d,v) :: F) a→wpL P ops Q rest a w) (hN:Nat.blt d N.n=true:=by rfl):wpL P ops Q (⟨some d,op,ty,pos,af,none⟩ :: rest) a w:=ls (q1 hF hN hE (@k))
theorem qm {rest:List Oper} {d:Nat} {x:Operand} {ty:TypeId} {pos:String} {af:Array Edge} {v:Value} (hF:Fr N F a) (hx:opv F x=some v)
    (k:∀ {a},Fr N ((d,v) :: F) a→wpL P ops Q rest a w) (hN:Nat.blt d N.n=true:=by rfl):wpL P ops Q (⟨some d,.move x,ty,pos,af,none⟩ :: rest) a w:=ls (q1 hF hN (Aa hF hx) (@k))
theorem qa {rest:List Oper} {d:Nat} {x:Operand} {ty:TypeId} {pos:String} {af:Array Edge} {v:Value} (hF:Fr N F a) (hx:opv F x=some v)
    (k:∀ {a},Fr N ((d,v) :: F) a→wpL P ops Q rest a w) (hN:Nat.blt d N.n=true:=by rfl):wpL P ops Q (⟨some d,.assign x,ty,pos,af,none⟩ :: rest) a w:=ls (q1 hF hN (Ca hF hx) (@k))
theorem qg {rest:List Oper} {d:Nat} {op:Op} {ty:TypeId} {pos:String} {af:Array Edge} {j t:Nat} {b:Bool} {v:Value} (hF:Fr N F a) (hE:(execOp a.eval ⟨some d,op,ty,pos,af,none⟩).run P w=.ok (.value v) w)
    (k:∀ {a},Fr N ((d,v) :: F) a→wpL P ops Q rest a w) (hN:Nat.blt d N.n=true:=by rfl) (hj:(ops[j]?).bind (·.dst)=some t:=by rfl) (ht:F.lookup t=some (.bool b):=by rfl):wpL P ops Q (⟨some d,op,ty,pos,af,some (j,b)⟩ :: rest) a w:=ls (gy hF hj ht (q1 hF hN hE (@k)))
theorem qn {rest:List Oper} {d:Nat} {op:Op} {ty:TypeId} {pos:String} {af:Array Edge} {j t:Nat} {b b':Bool} (hF:Fr N F a)
    (k:∀ {a},Fr N ((d,undef) :: F) a→wpL P ops Q rest a w) (hN:Nat.blt d N.n=true:=by rfl) (hj:(ops[j]?).bind (·.dst)=some t:=by rfl) (ht:F.lookup t=some (.bool b'):=by rfl) (hne:(b' == b)=false:=by rfl):wpL P ops Q (⟨some d,op,ty,pos,af,some (j,b)⟩ :: rest) a w:=ls (gn hF hN hj ht hne (@k))
section
variable {S:World→Prop} {z:Nat}
theorem xq {k d:Nat} {op:Op} {ty:TypeId} {pos:String} {af:Array Edge} {rest:List Oper} {v:Value} (hS:S w) (hF:Fr N F a) (hE:∀ w,S w→(execOp a.eval ⟨some d,op,ty,pos,af,none⟩).run P w=.ok (.value v) w)
    (kk:∀ {a},Fr N ((d,v) :: F) a→wpX P ops Q S z rest (k+1) a w) (hN:Nat.blt d N.n=true:=by rfl) (hz:(k == z)=false:=by rfl) (hQ:∀ c a' w',Q (.panic c) (a'.put (some d) v) w'→Q (.panic c) a' w':=by exact fun _ _ _ h=>h):wpX P ops Q S z (⟨some d,op,ty,pos,af,none⟩ :: rest) k a w:=x1 hS hF hN hz hQ hE (@kk)
theorem xg {k d j t:Nat} {b:Bool} {op:Op} {ty:TypeId} {pos:String} {af:Array Edge} {rest:List Oper} {v:Value} (hS:S w) (hF:Fr N F a) (hE:∀ w,S w→(execOp a.eval ⟨some d,op,ty,pos,af,some (j,b)⟩).run P w=.ok (.value v) w)
    (kk:∀ {a},Fr N ((d,v) :: F) a→wpX P ops Q S z rest (k+1) a w) (hN:Nat.blt d N.n=true:=by rfl) (hz:(k == z)=false:=by rfl) (hj:(ops[j]?).bind (·.dst)=some t:=by rfl) (ht:F.lookup t=some (.bool b):=by rfl) (hQ:∀ c a' w',Q (.panic c) (a'.put (some d) v) w'→Q (.panic c) a' w':=by exact fun _ _ _ h=>h):wpX P ops Q S z (⟨some d,op,ty,pos,af,some (j,b)⟩ :: rest) k a w:=x1g hS hF hN hz hj ht hQ hE (@kk)
theorem xn {k d j t:Nat} {b b':Bool} {op:Op} {ty:TypeId} {pos:String} {af:Array Edge} {rest:List Oper} (hS:S w) (hF:Fr N F a)
    (kk:∀ {a},Fr N ((d,undef) :: F) a→wpX P ops Q S z rest (k+1) a w) (hN:Nat.blt d N.n=true:=by rfl) (hz:(k == z)=false:=by rfl) (hj:(ops[j]?).bind (·.dst)=some t:=by rfl) (ht:F.lookup t=some (.bool b'):=by rfl) (hne:(b' == b)=false:=by rfl) (hQ:∀ c a' w',Q (.panic c) (a'.put (some d) undef) w'→Q (.panic c) a' w':=by exact fun _ _ _ h=>h):wpX P ops Q S z (⟨some d,op,ty,pos,af,some (j,b)⟩ :: rest) k a w:=x1n hS hF hN hz hj ht hne hQ (@kk)
theorem dq (i:Nat) {d:Nat} {op:Op} {ty:TypeId} {pos:String} {af:Array Edge} {v:Value} {fuel:Nat} {listed:Array Bool} (hS:S w) (hF:Fr N F a) (hi:ops[i]? = some ⟨some d,op,ty,pos,af,none⟩) (hE:∀ w,S w→(execOp a.eval ⟨some d,op,ty,pos,af,none⟩).run P w=.ok (.value v) w)
    (kk:∀ {a},Fr N ((d,v) :: F) a→wpD P ops Q S z fuel (listed.setIfInBounds i true) a w)
    (hs:Region.noSelect ops=true:=by kernel_rfl) (hf:(Region.free .any ops listed i && (Region.ready .any ops listed).contains i && (i == z || Jf ops z i))=true:=by kernel_rfl) (hN:Nat.blt d N.n=true:=by rfl) (hQ:∀ c a' w',Q (.panic c) (a'.put (some d) v) w'→Q (.panic c) a' w':=by exact fun _ _ _ h=>h):wpD P ops Q S z (fuel+1) listed a w:=d1 hi hs hf hS hF hN hQ hE (@kk)
theorem dg (i:Nat) {d j t:Nat} {b:Bool} {op:Op} {ty:TypeId} {pos:String} {af:Array Edge} {v:Value} {fuel:Nat} {listed:Array Bool} (hS:S w) (hF:Fr N F a) (hi:ops[i]? = some ⟨some d,op,ty,pos,af,some (j,b)⟩) (hE:∀ w,S w→(execOp a.eval ⟨some d,op,ty,pos,af,some (j,b)⟩).run P w=.ok (.value v) w)
    (kk:∀ {a},Fr N ((d,v) :: F) a→wpD P ops Q S z fuel (listed.setIfInBounds i true) a w)
    (hs:Region.noSelect ops=true:=by kernel_rfl) (hf:(Region.free .any ops listed i && (Region.ready .any ops listed).contains i && (i == z || Jf ops z i))=true:=by kernel_rfl) (hN:Nat.blt d N.n=true:=by rfl) (hj:(ops[j]?).bind (·.dst)=some t:=by rfl) (ht:F.lookup t=some (.bool b):=by rfl) (hQ:∀ c a' w',Q (.panic c) (a'.put (some d) v) w'→Q (.panic c) a' w':=by exact fun _ _ _ h=>h):wpD P ops Q S z (fuel+1) listed a w:=d1g hi hs hf hS hF hN hj ht hQ hE (@kk)
theorem dn (i:Nat) {d j t:Nat} {b b':Bool} {op:Op} {ty:TypeId} {pos:String} {af:Array Edge} {fuel:Nat} {listed:Array Bool} (hS:S w) (hF:Fr N F a) (hi:ops[i]? = some ⟨some d,op,ty,pos,af,some (j,b)⟩)
    (kk:∀ {a},Fr N ((d,undef) :: F) a→wpD P ops Q S z fuel (listed.setIfInBounds i true) a w)
    (hs:Region.noSelect ops=true:=by kernel_rfl) (hf:(Region.free .any ops listed i && (Region.ready .any ops listed).contains i && (i == z || Jf ops z i))=true:=by kernel_rfl) (hN:Nat.blt d N.n=true:=by rfl) (hj:(ops[j]?).bind (·.dst)=some t:=by rfl) (ht:F.lookup t=some (.bool b'):=by rfl) (hne:(b' == b)=false:=by rfl) (hQ:∀ c a' w',Q (.panic c) (a'.put (some d) undef) w'→Q (.panic c) a' w':=by exact fun _ _ _ h=>h):wpD P ops Q S z (fuel+1) listed a w:=d1n hi hs hf hS hF hN hj ht hne hQ (@kk)
end
theorem t1 {α:Type _} {a x0:α} {l:List α}:a∈x0 :: a :: l:=.tail _ (.head _)
theorem t2 {α:Type _} {a x0 x1:α} {l:List α}:a∈x0 :: x1 :: a :: l:=.tail _ t1
theorem t3 {α:Type _} {a x0 x1 x2:α} {l:List α}:a∈x0 :: x1 :: x2 :: a :: l:=.tail _ t2
theorem t4 {α:Type _} {a x0 x1 x2 x3:α} {l:List α}:a∈x0 :: x1 :: x2 :: x3 :: a :: l:=.tail _ t3
theorem t5 {α:Type _} {a x0 x1 x2 x3 x4:α} {l:List α}:a∈x0 :: x1 :: x2 :: x3 :: x4 :: a :: l:=.tail _ t4
theorem t6 {α:Type _} {a x0 x1 x2 x3 x4 x5:α} {l:List α}:a∈x0 :: x1 :: x2 :: x3 :: x4 :: x5 :: a :: l:=.tail _ t5
theorem t7 {α:Type _} {a x0 x1 x2 x3 x4 x5 x6:α} {l:List α}:a∈x0 :: x1 :: x2 :: x3 :: x4 :: x5 :: x6 :: a :: l:=.tail _ t6
theorem t8 {α:Type _} {a x0 x1 x2 x3 x4 x5 x6 x7:α} {l:List α}:a∈x0 :: x1 :: x2 :: x3 :: x4 :: x5 :: x6 :: x7 :: a :: l:=.tail _ t7
theorem t9 {α:Type _} {a x0 x1 x2 x3 x4 x5 x6 x7 x8:α} {l:List α}:a∈x0 :: x1 :: x2 :: x3 :: x4 :: x5 :: x6 :: x7 :: x8 :: a :: l:=.tail _ t8
theorem si {α:Type} {x y:α} (h:some x=some y):x=y:=Option.some.inj h
theorem bs {α β:Type} {x:Option α} {f:α→Option β} {b:β} (h:x.bind f=some b):∃ a,x=some a∧f a=some b:=bind_some h
theorem _root_.Go.LL.Fr.hs (hF:Fr N F a) {F':List (Nat×Value)} (h:Has F F':=by repeat' (first | exact trivial | refine ⟨rfl,?_⟩)):Fr N F' a:=hF.has h
end
abbrev i6 (n:Int):Value:=.int .i64 n
theorem t0 {α:Type _} {a:α} {l:List α}:a∈a :: l:=.head _
theorem i2 {H:PH}:∀ b o,H b=some o→H b=some o:=fun _ _ h=>h
theorem i1 {α:Type _} {l:List α}:∀ x∈l,x∈l:=fun _ h=>h
theorem ta1 {α:Type _} {l:List α} {a:α}:∀ x∈l,x∈a :: l:=fun _ h=>.tail _ h
theorem ta2 {α:Type _} {l:List α} {a b:α}:∀ x∈l,x∈a :: b :: l:=fun _ h=>.tail _ (.tail _ h)
theorem ta3 {α:Type _} {l:List α} {a b c:α}:∀ x∈l,x∈a :: b :: c :: l:=fun _ h=>.tail _ (.tail _ (.tail _ h))
theorem cp {H1 H2 H3:PH} (f:∀ b o,H2 b=some o→H3 b=some o) (g:∀ b o,H1 b=some o→H2 b=some o):∀ b o,H1 b=some o→H3 b=some o:=fun b o h=>f b o (g b o h)
def Pb:Nat→List HA→Option (HA×List HA)
  | _,[]=>none
  | 0,A :: L=>some (A,L)
  | n+1,A :: L=>match Pb n L with | some (B,M)=>some (B,A :: M) | none=>none
def Sw:List Nat→List HA→Option (List HA)
  | [],_=>some []
  | i :: is,L=>match Pb i L with | some (A,M)=>(match Sw is M with | some K=>some (A :: K) | none=>none) | none=>none
theorem Pz:∀ (i:Nat) (L:List HA) {A:HA} {M:List HA},Pb i L=some (A,M)→Pick A L M
  | _,[],_,_,h=>by simp [Pb] at h
  | 0,B :: L,_,_,h=>by simp only [Pb,Option.some.injEq,Prod.mk.injEq] at h;obtain ⟨rfl,rfl⟩:=h;exact .head
  | n + 1, B :: L, A, M, h => by
    rw [Pb] at h
    cases e:Pb n L with
    | none=>rw [e] at h;cases h
    | some q =>
      obtain ⟨C,K⟩:=q
      rw [e] at h
      simp only [Option.some.injEq,Prod.mk.injEq] at h
      obtain ⟨rfl,rfl⟩:=h
      exact .tail (Pz n L e)
theorem Qj:∀ (is:List Nat) (L:List HA) {K:List HA},Sw is L=some K→PickL K L
  | [],_,_,h=>by simp only [Sw,Option.some.injEq] at h;subst h;exact .nil
  | i :: is, L, K, h => by
    rw [Sw] at h
    cases e:Pb i L with
    | none=>rw [e] at h;cases h
    | some q =>
      obtain ⟨A,M⟩:=q
      rw [e] at h
      simp only at h
      cases e2:Sw is M with
      | none=>rw [e2] at h;cases h
      | some J=>rw [e2] at h;simp only [Option.some.injEq] at h;subst h;exact .cons (Pz i L e) (Qj is M e2)
theorem _root_.Go.LL.St.pk {w0 w:World} {M:Nat→Prop} {Hs:List PH} {L K:List HA} (u:St w0 M Hs L w) (is:List Nat) (h:Sw is L=some K):St w0 M Hs K w:=u.pickL (Qj is L h)
section
variable {P:Program} {ops:Array Oper} {Q:Exit→Act→World→Prop} {a:Act} {w:World} {N:FN} {F:List (Nat×Value)}
variable {w0:World} {M:Nat→Prop} {Hs:List PH} {L:List HA} {z:Nat}
theorem cq {d:Nat} {ty:TypeId} {pos:String} {af:Array Edge} {f:FuncId} {l:List Operand} {vs:List Value} {r:Value} {at_:Array TypeId} {K:Act→World→Prop}
    (hF:Fr N F a) (hen:∀ (x:Array Value) (w:World),(callFunc f x).run P w=.ok (.enter f x) w) (hc:Tot P f vs.toArray w fun v w'=>v=r∧Keep Nil w w') (hargs:N8 F l vs) (u:St w0 M Hs L w)
    (k:∀ w' a,St w0 M Hs L w'→Fr N ((d,r) :: F) a→K a w') (hN:Nat.blt d N.n=true:=by rfl):stp P ops Q ⟨some d,.call ⟨.value (.func f),l.toArray,at_⟩,ty,pos,af,none⟩ a w K:=
  c1 hF hN hen hc hargs fun v w' a hR o=>by obtain ⟨rfl,hk⟩:=hR;exact k w' a (u.pass hk) o
theorem xr {k d:Nat} {op:Op} {ty:TypeId} {pos:String} {af:Array Edge} {rest:List Oper} {v:Value} (u:St w0 M Hs L w) (hF:Fr N F a) (hE:∀ {w},(execOp a.eval ⟨some d,op,ty,pos,af,none⟩).run P w=.ok (.value v) w)
    (kk:∀ {a},Fr N ((d,v) :: F) a→wpX P ops Q (Lds Hs L) z rest (k+1) a w) (hN:Nat.blt d N.n=true:=by rfl) (hz:(k == z)=false:=by rfl) (hQ:∀ c a' w',Q (.panic c) (a'.put (some d) v) w'→Q (.panic c) a' w':=by exact fun _ _ _ h=>h):wpX P ops Q (Lds Hs L) z (⟨some d,op,ty,pos,af,none⟩ :: rest) k a w:=xq (St.ld u) hF (fun _ _=>hE) kk hN hz hQ
theorem xm {k d:Nat} {x:Operand} {ty:TypeId} {pos:String} {af:Array Edge} {rest:List Oper} {v:Value} (u:St w0 M Hs L w) (hF:Fr N F a) (hx:opv F x=some v)
    (kk:∀ {a},Fr N ((d,v) :: F) a→wpX P ops Q (Lds Hs L) z rest (k+1) a w) (hN:Nat.blt d N.n=true:=by rfl) (hz:(k == z)=false:=by rfl) (hQ:∀ c a' w',Q (.panic c) (a'.put (some d) v) w'→Q (.panic c) a' w':=by exact fun _ _ _ h=>h):wpX P ops Q (Lds Hs L) z (⟨some d,.move x,ty,pos,af,none⟩ :: rest) k a w:=xq (St.ld u) hF (fun _ _=>Aa hF hx) kk hN hz hQ
theorem dr (i:Nat) {d:Nat} {op:Op} {ty:TypeId} {pos:String} {af:Array Edge} {v:Value} {fuel:Nat} {listed:Array Bool} (u:St w0 M Hs L w) (hF:Fr N F a) (hi:ops[i]? = some ⟨some d,op,ty,pos,af,none⟩) (hE:∀ {w},(execOp a.eval ⟨some d,op,ty,pos,af,none⟩).run P w=.ok (.value v) w)
    (kk:∀ {a},Fr N ((d,v) :: F) a→wpD P ops Q (Lds Hs L) z fuel (listed.setIfInBounds i true) a w)
    (hs:Region.noSelect ops=true:=by kernel_rfl) (hf:(Region.free .any ops listed i && (Region.ready .any ops listed).contains i && (i == z || Jf ops z i))=true:=by kernel_rfl) (hN:Nat.blt d N.n=true:=by rfl) (hQ:∀ c a' w',Q (.panic c) (a'.put (some d) v) w'→Q (.panic c) a' w':=by exact fun _ _ _ h=>h):wpD P ops Q (Lds Hs L) z (fuel+1) listed a w:=dq i (St.ld u) hF hi (fun _ _=>hE) kk hs hf hN hQ
theorem ds {S:World→Prop} (i:Nat) {d:Nat} {op:Op} {ty:TypeId} {pos:String} {af:Array Edge} {v:Value} {fuel:Nat} {listed:Array Bool} (hS:S w) (hF:Fr N F a) (hi:ops[i]? = some ⟨some d,op,ty,pos,af,none⟩) (hE:∀ {w},(execOp a.eval ⟨some d,op,ty,pos,af,none⟩).run P w=.ok (.value v) w)
    (kk:∀ {a},Fr N ((d,v) :: F) a→wpD P ops Q S z fuel (listed.setIfInBounds i true) a w)
    (hs:Region.noSelect ops=true:=by kernel_rfl) (hf:(Region.free .any ops listed i && (Region.ready .any ops listed).contains i && (i == z || Jf ops z i))=true:=by kernel_rfl) (hN:Nat.blt d N.n=true:=by rfl) (hQ:∀ c a' w',Q (.panic c) (a'.put (some d) v) w'→Q (.panic c) a' w':=by exact fun _ _ _ h=>h):wpD P ops Q S z (fuel+1) listed a w:=dq i hS hF hi (fun _ _=>hE) kk hs hf hN hQ
end
theorem bit {α:Type} {b:Bool} {x y:Option α} {r:α} (h:(if b=true then x else y)=some r):(b=true∧x=some r)∨(b=false∧y=some r):=by
  cases b with
  | true=>exact .inl ⟨rfl,by simpa using h⟩
  | false=>exact .inr ⟨rfl,by simpa using h⟩
theorem bip {α:Type} {p:Prop} [Decidable p] {x y:Option α} {r:α} (h:(if p then x else y)=some r):(decide p=true∧x=some r)∨(decide p=false∧y=some r):=by
  by_cases hp:p
  · exact .inl ⟨decide_eq_true hp,by rwa [if_pos hp] at h⟩
  · exact .inr ⟨decide_eq_false hp,by rwa [if_neg hp] at h⟩
abbrev PT (b:Nat):Value:=.pointer (some ⟨b,0,none⟩)
abbrev SL {α:Type} (oa:Option Addr) (xs:List α) (cap:Nat):Value:=.slice oa xs.length cap
abbrev bk (b:Nat) (cs:List Value) (t:TypeId):HA:=blk b (.cells cs.toArray t (0,0))
abbrev tb (b:Bool):Value:=.bool b
section
variable {P:Program} {ops:Array Oper} {Q:Exit→Act→World→Prop} {a:Act} {w:World} {N:FN} {F:List (Nat×Value)}
variable {w0:World} {M:Nat→Prop} {Hs:List PH} {L:List HA} {z:Nat}
theorem cr {d:Nat} {ty:TypeId} {pos:String} {af:Array Edge} {f:FuncId} {l:List Operand} {vs:List Value} {r:Value} {at_:Array TypeId} {K:Act→World→Prop}
    (hF:Fr N F a) (hen:∀ (x:Array Value) (w:World),(callFunc f x).run P w=.ok (.enter f x) w) (hc:Tot P f vs.toArray w fun v w'=>v=r∧Keep Nil w w') (u:St w0 M Hs L w)
    (k:∀ {w' a},St w0 M Hs L w'→Fr N ((d,r) :: F) a→K a w') (hargs:N8 F l vs:=by repeat' (first | exact trivial | refine ⟨rfl,?_⟩)) (hN:Nat.blt d N.n=true:=by rfl):stp P ops Q ⟨some d,.call ⟨.value (.func f),l.toArray,at_⟩,ty,pos,af,none⟩ a w K:=
  cq hF hen hc hargs u (fun _ _=>k) hN
theorem qk {rest:List Oper} {d:Nat} {op:Op} {ty:TypeId} {pos:String} {af:Array Edge} {v v':Value} {Fk:List (Nat×Value)} (hF:Fr N F a) (hE:(execOp a.eval ⟨some d,op,ty,pos,af,none⟩).run P w=.ok (.value v) w)
    (key:∀ a w,Fr N Fk a→St w0 M Hs L w→wpL P ops Q rest a w) (u:St w0 M Hs L w) {x y:Bool} (hb:x=y) (hh:Has ((d,v') :: F) Fk:=by repeat' (first | exact trivial | refine ⟨rfl,?_⟩)) (e:x=y→v=v':=by intro h;rw [h];rfl) (hN:Nat.blt d N.n=true:=by rfl):wpL P ops Q (⟨some d,op,ty,pos,af,none⟩ :: rest) a w:=
  qv hF hE (fun o=>key _ _ (by have e':=e hb;subst e';exact o.has hh) u) hN
theorem ql {rest:List Oper} {d:Nat} {op:Op} {ty:TypeId} {pos:String} {af:Array Edge} {j t:Nat} {b:Bool} {v v':Value} {Fk:List (Nat×Value)} (hF:Fr N F a) (hE:(execOp a.eval ⟨some d,op,ty,pos,af,none⟩).run P w=.ok (.value v) w)
    (key:∀ a w,Fr N Fk a→St w0 M Hs L w→wpL P ops Q rest a w) (u:St w0 M Hs L w) {x y:Bool} (hb:x=y) (hh:Has ((d,v') :: F) Fk:=by repeat' (first | exact trivial | refine ⟨rfl,?_⟩)) (e:x=y→v=v':=by intro h;rw [h];rfl) (hN:Nat.blt d N.n=true:=by rfl) (hj:(ops[j]?).bind (·.dst)=some t:=by rfl) (ht:F.lookup t=some (.bool b):=by rfl):wpL P ops Q (⟨some d,op,ty,pos,af,some (j,b)⟩ :: rest) a w:=
  qg hF hE (fun o=>key _ _ (by have e':=e hb;subst e';exact o.has hh) u) hN hj ht
theorem gr {Fk:List (Nat×Value)} {b:Bool} {l:List Oper} (t n:Nat) (hF:Fr N F a) (u:St w0 M Hs L w)
    (h1:b=true→Fr N ((t,.bool true) :: F) a→(∀ a w,Fr N Fk a→St w0 M Hs L w→wpL P ops Q (l.drop n) a w)→wpL P ops Q l a w)
    (h2:b=false→Fr N ((t,.bool false) :: F) a→(∀ a w,Fr N Fk a→St w0 M Hs L w→wpL P ops Q (l.drop n) a w)→wpL P ops Q l a w)
    (key:∀ a w,Fr N Fk a→St w0 M Hs L w→wpL P ops Q (l.drop n) a w) (ht:F.lookup t=some (.bool b):=by rfl):wpL P ops Q l a w:=
  grp (Fk:=Fk) (b:=b) n u (fun hb k=>h1 hb (hF.as ht (congrArg Value.bool hb)) k) (fun hb k=>h2 hb (hF.as ht (congrArg Value.bool hb)) k) key
end
section
variable {P:Program} {ops:Array Oper} {Q:Exit→Act→World→Prop} {a:Act} {w:World} {N:FN} {F:List (Nat×Value)}
variable {w0:World} {M:Nat→Prop} {Hs:List PH} {L:List HA} {z:Nat} {S:World→Prop} {rest:List Oper} {ty:TypeId} {pos:String} {af:Array Edge}
theorem qf {d:Nat} {x:Operand} {t:TypeId} {f b o k:Nat} (hF:Fr N F a) (hfa:∀ (ad:Addr) (w:World),(Instr.fieldAt t (.pointer (some ad)) f).run P w=.ok (.pointer (some (ad.add k))) w) (hx:opv F x=some (.pointer (some ⟨b,o,none⟩)))
    (kk:∀ {a},Fr N ((d,.pointer (some ⟨b,o+k,none⟩)) :: F) a→wpL P ops Q rest a w) (hN:Nat.blt d N.n=true:=by rfl):wpL P ops Q (⟨some d,.fieldAddr t x f,ty,pos,af,none⟩ :: rest) a w:=ls (q1 hF hN (Ad hF hfa hx) (@kk))
theorem eB {d:Option Tmp} {g:Option (Nat×Bool)} {x:Operand} {t e:TypeId} {b off:Nat} {c:List Value} {v:Value} {fz:Nat×Nat} (hF:Fr N F a) (hg:∀ w,(isAgg t).run P w=.ok false w) (hx:opv F x=some (.pointer (some ⟨b,off,none⟩))) (hl:Lds Hs L w) (hA:blk b (.cells c.toArray e fz)∈L) (hv:nth c off=some v) :
    (execOp a.eval ⟨d,.load t x,ty,pos,af,g⟩).run P w=.ok (.value v) w:=Ap hF hg hx (hl.cellB hA hv)
theorem qB {d:Nat} {x:Operand} {t e:TypeId} {b off:Nat} {c:List Value} {v:Value} {fz:Nat×Nat} (hF:Fr N F a) (hg:∀ w,(isAgg t).run P w=.ok false w) (hx:opv F x=some (.pointer (some ⟨b,off,none⟩))) (u:St w0 M Hs L w) (hA:blk b (.cells c.toArray e fz)∈L) (hv:nth c off=some v)
    (kk:∀ {a},Fr N ((d,v) :: F) a→wpL P ops Q rest a w) (hN:Nat.blt d N.n=true:=by rfl):wpL P ops Q (⟨some d,.load t x,ty,pos,af,none⟩ :: rest) a w:=ls (q1 hF hN (eB hF hg hx u.ld hA hv) (@kk))
theorem eI {α:Type} [Enc α] {H:PH} {d:Option Tmp} {g:Option (Nat×Bool)} {x y:Operand} {t e:TypeId} {k:IntKind} {j:Int} {sz c:Nat} {oa:Option Addr} {xs:List α} {zz:α} (hF:Fr N F a) (hu:∀ w,(underlying t).run P w=.ok (.slice e) w) (hz:∀ w,(sizeOf e).run P w=.ok sz w)
    (hx:opv F x=some (.slice oa xs.length c)) (hy:opv F y=some (.int k j)) (hg:getI xs j=some zz) (hr:SR H oa xs) (hs:0 < Enc.sz α:=by decide) :
    (execOp a.eval ⟨d,.indexAddr t x y,ty,pos,af,g⟩).run P w=.ok (.value (.pointer (some ⟨(adr oa).block,(adr oa).off+j.toNat * sz,none⟩))) w:=Co hF hu hz hx hy hg (SR.oaI hr hs hg)
theorem eC {H:PH} {d:Option Tmp} {g:Option (Nat×Bool)} {x:Operand} {t:TypeId} {b o n:Nat} {vs:List Value} (hF:Fr N F a) (hg:∀ w,(isAgg t).run P w=.ok true w) (hz:∀ w,(sizeOf t).run P w=.ok n w) (hx:opv F x=some (.pointer (some ⟨b,o,none⟩)))
    (hl:Lds [H] L w) (E:∀ (j:Nat) (v:Value),vs[j]? = some v→H.cell? ⟨b,o+j,none⟩=some v) (hn:vs.length=n:=by rfl) :
    (execOp a.eval ⟨d,.load t x,ty,pos,af,g⟩).run P w=.ok (.value (.agg vs.toArray)) w:=An hF hg hz hx hn fun j v hj=>PH.le.cell (Lds.le hl) (E j v hj)
theorem eD {H:PH} {d:Option Tmp} {g:Option (Nat×Bool)} {x:Operand} {t:TypeId} {ad:Addr} {v:Value} (hF:Fr N F a) (hg:∀ w,(isAgg t).run P w=.ok false w) (hx:opv F x=some (.pointer (some ad))) (hl:Lds [H] L w) (hc:H.cell? ad=some v) :
    (execOp a.eval ⟨d,.load t x,ty,pos,af,g⟩).run P w=.ok (.value v) w:=Ap hF hg hx (PH.le.cell (Lds.le hl) hc)
theorem bz {d:Nat} {t e:TypeId} {n sz:Nat} {parts:Array (Nat×Operand)} {K:Act→World→Prop} (xs:List Value) (hF:Fr N F a) (hS:St w0 M Hs L w)
    (k:∀ {w a} b,St w0 M Hs (sla e sz (some ⟨b,0,none⟩) n n xs :: L) w→Fr N ((d,.slice (some ⟨b,0,none⟩) n n) :: F) a→K a w)
    (hN:Nat.blt d N.n=true:=by rfl) (ho:((Op.buildSlice t n parts).operands.toList.all fun x=>(opv F x).isSome)=true:=by rfl) (hl:xs.length=n * sz:=by rfl) (hm:Nat.ble n 1000000=true:=by rfl)
    (hr:∀ w:World,(execOp (rho F) ⟨some d,.buildSlice t n parts,ty,pos,af,none⟩).run P w=.ok (.value (.slice (some ⟨w.heap.size,0,none⟩) n n)) (w.alloc (.cells xs.toArray e)):=by intro w;kernel_rfl) :
    stp P ops Q ⟨some d,.buildSlice t n parts,ty,pos,af,none⟩ a w K:=Je0 xs hF hN hS ho hl hm hr fun b _ _=>k b
theorem bw {d:Nat} {t e:TypeId} {n sz:Nat} {parts:Array (Nat×Operand)} {K:Act→World→Prop} (xs:List Value) (hF:Fr N F a) (hS:St w0 M Hs L w)
    (k:∀ {a} b w,St w0 M Hs (sla e sz (some ⟨b,0,none⟩) n n xs :: L) w→Fr N ((d,.slice (some ⟨b,0,none⟩) n n) :: F) a→K a w)
    (hN:Nat.blt d N.n=true:=by rfl) (ho:((Op.buildSlice t n parts).operands.toList.all fun x=>(opv F x).isSome)=true:=by rfl) (hl:xs.length=n * sz:=by rfl) (hm:Nat.ble n 1000000=true:=by rfl)
    (hr:∀ w:World,(execOp (rho F) ⟨some d,.buildSlice t n parts,ty,pos,af,none⟩).run P w=.ok (.value (.slice (some ⟨w.heap.size,0,none⟩) n n)) (w.alloc (.cells xs.toArray e)):=by intro w;kernel_rfl) :
    stp P ops Q ⟨some d,.buildSlice t n parts,ty,pos,af,none⟩ a w K:=Je0 xs hF hN hS ho hl hm hr fun b w _=>k b w
theorem bL {d:Option Tmp} {g:Option (Nat×Bool)} {t:TypeId} {parts:List (Nat×Operand)} (vs:List Value) (cs:List Value) (hF:Fr N F a) (hargs:N8 F (parts.map (·.2)) vs:=by repeat' (first | exact trivial | refine ⟨rfl,?_⟩))
    (hr:∀ w,(Instr.build t ((parts.map (·.1)).zip vs).toArray).run P w=.ok (.agg cs.toArray) w:=by intro w;kernel_rfl) :
    (execOp a.eval ⟨d,.build t parts.toArray,ty,pos,af,g⟩).run P w=.ok (.value (.agg cs.toArray)) w:=Jfl vs cs hF hargs hr
theorem dI (i:Nat) {o:Oper} {fuel:Nat} {listed:Array Bool} (hi:ops[i]? = some o) (h:stp P ops Q o a w (fun a' w'=>(i≠z→S w')∧wpD P ops Q S z fuel (listed.setIfInBounds i true) a' w')):Sj P ops Q S z fuel listed i a w:=di hi h
theorem dW (i:Nat) {fuel:Nat} {listed:Array Bool} (h:Sj P ops Q S z fuel listed i a w) (hr:(Region.ready .any ops listed == [i])=true:=by kernel_rfl):wpD P ops Q S z (fuel+1) listed a w:=da1 hr h
theorem dz (i:Nat) {o:Oper} {fuel:Nat} {listed:Array Bool} (hi:ops[i]? = some o) (h:stp P ops Q o a w (fun a' w'=>(i≠z→S w')∧wpD P ops Q S z fuel (listed.setIfInBounds i true) a' w')) (hr:(Region.ready .any ops listed == [i])=true:=by kernel_rfl):wpD P ops Q S z (fuel+1) listed a w:=da1 hr (di hi h)
theorem dE {fuel:Nat} {listed:Array Bool} (h:Q .normal a w) (hr:(Region.ready .any ops listed).isEmpty=true:=by kernel_rfl):wpD P ops Q S z fuel listed a w:=de hr h
end
def Tg:List Nat→List HA→Option (List HA)
  | [],_=>some []
  | i :: is,L=>match L[i]?,Tg is L with | some A,some K=>some (A :: K) | _,_=>none
theorem Yz:∀ {is:List Nat} {L K:List HA},Tg is L=some K→∀ A∈K,A∈L
  | [],_,_,h,A,hA=>by simp only [Tg,Option.some.injEq] at h;subst h;cases hA
  | i :: is, L, K, h, A, hA => by
    rw [Tg] at h
    split at h
    · rename_i B J h1 h2
      simp only [Option.some.injEq] at h
      subst h
      rcases List.mem_cons.1 hA with rfl | hA
      · exact List.mem_of_getElem? h1
      · exact Yz h2 A hA
    · cases h
theorem _root_.Go.LL.St.lx {w0 w:World} {M:Nat→Prop} {H H0:PH} {L K:List HA} (u:St w0 M [H] L w) (hs:∀ b o,H0 b=some o→H b=some o) (is:List Nat) (h:Tg is L=some K):Lds [H0] K w:=St.ldsX u hs (Yz h)
theorem _root_.Go.LL.St.ly {w0 w:World} {M:Nat→Prop} {Hs:List PH} {L K:List HA} (u:St w0 M Hs L w) (is:List Nat) (h:Tg is L=some K):Lds Hs K w:=u.lds (fun _ hx=>hx) (Yz h)
end Go.LM
namespace Go.LM
open Go Go.LL Go.MD
section
variable {P:Program} {ops:Array Oper} {Q:Exit→Act→World→Prop} {a:Act} {w:World} {N:FN} {F:List (Nat×Value)}
  {w0:World} {M:Nat→Prop} {H:PH} {L L':List HA} {K:Act→World→Prop}
  {d:Nat} {ty:TypeId} {pos:String} {af:Array Edge}
end
theorem Repl.id {A:HA} {L L':List HA} (h:Repl A A L L'):L'=L:=by
  induction h with
  | head=>rfl
  | tail _ ih=>rw [ih]
section
variable {w:World} {w0:World} {M:Nat→Prop} {Hs:List PH} {L:List HA} {T e:TypeId} {b cap:Nat} {vp:Value} {oa:Option Addr} {s:Str}
end
end Go.LM
namespace Go.LM
open Go Go.LL Go.MD
def PP (R:Value→World→Prop) (E:World→Prop):Ending→World→Prop:=fun e w'=>(∃ v,e=.returned v∧R v w')∨(∃ u pv,e=.panicked [{ v:=.iface u pv,recovered:=false }]∧E w')
instance {P:Program} {fn:Func} {R:Value→World→Prop} {E:World→Prop}:NoOut (bodyPost P fn (PP R E)):=⟨fun ⟨_,_,h⟩=>by
  rcases h with ⟨v,e,_⟩ | ⟨u,pv,e,_⟩ <;> cases e⟩
section
variable {P:Program} {Q:Exit→Act→World→Prop} {a:Act} {w w':World} {ops:Array Oper}
end
end Go.LM
namespace Go.LM
open Go Go.LL Go.MD
section
variable {P:Program} {Q:Exit→Act→World→Prop} {a:Act} {w w':World} {ops:Array Oper} {N:FN} {F:List (Nat×Value)} {w0:World} {M:Nat→Prop} {Hs:List PH} {L L':List HA} {K:Act→World→Prop}
  {d:Option Tmp} {ty:TypeId} {pos:String} {af:Array Edge} {g:Option (Nat×Bool)}
theorem Jfw {t e:TypeId} {x y:Operand} {b o n:Nat} {c c':List Value} (pre old new post:List Value) (hF:Fr N F a) (hS:St w0 M Hs L w) (hz:∀ w,(sizeOf t).run P w=.ok n w)
    (hx:opv F x=some (.pointer (some ⟨b,o,none⟩))) (hy:opv F y=some (.agg new.toArray)) (ho:pre.length=o) (hl:old.length=n) (hl':new.length=n) (h1:∀ v∈new,v.oneCell'=true)
    (hc:c=pre ++ (old ++ post)) (hc':c'=pre ++ (new ++ post))
    (hr:Repl (blk b (.cells c.toArray e (0,0))) (blk b (.cells c'.toArray e (0,0))) L L')
    (k:∀ w,St w0 M Hs L' w→K a w):stp P ops Q ⟨none,.store t x y,ty,pos,af,none⟩ a w K:=by
  have hb:w.heap[b]? = some (.cells c.toArray e (0,0)):=hS.ok _ hr.memOld
  have hst:=run_storeCells_at P b o e new 0 c.toArray w hb (by rw [hc];simp;omega) h1
  have e1:(c.toArray.toList.take (o+0) ++ new ++ c.toArray.toList.drop (o+0+new.length))=c':=by
    have t1:c.toArray.toList.take (o+0)=pre:=by simp only [hc,Nat.add_zero,← ho,List.take_left]
    have t2:c.toArray.toList.drop (o+0+new.length)=post:=by
      have:o+0+new.length=(pre ++ old).length:=by simp;omega
      rw [this];simp only [hc,← List.append_assoc,List.drop_left]
    rw [t1,t2,hc',List.append_assoc]
  rw [e1] at hst
  refine m0 (w':=w.setRow b c'.toArray) ?_ (k _ ?_)
  · simp [execOp,hF.ev hx,hF.ev hy,Instr.storeAt,Instr.sureAddr,storeVar,hz,Value.cells,hl',hst]
  · refine hS.upd hr ⟨rfl,rfl,rfl,by simp,fun x _ hx=>setRow_other w b x _ (fun e=>hx e),fun a _=>Lq w b _ a⟩ (setRow_heap w b _ _ e _ hb) (fun b' hb'=>.inl hb')
end
end Go.LM
namespace Go
variable {H:Type} {enc:TypeId×Value→H}
theorem Hm {a:Assume} {C:Checked} {os:Os} {f:FuncId} {fn:Func} {s:ChangeSpec} {conds:List PathCond} {apart fresh handsOn again:Bool} {X:World→Array Value→Prop}
    (hX:∀ (w w':World) (args:Array Value),w.heap=w'.heap→X w args→X w' args)
    (own:ownKnob C.prog.godebug=none) (started:os.Started) (noInit:C.prog.inits.idxOf? f=none) (hfn:C.prog.funcs[f]? = some fn)
    (witness:∃ (w:World) (tape:Tape) (i:Input),w.os=os∧(w.forCall tape i).Shaped C.prog∧i.vars=[]∧Input.okWide C.prog (w.forCall tape i) .any w.heap.size f i∧
      ((s.pre enc C.prog fn conds apart (w.forCall tape i).memory i.args∧X (w.forCall tape i).memory i.args)∧sizedMet enc C.prog fn (OpenSpec.ofChange s) apart (w.forCall tape i).memory i.args)∧a.holds C.prog (lone (Frame.enter C.prog f i.args .normal) [] (w.forCall tape i)))
    (contract:∀ (W:World) (base:Nat) (args:Array Value) (ds gs:List (DataW H)) (before:List MemPlace),
      (∀ (j:Nat) t v,fn.params[j]? = some t→args[j]? = some v→Value.okWide C.prog W .any base t v)→
      DataW.Whole enc C.prog fn.params.toList s.vars apart W args.toList ds gs before→X W args→W.ShapedOpen C.prog→
      Calls C.prog f args W fun e W'=>∃ v,e=.returned v∧s.post enc C.prog fn apart fresh handsOn again W args v W') :
    ReturnsInHanded a C os f .any (fun w args=>(s.pre enc C.prog fn conds apart w args∧X w args)∧sizedMet enc C.prog fn (OpenSpec.ofChange s) apart w args) (s.post enc C.prog fn apart fresh handsOn again):=by
  refine returnsInHanded_of_calls own started noInit witness ?_
  intro w tape i _ hsh _ hok hpre _
  obtain ⟨_,_,_,fn',hfn',_,_,_,_,hval⟩:=hok
  have e:fn'=fn:=Option.some.inj (hfn'.symm.trans hfn)
  subst e
  obtain ⟨⟨⟨ds,gs,before,hw,_⟩,hx⟩,_⟩:=hpre
  refine (contract (w.forCall tape i) w.heap.size i.args ds gs before hval (DataW.Whole.of_heap (w':=w.forCall tape i) (by rfl) hw) (hX _ _ _ (by rfl) hx) hsh).mono fun e W' ⟨v,he,hp⟩=>?_
  subst he
  exact ChangeSpec.post_blind hp
end Go
namespace Go.LM
open Go Go.LL Go.MD Go.ChangeShapes Go.WideShapes Go.ChangeAt Go.RowKit Go.WideElems
def Op (P:Program) (t:TypeId) (α:Type) [Enc α] (ok:α→Prop):Prop:=
  ∀ {H : Type} {enc : TypeId × Value → H} {W : World} {base : Nat} {sp : Nat → Bool} {held : Bool} {n : Nat} {cs : List Value} {y : DataW H × List MemPlace},
    DataW.trod enc P W base sp held n t cs=some y→∃ x:α,Enc.rep (hp W) cs x∧ok x
section
variable {P:Program} {t e:TypeId} {α:Type} [Enc α] {ok:α→Prop}
theorem JeU {z:Int} (h:(Lit.int .i64 z).wf=true):InR z:=by
  simp [Lit.wf,IntKind.min,IntKind.max,IntKind.signed,IntKind.bits] at h
  exact ⟨by omega,by omega⟩
theorem Fv (ht:P.underlying t=some (.int .i64)):Op P t Int InR:=fun h=>by
  obtain ⟨z,rfl,-,hw⟩:=DataW.trod_int ht h
  exact ⟨z,rfl,JeU hw⟩
theorem Ol (ht:P.underlying t=some .string):Op P t (List UInt8) (fun s=>s.length≤maxLen):=fun h=>by
  obtain ⟨s,rfl,-,hw⟩:=DataW.trod_string ht h
  refine ⟨s.data.toList,rfl,?_⟩
  show s.data.toList.length≤maxLen
  rw [Array.length_toList];exact hw
theorem Ja7 {β:Type} {n:Nat} {p:Nat→β→Prop} (h:∀ i,i < n→∃ x,p i x):∃ l:List β,l.length=n∧∀ i (h:i < l.length),p i l[i]:=by
  induction n with
  | zero=>exact ⟨[],rfl,fun i hi=>by cases hi⟩
  | succ n ih =>
    obtain ⟨l,h1,h2⟩:=ih (fun i hi=>h i (by omega))
    obtain ⟨o,ho⟩:=h n (by omega)
    refine ⟨l ++ [o],by simp [h1],fun i hi=>?_⟩
    by_cases e:i < l.length
    · rw [List.getElem_append_left e];exact h2 i e
    · have e2 : i = n := by simp at hi; omega
      subst e2
      rw [List.getElem_append_right (by omega)]
      simp only [h1,Nat.sub_self,List.getElem_cons_zero]
      exact ho
theorem Px {h:PH}:∀ {l:List (List Value×α)},(∀ q∈l,Enc.rep h q.1 q.2)→Rows h (l.flatMap (·.1)) (l.map (·.2))
  | [],_=>.nil
  | q :: l,hq=>.cons (hq q (.head _)) (Px fun r hr=>hq r (.tail _ hr))
omit [Enc α] in
theorem Tr {sz:Nat}:∀ {l:List (List Value×α)},(∀ q∈l,q.1.length=sz)→∀ {k j:Nat} (hk:k < l.length) (_:j < sz),(l.flatMap (·.1))[k * sz+j]? = (l[k]).1[j]?
  | [],_,k,j,hk,_=>by simp at hk
  | x :: r, hf, k, j, hk, hj => by
    have hx:=hf x (.head _)
    rw [List.flatMap_cons]
    cases k with
    | zero =>
      rw [Nat.zero_mul,Nat.zero_add,List.getElem?_append_left (by rw [hx];exact hj)]
      rfl
    | succ k =>
      rw [List.getElem?_append_right (by rw [hx,Nat.succ_mul];omega),hx,show (k+1) * sz+j - sz=k * sz+j by rw [Nat.succ_mul];omega]
      have:=Tr (fun q hq=>hf q (.tail _ hq)) (k:=k) (j:=j) (by simpa using hk) hj
      rw [this]
      rfl
theorem Dn {s:Nat} (ht:P.underlying t=some (.slice e)) (hc:P.cellsOf e=s) (hs:Enc.sz α=s) (h0:0 < s) (h:Op P e α ok):Op P t (List α) (fun xs=>∀ x∈xs,ok x):=fun {H enc W base sp held n cs y} hd=>by
  rcases DataW.trod_slice ht hd with ⟨rfl,_⟩ | ⟨a,len,cap,elems,rest,m,_,rfl,_,_,hlc,hcap,hlen,hel,_⟩
  · exact ⟨[],⟨none,0,rfl,Nat.le_refl _,SR.nil _ _⟩,fun x hx=>by cases hx⟩
  · rw [hc] at hel
    have each:∀ i,i < len→∃ q:List Value×α,(∀ j v,q.1[j]? = some v→W.cell? ((a.add (i * s)).add j)=some v)∧Enc.rep (hp W) q.1 q.2∧ok q.2∧q.1.length=s:=by
      intro i hi
      have h1:=hel i hi
      rw [List.getElem?_eq_getElem (by omega)] at h1
      obtain ⟨cs,hcs,hy⟩:=Option.bind_eq_some_iff.1 h1
      obtain ⟨_,hcl,hcell⟩:=World.cells?_some hcs
      obtain ⟨x,hx,hok⟩:=h hy
      refine ⟨(cs,x),fun j v hj=>?_,hx,hok,hcl⟩
      have hjl:j < cs.length:=(List.getElem?_eq_some_iff.1 hj).1
      rw [hcell j (by omega)]
      exact hj
    obtain ⟨l,hl,hp'⟩:=Ja7 each
    have hlen':∀ q∈l,q.1.length=s:=fun q hq=>by
      obtain ⟨i,hi,rfl⟩:=List.getElem_of_mem hq
      exact (hp' i hi).2.2.2
    have hrep:∀ q∈l,Enc.rep (hp W) q.1 q.2:=fun q hq=>by
      obtain ⟨i,hi,rfl⟩:=List.getElem_of_mem hq
      exact (hp' i hi).2.1
    refine ⟨l.map (·.2),⟨some a,cap,by rw [List.length_map,hl],by rw [List.length_map,hl];exact hlc,l.flatMap (·.1),?_,Px hrep⟩,fun x hx=>?_⟩
    · have spot:0 < l.length→a=⟨a.block,a.off,none⟩:=fun hpos=>by
        have h1:=(hp' 0 hpos).2.2.2
        have h2:=(hp' 0 hpos).1 0 _ (List.getElem?_eq_getElem (by omega))
        rw [Nat.zero_mul] at h2
        refine Jbw (w:=W) (a:=a) (v:=l[0].1[0]'(by omega)) ?_
        rw [← h2]
        obtain ⟨b,o,sp⟩:=a
        cases sp with
        | none=>rfl
        | some _=>rfl
      refine ⟨fun hne=>?_,fun j u hj=>?_⟩
      · have:0 < l.length:=by
          rcases Nat.eq_zero_or_pos l.length with h | h
          · rw [List.eq_nil_of_length_eq_zero h] at hne;simp at hne
          · exact h
        simp only [adr,Option.getD_some]
        rw [← spot this]
      · have hjl : j < (l.flatMap (·.1)).length := (List.getElem?_eq_some_iff.1 hj).1
        have hfl:(l.flatMap (·.1)).length=l.length * s:=by
          have:=(Px hrep).len
          rw [List.length_map,hs] at this
          exact this
        have hk:j / s < l.length:=Nat.div_lt_of_lt_mul (by rw [Nat.mul_comm];omega)
        have hk0:0 < l.length:=Nat.lt_of_le_of_lt (Nat.zero_le _) hk
        have hm:j % s < s:=Nat.mod_lt _ h0
        have hdm:j / s * s+j % s=j:=by rw [Nat.mul_comm];exact Nat.div_add_mod j s
        rw [← hdm,Tr hlen' hk hm] at hj
        have h3:=(hp' (j / s) hk).1 (j % s) u hj
        rw [spot hk0,Fy,Fy] at h3
        rw [Ai]
        simp only [adr,Option.getD_some]
        rw [show a.off+j=a.off+j / s * s+j % s by omega]
        exact h3
    · obtain ⟨q, hq, rfl⟩ := List.mem_map.1 hx
      obtain ⟨i,hi,rfl⟩:=List.getElem_of_mem hq
      exact (hp' i hi).2.2.1
theorem Jb9 {s:Nat}:∀ {n:Nat} {cs:List Value},cs.length=n * s→cs=(List.range n).flatMap fun i=>(cs.drop (i * s)).take s:=by
  intro n
  induction n with
  | zero=>intro cs h;rw [Nat.zero_mul] at h;rw [List.eq_nil_of_length_eq_zero h];rfl
  | succ n ih =>
    intro cs h
    rw [Nat.succ_mul] at h
    rw [List.range_succ,List.flatMap_append]
    have h1:=ih (cs:=cs.take (n * s)) (by rw [List.length_take];omega)
    have h2:((List.range n).flatMap fun i=>(cs.drop (i * s)).take s)=(List.range n).flatMap fun i=>((cs.take (n * s)).drop (i * s)).take s:=by
      rw [List.flatMap_def,List.flatMap_def]
      congr 1
      refine List.map_congr_left fun i hi=>?_
      have hi':i < n:=List.mem_range.1 hi
      have hle:(i+1) * s≤n * s:=Nat.mul_le_mul_right _ hi'
      rw [Nat.succ_mul] at hle
      rw [List.drop_take,List.take_take,Nat.min_eq_left (by omega)]
    rw [h2,← h1]
    simp only [List.flatMap_cons,List.flatMap_nil,List.append_nil]
    rw [List.take_of_length_le (l:=cs.drop (n * s)) (by rw [List.length_drop];omega),List.take_append_drop]
theorem Jcc {s n:Nat} (ht:P.underlying t=some (.array n e)) (hct:P.cellsOf t=n * s) (hc:P.cellsOf e=s) (h:Op P e α ok):Op P t (Arr n α) (fun a=>∀ x∈a.l,ok x):=fun {H enc W base sp held f cs y} hd=>by
  obtain ⟨xs,m,_,_,hl,hxl,hel⟩:=DataW.trod_array ht hd
  rw [hct] at hl
  rw [hc] at hel
  have each:∀ i,i < n→∃ x:α,Enc.rep (hp W) ((cs.drop (i * s)).take s) x∧ok x:=fun i hi=>by
    have h1:=hel i hi
    rw [List.getElem?_eq_getElem (by omega)] at h1
    exact h h1
  obtain ⟨l,hll,hp'⟩:=Ja7 each
  refine ⟨⟨l,hll⟩,?_,fun x hx=>?_⟩
  · show Rows (hp W) cs l
    have:=Px (h:=hp W) (l:=(List.range n).attach.map fun i=>((cs.drop (i.1 * s)).take s,l[i.1]'(by have:=List.mem_range.1 i.2;omega))) (fun q hq=>by
      obtain ⟨i,_,rfl⟩:=List.mem_map.1 hq
      exact (hp' _ _).1)
    have e1:(((List.range n).attach.map fun i=>((cs.drop (i.1 * s)).take s,l[i.1]'(by have:=List.mem_range.1 i.2;omega))).flatMap (·.1))=cs:=by
      conv=>rhs;rw [Jb9 hl]
      rw [List.flatMap_map]
      rw [List.flatMap_def,List.flatMap_def]
      congr 1
      simp
    have e2:(((List.range n).attach.map fun i=>((cs.drop (i.1 * s)).take s,l[i.1]'(by have:=List.mem_range.1 i.2;omega))).map (·.2))=l:=by
      apply List.ext_getElem
      · simp [hll]
      · intro i h1 h2
        simp
    rw [e1,e2] at this
    exact this
  · obtain ⟨i, hi, rfl⟩ := List.getElem_of_mem hx
    exact (hp' i hi).2
theorem Ep {cs:List Value} {o s n:Nat} (h:o+s=n):cs.drop o=(cs.drop o).take s ++ cs.drop n:=by
  subst h
  rw [← List.drop_drop,List.take_append_drop]
theorem Tf {cs:List Value} {o s:Nat} (h:cs.length=o+s):(cs.drop o).take s=cs.drop o:=List.take_of_length_le (by rw [List.length_drop];omega)
end
section
variable {P:Program} {W:World} {t e:TypeId} {r:Reach} {b0 base:Nat} {v:Value} {H:Type} {enc:TypeId×Value→H} {d:DataW H} {ps:List MemPlace} {sp:Nat→Bool} {held:Bool} {α:Type} [Enc α] {ok:α→Prop}
theorem Uk {n:Nat} (ht:P.underlying t=some (.array n e)) (h:Value.okWide P W r base t v):∃ cs,v=.agg cs∧cs.size=P.cellsOf t:=by
  simp only [Value.okWide,ht] at h
  obtain ⟨cs,h1,h2,_⟩:=h
  exact ⟨cs,h1,h2⟩
theorem JbF {n:Nat} (ht:P.underlying t=some (.array n e)) (hval:Value.okWide P W r b0 t v) (hd:DataW.Trod enc P W base sp held t v d ps) (h:Op P t α ok):∃ (cs:List Value) (x:α),v=.agg cs.toArray∧Enc.rep (hp W) cs x∧ok x:=by
  obtain ⟨cs,rfl,_⟩:=Uk ht hval
  obtain ⟨fuel,hf⟩:=hd
  obtain ⟨x,h1,h2⟩:=h hf
  exact ⟨_,x,by simp [Value.cells],h1,h2⟩
theorem Yt {fs:Array Field} (ht:P.underlying t=some (.struct fs)) (hval:Value.okWide P W r b0 t v) (hd:DataW.Trod enc P W base sp held t v d ps) (h:Op P t α ok):∃ (cs:List Value) (x:α),v=.agg cs.toArray∧Enc.rep (hp W) cs x∧ok x:=by
  obtain ⟨cs,rfl,_⟩:=okWide_struct ht hval
  obtain ⟨fuel,hf⟩:=hd
  obtain ⟨x,h1,h2⟩:=h hf
  exact ⟨_,x,by simp [Value.cells],h1,h2⟩
theorem Jb6 (ht:P.underlying t=some (.slice e)) (hval:Value.okWide P W r b0 t v) (hd:DataW.Trod enc P W base sp held t v d ps) {ok:List α→Prop} (h:Op P t (List α) ok):∃ (oa:Option Addr) (cap:Nat) (xs:List α),v=.slice oa xs.length cap∧xs.length≤cap∧SR (hp W) oa xs∧ok xs:=by
  obtain ⟨oa,n,cap,rfl⟩:=okWide_slice ht hval
  obtain ⟨fuel,hf⟩:=hd
  obtain ⟨x,⟨oa',cap',h1,h2,h3⟩,h4⟩:=h hf
  refine ⟨oa',cap',x,?_,h2,h3,h4⟩
  simp [Value.cells] at h1
  obtain ⟨rfl,rfl,rfl⟩:=h1
  rfl
end
end Go.LM
namespace Go.Proofs
open Go.Shelf
def Tryz.laysM171_ren:Go.Shelf.Ren:=⟨fun | 171=>90 | 243=>102 | 246=>108 | 283=>113 | 284=>114 | 285=>115 | 286=>116 | 129=>118 | 317=>117 | 318=>119 | 319=>120 | 320=>121 | 337=>122 | 338=>123 | n=>n,fun | 3=>3 | 9=>9 | 2=>2 | 4=>4 | 171=>195 | 0=>0 | 53=>196 | 37=>199 | 5=>5 | 173=>200 | 212=>202 | 51=>203 | 20=>20 | 213=>204 | 46=>205 | 232=>208 | 233=>209 | n=>n,fun | 17=>0 | 18=>1 | 19=>2 | n=>n⟩
theorem Tryz.laysM171:Go.Proofs.LaysM.n171 Tryz.prog Tryz.laysM171_ren:={
  mixed:=by kernel_rfl
  f129:=Tryz.func118.trans (congrArg some (by kernel_rfl))
  f171:=Tryz.func90.trans (congrArg some (by kernel_rfl))
  f243:=Tryz.func102.trans (congrArg some (by kernel_rfl))
  f246:=Tryz.func108.trans (congrArg some (by kernel_rfl))
  f283:=Tryz.func113.trans (congrArg some (by kernel_rfl))
  f284:=Tryz.func114.trans (congrArg some (by kernel_rfl))
  f285:=Tryz.func115.trans (congrArg some (by kernel_rfl))
  f286:=Tryz.func116.trans (congrArg some (by kernel_rfl))
  f317:=Tryz.func117.trans (congrArg some (by kernel_rfl))
  f318:=Tryz.func119.trans (congrArg some (by kernel_rfl))
  f319:=Tryz.func120.trans (congrArg some (by kernel_rfl))
  f320:=Tryz.func121.trans (congrArg some (by kernel_rfl))
  f337:=Tryz.func122.trans (congrArg some (by kernel_rfl))
  f338:=Tryz.func123.trans (congrArg some (by kernel_rfl))
  t0:=Tryz.underlying0
  a0:=Tryz.isAgg0
  z0:=Tryz.sizeOf0
  v0:=Tryz.zeroValue0
  t2:=Tryz.underlying2
  a2:=Tryz.isAgg2
  z2:=Tryz.sizeOf2
  v2:=Tryz.zeroValue2
  t3:=Tryz.underlying3
  a3:=Tryz.isAgg3
  z3:=Tryz.sizeOf3
  v3:=Tryz.zeroValue3
  t4:=Tryz.underlying4
  a4:=Tryz.isAgg4
  z4:=Tryz.sizeOf4
  v4:=Tryz.zeroValue4
  t5:=Tryz.underlying5
  a5:=Tryz.isAgg5
  z5:=Tryz.sizeOf5
  v5:=Tryz.zeroValue5
  t9:=Tryz.underlying9
  a9:=Tryz.isAgg9
  z9:=Tryz.sizeOf9
  v9:=Tryz.zeroValue9
  t20:=Tryz.underlying20
  a20:=Tryz.isAgg20
  z20:=Tryz.sizeOf20
  v20:=Tryz.zeroValue20
  t37:=Tryz.underlying199
  a37:=Tryz.isAgg199
  z37:=Tryz.sizeOf199
  v37:=Tryz.zeroValue199
  t46:=Tryz.underlying205
  a46:=Tryz.isAgg205
  z46:=Tryz.sizeOf205
  v46:=Tryz.zeroValue205
  t51:=Tryz.underlying203
  a51:=Tryz.isAgg203
  z51:=Tryz.sizeOf203
  v51:=Tryz.zeroValue203
  t53:=Tryz.underlying196
  a53:=Tryz.isAgg196
  z53:=Tryz.sizeOf196
  v53:=Tryz.zeroValue196
  t171:=Tryz.underlying195
  a171:=Tryz.isAgg195
  z171:=Tryz.sizeOf195
  v171:=Tryz.zeroValue195
  t173:=Tryz.underlying200
  a173:=Tryz.isAgg200
  z173:=Tryz.sizeOf200
  v173:=Tryz.zeroValue200
  t212:=Tryz.underlying202
  a212:=Tryz.isAgg202
  z212:=Tryz.sizeOf202
  v212:=Tryz.zeroValue202
  t213:=Tryz.underlying204
  a213:=Tryz.isAgg204
  z213:=Tryz.sizeOf204
  t232:=Tryz.underlying208
  a232:=Tryz.isAgg208
  z232:=Tryz.sizeOf208
  v232:=Tryz.zeroValue208
  t233:=Tryz.underlying209
  a233:=Tryz.isAgg209
  z233:=Tryz.sizeOf209
  v233:=Tryz.zeroValue209
  g17:=by kernel_rfl
  g18:=by kernel_rfl
  g19:=by kernel_rfl
  i0:=by kernel_rfl
  i2:=by kernel_rfl
  i3:=by kernel_rfl
  i4:=by kernel_rfl
  i5:=by kernel_rfl
  i9:=by kernel_rfl
  i20:=by kernel_rfl
  i37:=by kernel_rfl
  i46:=by kernel_rfl
  i51:=by kernel_rfl
  i53:=by kernel_rfl
  i171:=by kernel_rfl
  i173:=by kernel_rfl
  i212:=by kernel_rfl
  i232:=by kernel_rfl
  i233:=by kernel_rfl
  m17:=by kernel_rfl
  m18:=by kernel_rfl
  m19:=by kernel_rfl }
open Go.RowKit Go.Sort Go.Lib in
theorem Tryz.strconv_Itoa (n : Int) (h0 : -9223372036854775808 ≤ n) (h1 : n ≤ 9223372036854775807) (w : World) (htab : Lib.TabIs Tryz.prog w "internal/strconv.uint64pow10" .u64 Lib.pow10Tab) :
    Calls Tryz.prog 90 #[.int .i64 n] w fun e w'=>e=.returned (.string ⟨(Lib.itoa n).toArray⟩)∧∃ k os,w'=grow (w.drewN k) os:=Any.strconv_Itoa Tryz.laysM171 n h0 h1 w htab
end Go.Proofs
