/- The lifter's library: how plain data lies in memory, and the operations of lifted functions. No condition: definitions and plain lemmas. -/
import Derived.Test.YtbblmeecfimnkaaGreatDoorMD
import Derived.Test.YtbblmeecfimnkaaGreatDoorLLh
import Derived.Test.YtbblmeecfimnkaaGreatDoorLLg
import Derived.Laws.Strings
set_option linter.unusedSectionVars false
namespace Go.LM
open Go Go.LL Go.MD
class Enc (α:Type) where
  sz:Nat
  rep:PH→List Value→α→Prop
  len:∀ {h:PH} {cs:List Value} {x:α},rep h cs x→cs.length=sz
  mono:∀ {h h':PH} {cs:List Value} {x:α},(∀ b o,h b=some o→h' b=some o)→rep h cs x→rep h' cs x
  one:∀ {h:PH} {cs:List Value} {x:α},rep h cs x→∀ v∈cs,v.oneCell'=true
theorem Yb {u:Value} (h:u.oneCell'=true):∀ v∈[u],v.oneCell'=true:=fun v hv=>by
  simp only [List.mem_cons,List.not_mem_nil,or_false] at hv;subst hv;exact h
abbrev Ag (s:Str):Value:=.string ⟨s.toArray⟩
instance:Enc Int:={ sz:=1,rep:=fun _ cs x=>cs=[.int .i64 x],len:=fun h=>by rw [h];rfl,mono:=fun _ h=>h,one:=fun h=>by subst h;exact Yb rfl }
instance:Enc Bool:={ sz:=1,rep:=fun _ cs x=>cs=[.bool x],len:=fun h=>by rw [h];rfl,mono:=fun _ h=>h,one:=fun h=>by subst h;exact Yb rfl }
instance:Enc (List UInt8):={ sz:=1,rep:=fun _ cs x=>cs=[Ag x],len:=fun h=>by rw [h];rfl,mono:=fun _ h=>h,one:=fun h=>by subst h;exact Yb rfl }
instance {k:IntKind}:Enc (IntK k):={ sz:=1,rep:=fun _ cs x=>cs=[.int k x.v],len:=fun h=>by rw [h];rfl,mono:=fun _ h=>h,one:=fun h=>by subst h;exact Yb rfl }
instance {α β:Type} [Enc α] [Enc β]:Enc (α×β):=
  { sz := Enc.sz α + Enc.sz β
    rep:=fun h cs x=>∃ c1 c2,cs=c1 ++ c2∧Enc.rep h c1 x.1∧Enc.rep h c2 x.2
    len:=fun ⟨c1,c2,e,h1,h2⟩=>by rw [e,List.length_append,Enc.len h1,Enc.len h2]
    mono:=fun hm ⟨c1,c2,e,h1,h2⟩=>⟨c1,c2,e,Enc.mono hm h1,Enc.mono hm h2⟩
    one:=fun ⟨c1,c2,e,h1,h2⟩ v hv=>by
      subst e
      rcases List.mem_append.1 hv with h | h
      · exact Enc.one h1 v h
      · exact Enc.one h2 v h }
@[reducible] def Enc.via {α β:Type} [Enc β] (n:Nat) (hn:Enc.sz β=n) (f:α→β):Enc α:=
  { sz:=n,rep:=fun h cs x=>Enc.rep h cs (f x),len:=fun h=>by rw [Enc.len h,hn],mono:=fun hm h=>Enc.mono hm h,one:=fun h=>Enc.one h }
inductive Rows {α:Type} [Enc α] (h:PH):List Value→List α→Prop
  | nil:Rows h [] []
  | cons {c vs:List Value} {x:α} {xs:List α} (hc:Enc.rep h c x) (hr:Rows h vs xs):Rows h (c ++ vs) (x :: xs)
section
variable {α:Type} [Enc α] {h h':PH} {vs us c:List Value} {xs ys zs:List α} {x:α}
theorem Rows.len (hr:Rows h vs xs):vs.length=xs.length * Enc.sz α:=by
  induction hr with
  | nil=>simp
  | cons hc _ ih=>rw [List.length_append,ih,Enc.len hc,List.length_cons,Nat.succ_mul,Nat.add_comm]
theorem Rows.mono (hm:∀ b o,h b=some o→h' b=some o) (hr:Rows h vs xs):Rows h' vs xs:=by
  induction hr with
  | nil=>exact .nil
  | cons hc _ ih=>exact .cons (Enc.mono hm hc) ih
theorem Rows.one (hr:Rows h vs xs):∀ v∈vs,v.oneCell'=true:=by
  induction hr with
  | nil=>intro v hv;cases hv
  | cons hc _ ih =>
    intro v hv
    rcases List.mem_append.1 hv with h | h
    · exact Enc.one hc v h
    · exact ih v h
theorem Rows.app (hr:Rows h vs xs) (hs:Rows h us ys):Rows h (vs ++ us) (xs ++ ys):=by
  induction hr with
  | nil=>exact hs
  | cons hc _ ih=>rw [List.append_assoc];exact .cons hc ih
theorem Rows.get (hr:Rows h vs xs):∀ {k:Nat} {x:α},xs[k]? = some x→∃ c,Enc.rep h c x∧∀ (j:Nat) (v:Value),c[j]? = some v→vs[k * Enc.sz α+j]? = some v:=by
  induction hr with
  | nil=>intro k x hx;simp at hx
  | cons hc hr ih =>
    rename_i c vs y xs
    intro k x hx
    cases k with
    | zero =>
      simp only [List.getElem?_cons_zero,Option.some.injEq] at hx
      subst hx
      refine ⟨c,hc,fun j v hj=>?_⟩
      rw [Nat.zero_mul,Nat.zero_add,List.getElem?_append_left (List.getElem?_eq_some_iff.1 hj).1]
      exact hj
    | succ k =>
      rw [List.getElem?_cons_succ] at hx
      obtain ⟨c',h1,h2⟩:=ih hx
      refine ⟨c',h1,fun j v hj=>?_⟩
      rw [List.getElem?_append_right (by rw [Enc.len hc,Nat.succ_mul];omega),Enc.len hc,show (k+1) * Enc.sz α+j - Enc.sz α=k * Enc.sz α+j by rw [Nat.succ_mul];omega]
      exact h2 j v hj
theorem Rows.take (hr:Rows h vs xs):∀ (k:Nat),Rows h (vs.take (k * Enc.sz α)) (xs.take k):=by
  induction hr with
  | nil=>intro k;simp;exact .nil
  | cons hc hr ih =>
    intro k
    cases k with
    | zero=>simp;exact .nil
    | succ k =>
      rw [List.take_succ_cons,List.take_append,Enc.len hc,Nat.succ_mul,List.take_of_length_le (by rw [Enc.len hc];omega),Nat.add_sub_cancel]
      exact .cons hc (ih k)
theorem Rows.drop (hr:Rows h vs xs):∀ (k:Nat),Rows h (vs.drop (k * Enc.sz α)) (xs.drop k):=by
  induction hr with
  | nil=>intro k;simp;exact .nil
  | cons hc hr ih =>
    intro k
    cases k with
    | zero=>simp;exact .cons hc hr
    | succ k =>
      rw [List.drop_succ_cons,List.drop_append,Enc.len hc,Nat.succ_mul,List.drop_of_length_le (by rw [Enc.len hc];omega),Nat.add_sub_cancel,List.nil_append]
      exact ih k
theorem Rows.ne (hr:Rows h vs xs) (hs:0 < Enc.sz α) (hx:xs≠[]):vs≠[]:=by
  intro e
  have:=hr.len
  rw [e] at this
  have h1:0 < xs.length:=List.length_pos_iff.2 hx
  have:0 < xs.length * Enc.sz α:=Nat.mul_pos h1 hs
  simp at *
  omega
theorem Rows.put (hr:Rows h vs xs) (hc:Enc.rep h c x) {k:Nat} (hk:k < xs.length):Rows h (vs.take (k * Enc.sz α) ++ (c ++ vs.drop (k * Enc.sz α+Enc.sz α))) (xs.set k x):=by
  have e:xs.set k x=xs.take k ++ (x :: xs.drop (k+1)):=by rw [List.set_eq_take_append_cons_drop,if_pos hk]
  rw [e,show k * Enc.sz α+Enc.sz α=(k+1) * Enc.sz α by rw [Nat.succ_mul]]
  exact (hr.take k).app (.cons hc (hr.drop (k+1)))
theorem Rows.rep {v:Value} (hc:Enc.rep h [v] x):∀ n:Nat,Rows h (List.replicate n v) (List.replicate n x)
  | 0=>.nil
  | n+1=>by rw [List.replicate_succ,List.replicate_succ];exact .cons hc (Rows.rep hc n)
end
def SR {α:Type} [Enc α] (h:PH) (oa:Option Addr) (xs:List α):Prop:=∃ vs,Rd h oa vs∧Rows h vs xs
instance {α:Type} [Enc α]:Enc (List α):=
  { sz := 1
    rep:=fun h cs xs=>∃ oa cap,cs=[.slice oa xs.length cap]∧xs.length≤cap∧SR h oa xs
    len:=fun ⟨_,_,e,_⟩=>by rw [e];rfl
    mono:=fun hm ⟨oa,cap,e,h1,vs,h2,h3⟩=>⟨oa,cap,e,h1,vs,h2.mono hm,h3.mono hm⟩
    one:=fun ⟨_,_,e,_⟩=>by subst e;exact Yb rfl }
instance {α:Type} {n:Nat} [Enc α]:Enc (Arr n α):=
  { sz:=n * Enc.sz α,rep:=fun h cs a=>Rows h cs a.l,len:=fun {_ _ a} hr=>by rw [hr.len,a.h],mono:=fun hm hr=>hr.mono hm,one:=fun hr=>hr.one }
section
variable {α:Type} [Enc α] {h h':PH} {oa:Option Addr} {xs ys:List α} {x:α} {i:Int}
theorem SR.nil (h:PH) (oa:Option Addr):SR h oa ([]:List α):=⟨[],Rd.nil _ _,.nil⟩
theorem SR.mono (hr:SR h oa xs) (hm:∀ b o,h b=some o→h' b=some o):SR h' oa xs:=by
  obtain ⟨vs,h1,h2⟩:=hr;exact ⟨vs,h1.mono hm,h2.mono hm⟩
theorem SR.get (hr:SR h oa xs) (hg:getI xs i=some x):∃ c,Enc.rep h c x∧∀ (j:Nat) (v:Value),c[j]? = some v→h.cell? ⟨(adr oa).block,(adr oa).off+i.toNat * Enc.sz α+j,none⟩=some v:=by
  obtain ⟨vs,h1,h2⟩:=hr
  obtain ⟨c,h3,h4⟩:=h2.get (Fx hg).2
  refine ⟨c,h3,fun j v hj=>?_⟩
  rw [Nat.add_assoc]
  exact h1.cell _ _ (h4 j v hj)
theorem Rd.oaI {vs:List Value} (hr:Rd h oa vs) (h2:Rows h' vs xs) (hs:0 < Enc.sz α) (hg:getI xs i=some x):oa=some ⟨(adr oa).block,(adr oa).off,none⟩:=
  hr.some (h2.ne hs (fun e=>by have:=(Kd hg).2;rw [e] at this;simp at this))
theorem SR.oaI (hr:SR h oa xs) (hs:0 < Enc.sz α) (hg:getI xs i=some x):oa=some ⟨(adr oa).block,(adr oa).off,none⟩:=by
  obtain ⟨vs,h1,h2⟩:=hr;exact Rd.oaI h1 h2 hs hg
theorem Rows.getI {vs:List Value} (hr:Rows h vs xs) (hg:getI xs i=some x):∃ c,Enc.rep h c x∧∀ (j:Nat) (v:Value),c[j]? = some v→vs[i.toNat * Enc.sz α+j]? = some v:=hr.get (Fx hg).2
def Xb (oa:Option Addr) (cap l sz:Nat):Option Addr:=if cap=l then oa else oa.map (·.add (l * sz))
theorem SR.sub {lo hi:Int} {cap sz:Nat} (hr:SR h oa xs) (hc:xs.length≤cap) (hz:Enc.sz α=sz) (hg:Dc xs lo hi=some ys):∃ oa' cap',Xb oa cap lo.toNat sz=oa'∧cap - lo.toNat=cap'∧ys.length≤cap'∧SR h oa' ys:=by
  obtain ⟨h0,h1,h2,rfl⟩:=Kq hg
  refine ⟨_,_,rfl,rfl,by simp;omega,?_⟩
  subst hz
  unfold Xb
  by_cases e:cap=lo.toNat
  · rw [if_pos e]
    have:(xs.take hi.toNat).drop lo.toNat=[]:=List.drop_eq_nil_of_le (by simp;omega)
    rw [this];exact .nil _ _
  · rw [if_neg e]
    obtain ⟨vs,h3,h4⟩:=hr
    refine ⟨_,⟨fun hne=>?_,fun j v hj=>?_⟩,(h4.take hi.toNat).drop lo.toNat⟩
    · have hne' : vs ≠ [] := fun e => hne (by rw [e]; simp)
      rw [h3.some hne']
      simp only [Option.map_some,Df,adr,Option.getD_some]
    · have hj2:vs[lo.toNat * Enc.sz α+j]? = some v:=by
        rw [List.getElem?_drop,List.getElem?_take] at hj
        split at hj
        · exact hj
        · cases hj
      have hne':vs≠[]:=fun e=>by rw [e] at hj2;simp at hj2
      have h5:=h3.cell _ _ hj2
      rw [h3.some hne']
      simp only [Option.map_some,Df,adr,Option.getD_some]
      rw [Nat.add_assoc]
      exact h5
end
structure Ext (w0:World) (H H':PH):Prop where
  sub:∀ b o,H b=some o→H' b=some o
  new:∀ b,H' b≠none→H b≠none∨w0.heap.size≤b
theorem Ext.refl (w0:World) (H:PH):Ext w0 H H:=⟨fun _ _ h=>h,fun _ h=>.inl h⟩
theorem Ext.trans {w0:World} {H H' H'':PH} (h:Ext w0 H H') (k:Ext w0 H' H''):Ext w0 H H'':=⟨fun b o hb=>k.sub b o (h.sub b o hb),fun b hb=>by
  rcases k.new b hb with h1 | h1
  · exact h.new b h1
  · exact .inr h1⟩
theorem Ext.lift {w0 w:World} {H H':PH} (h:Ext w H H') (hw:w0.heap.size≤w.heap.size):Ext w0 H H':=⟨h.sub,fun b hb=>(h.new b hb).imp id (fun h=>Nat.le_trans hw h)⟩
section
variable {w0 w w':World} {M:Nat→Prop} {H H':PH} {L L':List HA}
theorem Lds.le (hl:Lds [H] L w):H.le w:=hl.hs _ (.head _)
theorem St.le (hS:St w0 M [H] L w):H.le w:=hS.hs _ (.head _)
theorem St.up (hS:St w0 M [H] L w):∀ b o,H b=some o→hp w b=some o:=fun b o h=>St.le hS b o h
theorem St.extc (hS:St w0 M [H] L w) (h:Ext w H H'):Ext w0 H H':=h.lift hS.keep.size
theorem St.passH (hS:St w0 M [H] L w) (hk:Keep Nil w w') (he:Ext w H H') (hl:H'.le w'):St w0 M [H'] L w':=by
  have h1:=hS.pass hk
  refine ⟨h1.keep,fun h hh=>by simp only [List.mem_cons,List.not_mem_nil,or_false] at hh;subst hh;exact hl,h1.ok,fun A hA b hb=>⟨(h1.own A hA b hb).1,fun h hh=>?_⟩,h1.disj⟩
  simp only [List.mem_cons,List.not_mem_nil,or_false] at hh;subst hh
  cases hx:h b with
  | none=>rfl
  | some o =>
    rcases he.new b (by rw [hx];simp) with h2 | h2
    · exact absurd ((hS.own A hA b hb).2 H (.head _)) h2
    · have:=hS.fpLt hA hb;omega
theorem St.frz (hS:St w0 Nil [H] L w) {A:HA} (hp':Pick A L L'):∃ H':PH,A.ok H'∧Ext w0 H H'∧St w0 Nil [H'] L' w:=by
  classical
  have hA:=hp'.mem
  have hnone:∀ b,A.fp b→H b=none:=fun b hb=>(hS.own A hA b hb).2 H (.head _)
  refine ⟨fun b=>if A.fp b then w.heap[b]? else H b,?_,⟨fun b o hb=>?_,fun b hb=>?_⟩,?_⟩
  · exact A.loc _ _ (fun b hb=>by simp [hb,hp]) (hS.ok A hA)
  · have : ¬ A.fp b := fun h => by rw [hnone b h] at hb; cases hb
    simp [this,hb]
  · by_cases h : A.fp b
    · exact .inr (((hS.own A hA b h).1).resolve_right id)
    · simp [h] at hb;exact .inl hb
  · have h1 := hS.drop hp'
    refine ⟨h1.keep,fun h hh=>?_,h1.ok,fun B hB b hb=>⟨(h1.own B hB b hb).1,fun h hh=>?_⟩,h1.disj⟩
    · simp only [List.mem_cons, List.not_mem_nil, or_false] at hh; subst hh
      intro b o hb
      by_cases h:A.fp b
      · simpa [h] using hb
      · simp [h] at hb;exact St.le hS b o hb
    · simp only [List.mem_cons, List.not_mem_nil, or_false] at hh; subst hh
      have:=(hp'.pairwise hS.disj).2 B hB
      simp [show ¬ A.fp b from fun hA=>this b hA hb]
      exact (h1.own B hB b hb).2 H (.head _)
theorem SlOk.capLe {e:TypeId} {sz:Nat} {oa:Option Addr} {n cap:Nat} {xs:List Value} {h:PH} (ho:SlOk e sz (.slice oa n cap) n xs h):n≤cap:=by
  obtain ⟨_,hn | ⟨g,cap',cur,hv,_,hnc,_⟩⟩:=ho
  · obtain ⟨hv,h0⟩:=hn;omega
  · simp only [Value.slice.injEq] at hv;obtain ⟨_,_,rfl⟩:=hv;exact hnc
theorem St.frzS {α:Type} [Enc α] (hS:St w0 Nil [H] L w) {e:TypeId} {sz n cap:Nat} {oa:Option Addr} {vs:List Value} {xs:List α} (hp':Pick (sla e sz oa n cap vs) L L') (hv:Rows H vs xs) :
    ∃ H':PH,Ext w0 H H'∧SR H' oa xs∧n≤cap∧St w0 Nil [H'] L' w:=by
  obtain ⟨H',h1,h2,h3⟩:=St.frz hS hp'
  exact ⟨H',h2,⟨vs,SlOk.rd h1,hv.mono h2.sub⟩,SlOk.capLe h1,h3⟩
theorem St.capO (hS:St w0 M [H] L w) {e:TypeId} {sz n cap:Nat} {oa:Option Addr} {vs:List Value} (hm:sla e sz oa n cap vs∈L):n≤cap:=SlOk.capLe (show SlOk e sz (.slice oa n cap) n vs _ from hS.ok _ hm)
theorem St.srO {α:Type} [Enc α] (hS:St w0 M [H] L w) {e:TypeId} {sz n cap:Nat} {oa:Option Addr} {vs:List Value} {xs:List α} (hm:sla e sz oa n cap vs∈L) (hv:Rows H vs xs):SR (hp w) oa xs:=⟨vs,hS.rdO hm,hv.mono (St.up hS)⟩
theorem St.srH {α:Type} [Enc α] (hS:St w0 M [H] L w) {oa:Option Addr} {xs:List α} (hr:SR H oa xs):SR (hp w) oa xs:=hr.mono (St.up hS)
theorem St.blkO (hS:St w0 M [H] L w) {b:Nat} {o:Obj} (hm:blk b o∈L):hp w b=some o:=hS.ok _ hm
end
section
variable {P:Program} {N:FN} {F:List (Nat×Value)} {a:Act} {w:World} {d:Option Tmp} {ty:TypeId} {pos:String} {af:Array Edge} {g:Option (Nat×Bool)}
theorem Ax {o:Oper} {v v':Value} (h:(execOp a.eval o).run P w=.ok (.value v) w) (e:v=v'):(execOp a.eval o).run P w=.ok (.value v') w:=e ▸ h
theorem Al {α:Type} {x y:Operand} {t e:TypeId} {k:IntKind} {j:Int} {sz c:Nat} {oa:Option Addr} {xs:List α} {z:α}
    (hF:Fr N F a) (hu:∀ w,(underlying t).run P w=.ok (.slice e) w) (hz:∀ w,(sizeOf e).run P w=.ok sz w)
    (hx:opv F x=some (.slice oa xs.length c)) (hy:opv F y=some (.int k j)) (hg:getI xs j=some z) (hoa:oa=some ⟨(adr oa).block,(adr oa).off,none⟩) :
    (execOp a.eval ⟨d,.indexAddr t x y,ty,pos,af,g⟩).run P w=.ok (.value (.pointer (some ⟨(adr oa).block,(adr oa).off+j.toNat * sz,none⟩))) w:=
  Wv hF hu hz hx hy (by have:=(Kd hg).1;omega) (Kd hg).2 hoa
theorem Aj {α:Type} (hF:Fr N F a) {x:Operand} {t e:TypeId} {oa:Option Addr} {xs:List α} {c:Nat} (hu:∀ w,(underlying t).run P w=.ok (.slice e) w) (hx:opv F x=some (.slice oa xs.length c)) :
    (execOp a.eval ⟨d,.call ⟨.builtin .len,#[x],#[t]⟩,ty,pos,af,g⟩).run P w=.ok (.value (.int .i64 (xs.length:Int))) w:=Jag hF hu hx
theorem Cu (hF:Fr N F a) {x:Operand} {t:TypeId} {s:Str} (hu:∀ w,(underlying t).run P w=.ok .string w) (hx:opv F x=some (Ag s)) :
    (execOp a.eval ⟨d,.call ⟨.builtin .len,#[x],#[t]⟩,ty,pos,af,g⟩).run P w=.ok (.value (.int .i64 (s.length:Int))) w:=Jb1 hF hu hx
theorem Gz (s:Str):(⟨s.toArray⟩:ByteArray).toList=s:=by rw [ByteArray.toList_eq]
theorem Je (hF:Fr N F a) {x y:Operand} {t u:TypeId} {m n:Str} (hx:opv F x=some (Ag m)) (hy:opv F y=some (Ag n)) :
    (execOp a.eval ⟨d,.binOp .eql t x y u,ty,pos,af,g⟩).run P w=.ok (.value (.bool (decide (m=n)))) w:=by
  rw [JbI hF hx hy,Gz,Gz]
  congr 2
  by_cases e:m=n <;> simp [e]
theorem E9 (hF:Fr N F a) {x y:Operand} {t u:TypeId} {m n:Str} (hx:opv F x=some (Ag m)) (hy:opv F y=some (Ag n)) :
    (execOp a.eval ⟨d,.binOp .neq t x y u,ty,pos,af,g⟩).run P w=.ok (.value (.bool (decide (m≠n)))) w:=by
  rw [Jcd hF hx hy,Gz,Gz]
  congr 2
  by_cases e:m=n <;> simp [e]
theorem Bi (hF:Fr N F a) {x y:Operand} {t u:TypeId} {m n r:Str} (hx:opv F x=some (Ag m)) (hy:opv F y=some (Ag n)) (hg:Cw m n=some r) :
    (execOp a.eval ⟨d,.binOp .add t x y u,ty,pos,af,g⟩).run P w=.ok (.value (Ag r)) w:=by
  obtain ⟨h1,rfl⟩:=Uy hg
  have hs1:(⟨m.toArray⟩:ByteArray).size=m.length:=rfl
  have hs2:(⟨n.toArray⟩:ByteArray).size=n.length:=rfl
  have hle : ¬ (IntKind.i64.max < ((m.length+n.length:Nat):Int)):=by
    have:IntKind.i64.max=9223372036854775807:=by decide
    omega
  have happ:(⟨m.toArray⟩:ByteArray) ++ ⟨n.toArray⟩=⟨(m ++ n).toArray⟩:=by
    apply ByteArray.ext
    simp
  have hst:(Op.stringOp .add ⟨m.toArray⟩ ⟨n.toArray⟩).run P w=.ok (Ag (m ++ n)) w:=by
    unfold Op.stringOp
    simp only [hs1,hs2]
    rw [if_neg hle,happ]
    rfl
  simp [execOp,hF.ev hx,hF.ev hy,eqGuard,binOp,Ag,hst]
theorem Jcc (hF:Fr N F a) {x y:Operand} {t u:TypeId} {k:IntKind} {m n r:Int} (hx:opv F x=some (.int k m)) (hy:opv F y=some (.int k n)) (hg:Xj m n=some r) :
    (execOp a.eval ⟨d,.binOp .rem t x y u,ty,pos,af,g⟩).run P w=.ok (.value (.int k r)) w:=by
  unfold Xj at hg
  split at hg
  · cases hg
  · rename_i hn;cases hg;exact Uc hF hx hy hn
theorem Jb0 (hF:Fr N F a) {x y:Operand} {t u:TypeId} {k yk:IntKind} {m n r:Int} (hx:opv F x=some (.int k m)) (hy:opv F y=some (.int yk n)) (hg:Jai k m n=some r) :
    (execOp a.eval ⟨d,.binOp .shl t x y u,ty,pos,af,g⟩).run P w=.ok (.value (.int k r)) w:=by
  unfold Jai at hg
  split at hg
  · cases hg
  · rename_i hn;cases hg;exact Jc1 hF hx hy (by omega)
theorem JbD (hF:Fr N F a) {x y:Operand} {t u:TypeId} {k yk:IntKind} {m n r:Int} (hx:opv F x=some (.int k m)) (hy:opv F y=some (.int yk n)) (hg:Yl k m n=some r) :
    (execOp a.eval ⟨d,.binOp .shr t x y u,ty,pos,af,g⟩).run P w=.ok (.value (.int k r)) w:=by
  unfold Yl at hg
  split at hg
  · cases hg
  · rename_i hn;cases hg;exact Jdb hF hx hy (by omega)
theorem JbL (hF:Fr N F a) {x y:Operand} {t u:TypeId} {k:IntKind} {m n:Int} (hx:opv F x=some (.int k m)) (hy:opv F y=some (.int k n)) :
    (execOp a.eval ⟨d,.binOp .and t x y u,ty,pos,af,g⟩).run P w=.ok (.value (.int k (Sp k m n))) w:=by
  simp [execOp,hF.ev hx,hF.ev hy,eqGuard,binOp,Op.intBits,Sp]
theorem Nv (hF:Fr N F a) {x:Operand} {s t:TypeId} {sd:TypeDesc} {k k':IntKind} {n:Int} (hs:∀ w,(underlying s).run P w=.ok sd w) (hu:∀ w,(underlying t).run P w=.ok (.int k) w) (hx:opv F x=some (.int k' n)) :
    (execOp a.eval ⟨d,.convert s t x,ty,pos,af,g⟩).run P w=.ok (.value (.int k (k.wrap n))) w:=by
  cases sd <;> simp [execOp,hF.ev hx,convert,hs,hu,Conv.intToInt]
theorem Pv (hF:Fr N F a) {fn:Fn} {l:List Operand} {vs:List Value} (hargs:Lo F l vs) :
    (execOp a.eval ⟨d,.makeFunc fn #[] l.toArray,ty,pos,af,g⟩).run P w=.ok (.value (.func fn #[] vs.toArray)) w:=by
  simp [execOp,Instr.makeFunc,Ex hF hargs]
theorem Jk (hF:Fr N F a) {x y:Operand} {t:TypeId} {k:IntKind} {s:Str} {i r:Int} (hu:∀ w,(underlying t).run P w=.ok .string w) (hx:opv F x=some (Ag s)) (hy:opv F y=some (.int k i)) (hg:Hw s i=some r) :
    (execOp a.eval ⟨d,.index t x y,ty,pos,af,g⟩).run P w=.ok (.value (.int .u8 r)) w:=by
  obtain ⟨b,h1,rfl⟩:=S9 hg
  have h2:=Fx h1
  have hlt:i.toNat < s.length:=(Kd h1).2
  have h3:(⟨s.toArray⟩:ByteArray)[i.toNat]? = some b:=by
    have:i.toNat < (⟨s.toArray⟩:ByteArray).size:=hlt
    rw [getElem?_pos (⟨s.toArray⟩:ByteArray) i.toNat this]
    congr 1
    have h4:=(List.getElem?_eq_some_iff.1 h2.2).2
    show s.toArray[i.toNat]'hlt=b
    simpa using h4
  have h4:(Instr.index t (Ag s) (.int k i)).run P w=.ok (.int .u8 b.toNat) w:=by
    simp only [Instr.index,asIntOf,Ag,Sem.run_bind,Sem.run_pure,Result.andThen_ok,hu,if_pos h2.1,h3]
  simp [execOp,hF.ev hx,hF.ev hy,h4]
theorem Dn {α:Type} (hF:Fr N F a) {x:Operand} {lo hi:Option Operand} {t e:TypeId} {sz c cap':Nat} {oa oa':Option Addr} {vl vh:Int} {xs ys:List α}
    (hu:∀ w,(underlying t).run P w=.ok (.slice e) w) (hz:∀ w,(sizeOf e).run P w=.ok sz w)
    (hx:opv F x=some (.slice oa xs.length c)) (hc:xs.length≤c)
    (hlo:match lo with | some o=>opv F o=some (.int .i64 vl) | none=>vl=0)
    (hhi:match hi with | some o=>opv F o=some (.int .i64 vh) | none=>vh=(xs.length:Int))
    (hg:Dc xs vl vh=some ys) (ho:Xb oa c vl.toNat sz=oa') (hc':c - vl.toNat=cap') :
    (execOp a.eval ⟨d,.slice t x lo hi none,ty,pos,af,g⟩).run P w=.ok (.value (.slice oa' ys.length cap')) w:=by
  obtain ⟨h0,h1,h2,rfl⟩:=Kq hg
  have:=Jd6 (P:=P) (w:=w) (d:=d) (ty:=ty) (pos:=pos) (af:=af) (g:=g) hF (lo:=lo) (hi:=hi) (l:=vl.toNat) (h:=vh.toNat) (vl:=vl) (vh:=vh) hu hz hx
    (by cases lo with | none=>subst hlo;rfl | some o=>exact ⟨hlo,by omega⟩) (by cases hi with | none=>subst hhi;simp | some o=>exact ⟨hhi,by omega⟩) (by omega) (by omega)
  rw [this,← ho,← hc']
  have e1:((xs.take vh.toNat).drop vl.toNat).length=vh.toNat - vl.toNat:=by simp;omega
  rw [e1];rfl
theorem Jj (hF:Fr N F a) {x:Operand} {lo hi:Option Operand} {t:TypeId} {vl vh:Int} {s r:Str}
    (hu:∀ w,(underlying t).run P w=.ok .string w) (hx:opv F x=some (Ag s))
    (hlo:match lo with | some o=>opv F o=some (.int .i64 vl) | none=>vl=0)
    (hhi:match hi with | some o=>opv F o=some (.int .i64 vh) | none=>vh=(s.length:Int))
    (hg:Dc s vl vh=some r) :
    (execOp a.eval ⟨d,.slice t x lo hi none,ty,pos,af,g⟩).run P w=.ok (.value (Ag r)) w:=by
  obtain ⟨h0,h1,h2,rfl⟩:=Kq hg
  have hs:(⟨s.toArray⟩:ByteArray).size=s.length:=rfl
  have hex:(⟨s.toArray⟩:ByteArray).extract vl.toNat vh.toNat=⟨((s.take vh.toNat).drop vl.toNat).toArray⟩:=by
    apply ByteArray.ext
    rw [ByteArray.data_extract]
    apply Array.ext'
    simp [List.drop_take]
  have hsl:(Instr.sliceAt t (Ag s) (lo.map a.eval) (hi.map a.eval) none).run P w=.ok (Ag ((s.take vh.toNat).drop vl.toNat)) w:=by
    cases lo with
    | none =>
      subst hlo
      cases hi with
      | none=>subst hhi;simp only [Int.toNat_zero,Int.toNat_natCast] at hex;simp [Instr.sliceAt,hu,Instr.slice,Instr.sliceBounds,Ag,hs,hex]
      | some o=>simp only [Int.toNat_zero] at hex;simp [Instr.sliceAt,hu,Instr.slice,Instr.sliceBounds,Ag,hF.ev hhi,Instr.sliceBound,asIntOf,hs,h2,show (0:Int)≤vh by omega,hex]
    | some o' =>
      cases hi with
      | none=>subst hhi;simp only [Int.toNat_natCast] at hex;simp [Instr.sliceAt,hu,Instr.slice,Instr.sliceBounds,Ag,hF.ev hlo,Instr.sliceBound,asIntOf,hs,h0,h1,hex]
      | some o=>simp [Instr.sliceAt,hu,Instr.slice,Instr.sliceBounds,Ag,hF.ev hlo,hF.ev hhi,Instr.sliceBound,asIntOf,hs,h0,h2,show (0:Int)≤vh by omega,show vl≤((vh.toNat:Nat):Int) by omega,show ¬ (max vh 0 < vl) by omega,hex]
  simp only [Option.map] at hsl
  simp [execOp,hF.ev hx,hsl,Option.map]
end
section
variable {P:Program} {ops:Array Oper} {Q:Exit→Act→World→Prop} {a:Act} {w:World} {N:FN} {F:List (Nat×Value)}
  {w0:World} {M:Nat→Prop} {H:PH} {L L':List HA} {K:Act→World→Prop}
  {d:Nat} {ty:TypeId} {pos:String} {af:Array Edge}
theorem Bv {α:Type} [Enc α] {t e:TypeId} {z:Value} {sz bytes:Nat} {x y:Operand} {oa ob:Option Addr} {cap c:Nat} {xs ys zs:List α} {vs us:List Value}
    (hF:Fr N F a) (hN:Nat.blt d N.n=true) (hS:St w0 M [H] L w)
    (ht:P.underlying t=some (.slice e)) (hinfo:(P.info? e).map (fun i=>(i.zero,i.size,i.bytes))=some (some z,sz,bytes)) (hzs:z.cells.size=sz) (hsz:0 < sz) (hz:Enc.sz α=sz)
    (hx:opv F x=some (.slice oa xs.length cap)) (hy:opv F y=some (.slice ob ys.length c)) (hmem:sla e sz oa xs.length cap vs∈L) (hv:Rows H vs xs)
    (hrd:Rd (hp w) ob us) (hu:Rows H us ys) (hg:B9 bytes xs ys=some zs)
    (k:∀ oa' cap' vs' w a,Rows H vs' zs→(∀ L',Repl (sla e sz oa xs.length cap vs) (sla e sz oa' zs.length cap' vs') L L'→St w0 M [H] L' w)→Fr N ((d,.slice oa' zs.length cap') :: F) a→K a w) :
    stp P ops Q ⟨some d,.call ⟨.builtin .append,#[x,y],#[t,t]⟩,ty,pos,af,none⟩ a w K:=by
  obtain ⟨h1,h2,rfl⟩:=U9 hg
  refine apI hF hN hS ht hinfo hzs hsz hx hy hmem (by rw [hu.len,hz]) hrd hu.one h1 (by unfold maxLen;omega) fun oa' cap' w a hU hF=>?_
  rw [← List.length_append] at hU hF
  exact k oa' cap' (vs ++ us) w a (hv.app hu) hU hF
theorem Vl {f:FuncId} {caps:Array Value} {x:Operand} {l:List Operand} {vs:List Value} {at_:Array TypeId} {d:Option Tmp} {g:Option (Nat×Bool)}
    (hx:a.eval x=.func (.func f) #[] caps) (hargs:l.map a.eval=vs) (hen:(callFunc f (vs.toArray ++ caps)).run P w=.ok (.enter f (vs.toArray ++ caps)) w) :
    (execOp a.eval ⟨d,.call ⟨.value x,l.toArray,at_⟩,ty,pos,af,g⟩).run P w=.ok (.enter f (vs.toArray ++ caps)) w:=by
  have e:(Array.map a.eval l.toArray)=vs.toArray:=by rw [List.map_toArray,hargs]
  simp [execOp,resolve,invoke,Deferred.ofValue,hx,hargs,hen]
theorem k1 {f:FuncId} {caps:List Value} {x:Operand} {l:List Operand} {vs us:List Value} {at_:Array TypeId} {R:Value→World→Prop}
    (hF:Fr N F a) (hN:Nat.blt d N.n=true) (hx:opv F x=some (.func (.func f) #[] caps.toArray)) (hen:∀ (x:Array Value) (w:World),(callFunc f x).run P w=.ok (.enter f x) w) (hc:Tot P f us.toArray w R) (hargs:Lo F l vs) (hus:vs ++ caps=us)
    (k:∀ v w' a,R v w'→Fr N ((d,v) :: F) a→K a w'):stp P ops Q ⟨some d,.call ⟨.value x,l.toArray,at_⟩,ty,pos,af,none⟩ a w K:=by
  refine Do rfl ?_
  unfold Oper.wp
  have e1:vs.toArray ++ caps.toArray=us.toArray:=by rw [← hus];simp
  rw [Vl (hF.ev hx) (Ex hF hargs) (hen _ _),e1]
  refine Calls.mono hc ?_
  rintro e w' ⟨v,rfl,hR⟩
  exact k v w' _ hR (hF.put (by simpa [Nat.blt_eq] using hN) v)
end
class EncF (α:Type) extends Enc α where
  ind:∀ {h h':PH} {cs:List Value} {x:α},rep h cs x→rep h' cs x
instance:EncF Int:={ ind:=fun h=>h }
instance:EncF Bool:={ ind:=fun h=>h }
instance:EncF (List UInt8):={ ind:=fun h=>h }
instance {k:IntKind}:EncF (IntK k):={ ind:=fun h=>h }
instance {α β:Type} [EncF α] [EncF β]:EncF (α×β):={ ind:=fun ⟨c1,c2,e,h1,h2⟩=>⟨c1,c2,e,EncF.ind h1,EncF.ind h2⟩ }
theorem Rows.ind {α:Type} [EncF α] {h h':PH} {vs:List Value} {xs:List α} (hr:Rows h vs xs):Rows h' vs xs:=by
  induction hr with
  | nil=>exact .nil
  | cons hc _ ih=>exact .cons (EncF.ind hc) ih
section
variable {P:Program} {ops:Array Oper} {Q:Exit→Act→World→Prop} {a:Act} {w:World} {N:FN} {F:List (Nat×Value)}
  {w0:World} {M:Nat→Prop} {H H0:PH} {L L':List HA} {K:Act→World→Prop}
  {ty:TypeId} {pos:String} {af:Array Edge}
theorem ctv {ro:Option Nat} {c:Operand} {x y:Code} {b:Bool} (hF:Fr N F a) (hc:opv F c=some (.bool b)) (hb:b=true) (h:wq ro P x Q a w):wq ro P (Code.cond c x y) Q a w:=ct hF (by rw [hc,hb]) h
theorem cfv {ro:Option Nat} {c:Operand} {x y:Code} {b:Bool} (hF:Fr N F a) (hc:opv F c=some (.bool b)) (hb:b=false) (h:wq ro P y Q a w):wq ro P (Code.cond c x y) Q a w:=cf hF (by rw [hc,hb]) h
theorem Av {ro:Option Nat} {x:Code} {K:Act→World→Prop} (R:Act→World→Prop) (h1:wq ro P x (Exit.then R Q) a w) (h2:∀ a w,R a w→K a w):wq ro P x (Exit.then K Q) a w:=
  wpIn_mono h1 fun e a w h=>by cases e <;> first | exact h2 _ _ h | exact h
theorem St.ldsX (hS:St w0 M [H] L w) (hs:∀ b o,H0 b=some o→H b=some o) (hL:∀ A∈L',A∈L):Lds [H0] L' w:=
  ⟨fun x hx=>by simp only [List.mem_cons,List.not_mem_nil,or_false] at hx;subst hx;exact fun b o h=>St.le hS b o (hs b o h),fun A hA=>hS.ok A (hL A hA)⟩
theorem Jb4 {b:Nat} {vs:List Value} {e:TypeId} {f:Nat×Nat} (hl:H.le w) (hb:H b=some (.cells vs.toArray e f)) :
    ∀ (j:Nat) (v:Value),vs[j]? = some v→w.cell? ⟨b,0+j,none⟩=some v:=fun j v hv=>by
  rw [Nat.zero_add];exact PH.le.cell hl (Hr hb (by simpa [Kn] using hv))
theorem Bt {d:Option Tmp} {g:Option (Nat×Bool)} {t:TypeId} {parts:List (Nat×Operand)} (vs:List Value) (cs:List Value) (hF:Fr N F a) (hargs:Lo F (parts.map (·.2)) vs)
    (hr:∀ w,(Instr.build t ((parts.map (·.1)).zip vs).toArray).run P w=.ok (.agg cs.toArray) w) :
    (execOp a.eval ⟨d,.build t parts.toArray,ty,pos,af,g⟩).run P w=.ok (.value (.agg cs.toArray)) w:=Tg hF hargs (hr w)
theorem start1 (hH:H.le w):St w Nil [H] [] w:=.start (fun x hx=>by simp only [List.mem_cons,List.not_mem_nil,or_false] at hx;subst hx;exact hH)
theorem JcI {d:Option Tmp} {g:Option (Nat×Bool)} {x y:Operand} {t e:TypeId} {k:IntKind} {n:Nat} {i:Int} {vs:List Value} {v:Value} {α:Type} {l:List α} {z:α} (hF:Fr N F a)
    (hu:∀ w,(underlying t).run P w=.ok (.array n e) w) (hz:∀ w,(sizeOf e).run P w=.ok 1 w) (hg:∀ w,(isAgg e).run P w=.ok false w)
    (hx:opv F x=some (.agg vs.toArray)) (hy:opv F y=some (.int k i)) (hl:l.length=n) (hi:getI l i=some z) (hv:vs[i.toNat * 1]? = some v) :
    (execOp a.eval ⟨d,.index t x y,ty,pos,af,g⟩).run P w=.ok (.value v) w:=by
  obtain ⟨h1,h2⟩:=Kd hi
  have h3:0≤i∧i < (n:Int):=⟨h1,by omega⟩
  have h4:(Instr.index t (.agg vs.toArray) (.int k i)).run P w=.ok v w:=by
    simp only [Instr.index,asIntOf,Sem.run_bind,Sem.run_pure,Result.andThen_ok,hu,if_pos h3,hz,part,hg,Bool.false_eq_true,if_false]
    have:(vs.toArray)[i.toNat * 1]? = some v:=by simpa using hv
    rw [this];rfl
  simp [execOp,hF.ev hx,hF.ev hy,h4]
end
section
variable {P:Program} {a:Act} {w:World} {N:FN} {F:List (Nat×Value)}
theorem r1c {fn:Func} {t b n:Nat} {ty:TypeId} {vs:List Value} {R:Value→World→Prop} {how:Exit} (hh:how=.ret∨how=.normal) (hF:Fr N F a) (hr:fn.results=#[.cell t ty]) (ht:F.lookup t=some (.pointer (some ⟨b,0,none⟩)))
    (hg:∀ w,(isAgg ty).run P w=.ok true w) (hz:∀ w,(sizeOf ty).run P w=.ok n w) (hn:vs.length=n) (hc:∀ (j:Nat) (v:Value),vs[j]? = some v→w.cell? ⟨b,0+j,none⟩=some v) (h:R (.agg vs.toArray) w) (hds:N.ds=[]∧N.df=[]:=by exact ⟨rfl,rfl⟩) :
    bodyPost P fn (fun e w'=>∃ v,e=.returned v∧R v w') how a w:=by
  have h1:=run_loadCells_list (P:=P) w ⟨b,0,none⟩ vs (fun j v hv=>by rw [Df];exact hc j v hv)
  rw [hn] at h1
  have h2:(results fn a.tmps).run P w=.ok (.agg vs.toArray) w:=by
    have:=hF.slots t _ ht
    simp [results,hr,this,asAddr,loadVar,hg,hz,h1]
  rcases hh with rfl | rfl
  · exact bodyPost_ret h2 (hF.defers.trans (by rw [hds.1,hds.2];rfl)) ⟨_,rfl,h⟩
  · exact bodyPost_end h2 (hF.defers.trans (by rw [hds.1,hds.2];rfl)) ⟨_,rfl,h⟩
end
theorem SR.none {α:Type} [Enc α] {h:PH} {oa:Option Addr} {xs:List α} (hr:SR h oa xs) (hs:0 < Enc.sz α) (ho:oa.isNone=true):xs=[]:=by
  obtain ⟨vs,h1,h2⟩:=hr
  cases xs with
  | nil=>rfl
  | cons x r =>
    have:=h1.some (h2.ne hs (by simp))
    rw [this] at ho;cases ho
theorem Lds.cellsP {Hs:List PH} {L:List HA} {w:World} (hs:Lds Hs L w) {b:Nat} {pre vs post:List Value} {e:TypeId} {f:Nat×Nat} (hA:blk b (.cells (pre ++ (vs ++ post)).toArray e f)∈L) :
    ∀ (j:Nat) (v:Value),vs[j]? = some v→w.cell? ⟨b,pre.length+j,none⟩=some v:=fun j v h=>by
  refine Go.LL.Lds.cellB hs hA ?_
  rw [Kn,List.getElem?_append_right (by omega),Nat.add_sub_cancel_left,List.getElem?_append_left (List.getElem?_eq_some_iff.1 h).1]
  exact h
theorem Rows.u8 {h:PH} {us:List Value} {xs:List (IntK .u8)} (hr:Rows h us xs):us=(xs.map (·.v)).map (Value.int .u8):=by
  induction hr with
  | nil=>rfl
  | cons hc _ ih=>rw [ih,hc];rfl
theorem Vz (l:List Int):∀ r:ByteArray,(l.foldl (fun r n=>r.push (UInt8.ofNat n.toNat)) r).data.toList=r.data.toList ++ l.map fun n=>UInt8.ofNat n.toNat:=by
  induction l with
  | nil=>intro r;simp
  | cons n l ih=>intro r;rw [List.foldl_cons,ih];simp [ByteArray.push]
section
variable {P:Program} {N:FN} {F:List (Nat×Value)} {a:Act} {w:World} {d:Option Tmp} {ty:TypeId} {pos:String} {af:Array Edge} {g:Option (Nat×Bool)}
theorem Pz {x:Operand} {s t e:TypeId} {oa:Option Addr} {c:Nat} {us:List Value} {xs:List (IntK .u8)} {h:PH} (hF:Fr N F a) (hs:P.underlying s=some (.slice e)) (he:P.underlying e=some (.int .u8)) (hd:P.underlying t=some .string)
    (hx:opv F x=some (.slice oa xs.length c)) (hrd:Rd (hp w) oa us) (hu:Rows h us xs) :
    (execOp a.eval ⟨d,.convert s t x,ty,pos,af,g⟩).run P w=.ok (.value (Ag (Gk xs))) w:=by
  have key:(convert s t (.slice oa xs.length c)).run P w=.ok (Ag (Gk xs)) w:=by
    rw [run_convert_bytes_string w s t e oa xs.length c hs he hd]
    cases oa with
    | none =>
      have:xs=[]:=by
        cases xs with
        | nil=>rfl
        | cons y r =>
          have:=hrd.some (hu.ne (by decide) (by simp))
          cases this
      subst this
      rfl
    | some ad =>
      have hl:us.length=xs.length:=by rw [hu.len];exact Nat.mul_one _
      have h1:(loadCells ad xs.length).run P w=.ok us.toArray w:=by
        by_cases hn:us=[]
        · subst hn
          have:xs.length=0:=by simpa using hl.symm
          rw [this];simp [loadCells,loadCellsFrom]
        · have had := hrd.some hn
          simp only [Option.some.injEq] at had
          have:=run_loadCells_list (P:=P) w ⟨(adr (some ad)).block,(adr (some ad)).off,none⟩ us (fun j v hv=>by
            rw [Df]
            have:=hrd.cell j v hv
            rw [Gq] at this;exact this)
          rw [← had,hl] at this
          exact this
      rw [hu.u8] at h1
      rw [run_bytesToString w ad xs.length c _ h1]
      congr 2
      apply ByteArray.ext
      apply Array.ext'
      rw [Vz]
      simp [Gk]
  simp [execOp,hF.ev hx,key]
end
section
variable {κ β:Type} [DecidableEq κ]
structure MRel (ev:β→Value) (l:List (κ×Value×Nat)) (m:List (κ×β)):Prop where
  look:∀ k,Ee k l=(Cj k m).map ev
  dl:Qg l
  dm:(m.map (·.1)).Nodup
theorem MRel.nil (ev:β→Value):MRel (κ:=κ) ev [] []:=⟨fun _=>rfl,List.nodup_nil,List.nodup_nil⟩
theorem Gc {k:κ} {m:List (κ×β)}:Cj k m=none↔k ∉ m.map (·.1):=by
  induction m with
  | nil=>simp [Cj]
  | cons x r ih =>
    simp only [Cj,List.map_cons,List.mem_cons,not_or]
    by_cases e:k=x.1 <;> simp [e,ih]
theorem Sa (k k':κ) (v:β) (m:List (κ×β)):Cj k' (Sz k v m)=if k'=k then (Cj k' m).map fun _=>v else Cj k' m:=by
  induction m with
  | nil=>simp [Sz,Cj]
  | cons x r ih =>
    simp only [Sz]
    by_cases e:k=x.1
    · rw [if_pos e]
      by_cases e2:k'=k
      · subst e2;simp [Cj,e]
      · have e3 : ¬ k' = x.1 := fun h => e2 (h.trans e.symm)
        simp [Cj,e2,e3]
    · rw [if_neg e]
      by_cases e2:k'=x.1
      · have e3 : ¬ k' = k := fun h => e (h.symm.trans e2)
        simp [Cj,e2,e3]
        intro h;exact absurd h.symm e
      · simp [Cj,e2,ih]
theorem Vh (k:κ) (v:β) (m:List (κ×β)):(Sz k v m).map (·.1)=m.map (·.1):=by
  induction m with
  | nil=>rfl
  | cons x r ih=>simp only [Sz];split <;> simp [ih]
theorem Vw (k:κ) (m m':List (κ×β)):Cj k (m ++ m')=(Cj k m).or (Cj k m'):=by
  induction m with
  | nil=>simp [Cj]
  | cons x r ih=>simp only [List.cons_append,Cj];split <;> simp [ih]
theorem Se (k k':κ) (v:β) (m:List (κ×β)):Cj k' (Yi k v m)=if k'=k then some v else Cj k' m:=by
  unfold Yi
  split
  · rename_i h
    rw [Sa]
    split
    · rename_i e; subst e
      obtain ⟨x,hx⟩:=Option.isSome_iff_exists.1 h
      simp [hx]
    · rfl
  · rename_i h
    have hn:Cj k m=none:=by simpa using h
    rw [Vw]
    by_cases e:k'=k
    · subst e;simp [hn,Cj]
    · simp [Cj,e]
theorem Yv {k:κ} {v:β} {m:List (κ×β)} (h:(m.map (·.1)).Nodup):((Yi k v m).map (·.1)).Nodup:=by
  unfold Yi
  split
  · rw [Vh];exact h
  · rename_i hn
    have hn:Cj k m=none:=by simpa using hn
    rw [List.map_append,List.map_cons,List.map_nil,List.nodup_append]
    refine ⟨h,by simp,?_⟩
    intro a ha b hb
    simp at hb;subst hb
    intro e;subst e
    exact Gc.1 hn ha
theorem MRel.len {ev:β→Value} {l:List (κ×Value×Nat)} {m:List (κ×β)} (h:MRel ev l m):l.length=m.length:=by
  have:(l.map (·.1)).Perm (m.map (·.1)):=(List.perm_ext_iff_of_nodup h.dl h.dm).2 fun k=>by
    have h1:=h.look k
    have h2:=I9 (k:=k) (l:=l)
    have h3:=Gc (k:=k) (m:=m)
    rw [h1,Option.map_eq_none_iff,h3] at h2
    exact ⟨fun hk=>Classical.byContradiction fun hn=>h2.1 hn hk,fun hk=>Classical.byContradiction fun hn=>h2.2 hn hk⟩
  simpa using this.length_eq
theorem MRel.put {ev:β→Value} {l:List (κ×Value×Nat)} {m:List (κ×β)} (h:MRel ev l m) (k:κ) (v:β) (c:Nat):MRel ev (Pw k (ev v) c l) (Yi k v m):=
  ⟨fun k'=>by rw [Ru,Se,h.look];split <;> simp,Qy h.dl,Yv h.dm⟩
def MGood (l:List (κ×Value×Nat)) (c:Nat):Prop:=(∀ x∈l,x.2.2 < c)∧(l.map (·.2.2)).Nodup
theorem MGood.nil:MGood (κ:=κ) [] 0:=⟨fun x hx=>(nomatch hx),List.nodup_nil⟩
theorem Ll (k:κ) (v:Value) (l:List (κ×Value×Nat)):(Nj k v l).map (·.2.2)=l.map (·.2.2):=by
  induction l with
  | nil=>rfl
  | cons x r ih=>simp only [Nj];split <;> simp [ih]
theorem MGood.put {l:List (κ×Value×Nat)} {c:Nat} (h:MGood l c) (k:κ) (v:Value):MGood (Pw k v c l) (Jdr k c l):=by
  unfold Pw Jdr
  split
  · refine ⟨fun x hx => ?_, by rw [Ll]; exact h.2⟩
    have:x.2.2∈(Nj k v l).map (·.2.2):=List.mem_map.2 ⟨x,hx,rfl⟩
    rw [Ll] at this
    obtain ⟨y,hy,e⟩:=List.mem_map.1 this
    rw [← e];exact h.1 y hy
  · refine ⟨fun x hx => ?_, ?_⟩
    · rcases List.mem_append.1 hx with hx | hx
      · exact Nat.lt_succ_of_lt (h.1 x hx)
      · simp at hx;subst hx;exact Nat.lt_succ_self _
    · rw [List.map_append, List.map_cons, List.map_nil, List.nodup_append]
      refine ⟨h.2,by simp,?_⟩
      intro a ha b hb
      simp at hb;subst hb
      obtain ⟨y,hy,e⟩:=List.mem_map.1 ha
      have:=h.1 y hy
      omega
def JdD (kv:κ→Value) (r:Nat) (l:List (κ×Value×Nat)) (c:Nat):HA:=
  { fp:=(Ja9 kv r l c).fp,ok:=fun h=>(Ja9 kv r l c).ok h∧MGood l c,dom:=fun h b ho hb=>(Ja9 kv r l c).dom h b ho.1 hb,loc:=fun h h' e ho=>⟨(Ja9 kv r l c).loc h h' e ho.1,ho.2⟩ }
section
variable {P:Program} {ops:Array Oper} {Q:Exit→Act→World→Prop} {a:Act} {w:World} {N:FN} {F:List (Nat×Value)}
  {w0:World} {M:Nat→Prop} {H:PH} {L L':List HA} {K:Act→World→Prop}
  {d:Option Tmp} {g:Option (Nat×Bool)} {ty:TypeId} {pos:String} {af:Array Edge} {kt et t:TypeId} {kv:κ→Value} {ev:β→Value}
end
end
section
variable {P:Program} {ops:Array Oper} {Q:Exit→Act→World→Prop} {a:Act} {w:World} {N:FN} {w0:World} {M:Nat→Prop} {Hs:List PH} {L:List HA}
theorem grp {Fk:List (Nat×Value)} {b:Bool} {l:List Oper} (n:Nat) (_:St w0 M Hs L w)
    (h1:b=true→(∀ a w,Fr N Fk a→St w0 M Hs L w→wpL P ops Q (l.drop n) a w)→wpL P ops Q l a w)
    (h2:b=false→(∀ a w,Fr N Fk a→St w0 M Hs L w→wpL P ops Q (l.drop n) a w)→wpL P ops Q l a w)
    (key:∀ a w,Fr N Fk a→St w0 M Hs L w→wpL P ops Q (l.drop n) a w):wpL P ops Q l a w:=by
  cases b with
  | true=>exact h1 rfl key
  | false=>exact h2 rfl key
theorem Tf {S:World→Prop} {z k:Nat} {Fk:List (Nat×Value)} {b:Bool} {l:List Oper} (n:Nat) (_:St w0 M Hs L w)
    (h1:b=true→(∀ a w,Fr N Fk a→St w0 M Hs L w→wpX P ops Q S z (l.drop n) (k+n) a w)→wpX P ops Q S z l k a w)
    (h2:b=false→(∀ a w,Fr N Fk a→St w0 M Hs L w→wpX P ops Q S z (l.drop n) (k+n) a w)→wpX P ops Q S z l k a w)
    (key:∀ a w,Fr N Fk a→St w0 M Hs L w→wpX P ops Q S z (l.drop n) (k+n) a w):wpX P ops Q S z l k a w:=by
  cases b with
  | true=>exact h1 rfl key
  | false=>exact h2 rfl key
end
section
variable {P:Program} {ops:Array Oper} {Q:Exit→Act→World→Prop} {a:Act} {w:World} {N:FN} {F:List (Nat×Value)}
  {w0:World} {M:Nat→Prop} {H:PH} {L L':List HA} {K:Act→World→Prop} {ty:TypeId} {pos:String} {af:Array Edge}
end
section
variable {P:Program} {ops:Array Oper} {Q:Exit→Act→World→Prop} {a:Act} {w:World} {N:FN} {F:List (Nat×Value)}
def wpY (P:Program) (ops:Array Oper) (S:World→Prop) (Q:Exit→Act→World→Prop) (m:Nat) (K:Act→World→Prop):List Oper→Nat→Act→World→Prop
  | [],_,a,w=>K a w
  | o :: rest, k, a, w =>
    if k=m then K a w
    else S w∧∃ v,YieldsIf P ops S o v a∧(∀ c a' w',Q (.panic c) (a'.put o.dst v) w'→Q (.panic c) a' w')∧wpY P ops S Q m K rest (k+1) (a.put o.dst v) w
theorem y1 {S:World→Prop} {K:Act→World→Prop} {m k d:Nat} {op:Op} {ty:TypeId} {pos:String} {af:Array Edge} {rest:List Oper} {v:Value}
    (hS:S w) (hF:Fr N F a) (hN:Nat.blt d N.n=true) (hz:(k == m)=false) (hQ:∀ c a' w',Q (.panic c) (a'.put (some d) v) w'→Q (.panic c) a' w')
    (hE:∀ w,S w→(execOp a.eval ⟨some d,op,ty,pos,af,none⟩).run P w=.ok (.value v) w)
    (kk:∀ a,Fr N ((d,v) :: F) a→wpY P ops S Q m K rest (k+1) a w):wpY P ops S Q m K (⟨some d,op,ty,pos,af,none⟩ :: rest) k a w:=by
  rw [wpY,if_neg (by simpa using hz)]
  exact ⟨hS,v,.inl ⟨rfl,hE⟩,hQ,kk _ (hF.put (by simpa [Nat.blt_eq] using hN) v)⟩
end
end Go.LM
