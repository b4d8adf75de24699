/- Short names for steps that come often. No condition: plain lemmas. -/
import Derived.Test.YtbblmeecfimnkaaGreatDoorLX
namespace Go.LM
open Go Go.LL Go.MD
section
variable {P:Program} {ops:Array Oper} {Q:Exit→Act→World→Prop} {a:Act} {w:World} {N:FN} {F:List (Nat×Value)}
theorem qv {rest:List Oper} {d:Nat} {op:Op} {ty:TypeId} {pos:String} {af:Array Edge} {v:Value} (hF:Fr N F a) (hE:(execOp a.eval ⟨some d,op,ty,pos,af,none⟩).run P w=.ok (.value v) w)
    (k:∀ {a},Fr N ((d,v) :: F) a→wpL P ops Q rest a w) (hN:Nat.blt d N.n=true:=by rfl):wpL P ops Q (⟨some d,op,ty,pos,af,none⟩ :: rest) a w:=ls (q1 hF hN hE (@k))
theorem qm {rest:List Oper} {d:Nat} {x:Operand} {ty:TypeId} {pos:String} {af:Array Edge} {v:Value} (hF:Fr N F a) (hx:opv F x=some v)
    (k:∀ {a},Fr N ((d,v) :: F) a→wpL P ops Q rest a w) (hN:Nat.blt d N.n=true:=by rfl):wpL P ops Q (⟨some d,.move x,ty,pos,af,none⟩ :: rest) a w:=ls (q1 hF hN (Ab hF hx) (@k))
theorem qa {rest:List Oper} {d:Nat} {x:Operand} {ty:TypeId} {pos:String} {af:Array Edge} {v:Value} (hF:Fr N F a) (hx:opv F x=some v)
    (k:∀ {a},Fr N ((d,v) :: F) a→wpL P ops Q rest a w) (hN:Nat.blt d N.n=true:=by rfl):wpL P ops Q (⟨some d,.assign x,ty,pos,af,none⟩ :: rest) a w:=ls (q1 hF hN (Bp hF hx) (@k))
theorem qg {rest:List Oper} {d:Nat} {op:Op} {ty:TypeId} {pos:String} {af:Array Edge} {j t:Nat} {b:Bool} {v:Value} (hF:Fr N F a) (hE:(execOp a.eval ⟨some d,op,ty,pos,af,none⟩).run P w=.ok (.value v) w)
    (k:∀ {a},Fr N ((d,v) :: F) a→wpL P ops Q rest a w) (hN:Nat.blt d N.n=true:=by rfl) (hj:(ops[j]?).bind (·.dst)=some t:=by rfl) (ht:F.lookup t=some (.bool b):=by rfl):wpL P ops Q (⟨some d,op,ty,pos,af,some (j,b)⟩ :: rest) a w:=ls (gy hF hj ht (q1 hF hN hE (@k)))
theorem qn {rest:List Oper} {d:Nat} {op:Op} {ty:TypeId} {pos:String} {af:Array Edge} {j t:Nat} {b b':Bool} (hF:Fr N F a)
    (k:∀ {a},Fr N ((d,undef) :: F) a→wpL P ops Q rest a w) (hN:Nat.blt d N.n=true:=by rfl) (hj:(ops[j]?).bind (·.dst)=some t:=by rfl) (ht:F.lookup t=some (.bool b'):=by rfl) (hne:(b' == b)=false:=by rfl):wpL P ops Q (⟨some d,op,ty,pos,af,some (j,b)⟩ :: rest) a w:=ls (gn hF hN hj ht hne (@k))
section
variable {S:World→Prop} {z:Nat}
theorem xq {k d:Nat} {op:Op} {ty:TypeId} {pos:String} {af:Array Edge} {rest:List Oper} {v:Value} (hS:S w) (hF:Fr N F a) (hE:∀ w,S w→(execOp a.eval ⟨some d,op,ty,pos,af,none⟩).run P w=.ok (.value v) w)
    (kk:∀ {a},Fr N ((d,v) :: F) a→wpX P ops Q S z rest (k+1) a w) (hN:Nat.blt d N.n=true:=by rfl) (hz:(k == z)=false:=by rfl) (hQ:∀ c a' w',Q (.panic c) (a'.put (some d) v) w'→Q (.panic c) a' w':=by exact fun _ _ _ h=>h):wpX P ops Q S z (⟨some d,op,ty,pos,af,none⟩ :: rest) k a w:=x1 hS hF hN hz hQ hE (@kk)
theorem xg {k d j t:Nat} {b:Bool} {op:Op} {ty:TypeId} {pos:String} {af:Array Edge} {rest:List Oper} {v:Value} (hS:S w) (hF:Fr N F a) (hE:∀ w,S w→(execOp a.eval ⟨some d,op,ty,pos,af,some (j,b)⟩).run P w=.ok (.value v) w)
    (kk:∀ {a},Fr N ((d,v) :: F) a→wpX P ops Q S z rest (k+1) a w) (hN:Nat.blt d N.n=true:=by rfl) (hz:(k == z)=false:=by rfl) (hj:(ops[j]?).bind (·.dst)=some t:=by rfl) (ht:F.lookup t=some (.bool b):=by rfl) (hQ:∀ c a' w',Q (.panic c) (a'.put (some d) v) w'→Q (.panic c) a' w':=by exact fun _ _ _ h=>h):wpX P ops Q S z (⟨some d,op,ty,pos,af,some (j,b)⟩ :: rest) k a w:=x1g hS hF hN hz hj ht hQ hE (@kk)
theorem xn {k d j t:Nat} {b b':Bool} {op:Op} {ty:TypeId} {pos:String} {af:Array Edge} {rest:List Oper} (hS:S w) (hF:Fr N F a)
    (kk:∀ {a},Fr N ((d,undef) :: F) a→wpX P ops Q S z rest (k+1) a w) (hN:Nat.blt d N.n=true:=by rfl) (hz:(k == z)=false:=by rfl) (hj:(ops[j]?).bind (·.dst)=some t:=by rfl) (ht:F.lookup t=some (.bool b'):=by rfl) (hne:(b' == b)=false:=by rfl) (hQ:∀ c a' w',Q (.panic c) (a'.put (some d) undef) w'→Q (.panic c) a' w':=by exact fun _ _ _ h=>h):wpX P ops Q S z (⟨some d,op,ty,pos,af,some (j,b)⟩ :: rest) k a w:=x1n hS hF hN hz hj ht hne hQ (@kk)
theorem dq (i:Nat) {d:Nat} {op:Op} {ty:TypeId} {pos:String} {af:Array Edge} {v:Value} {fuel:Nat} {listed:Array Bool} (hS:S w) (hF:Fr N F a) (hi:ops[i]? = some ⟨some d,op,ty,pos,af,none⟩) (hE:∀ w,S w→(execOp a.eval ⟨some d,op,ty,pos,af,none⟩).run P w=.ok (.value v) w)
    (kk:∀ {a},Fr N ((d,v) :: F) a→wpD P ops Q S z fuel (listed.setIfInBounds i true) a w)
    (hs:Region.noSelect ops=true:=by kernel_rfl) (hf:(Region.free .any ops listed i && (Region.ready .any ops listed).contains i && (i == z || Hf ops z i))=true:=by kernel_rfl) (hN:Nat.blt d N.n=true:=by rfl) (hQ:∀ c a' w',Q (.panic c) (a'.put (some d) v) w'→Q (.panic c) a' w':=by exact fun _ _ _ h=>h):wpD P ops Q S z (fuel+1) listed a w:=d1 hi hs hf hS hF hN hQ hE (@kk)
theorem dg (i:Nat) {d j t:Nat} {b:Bool} {op:Op} {ty:TypeId} {pos:String} {af:Array Edge} {v:Value} {fuel:Nat} {listed:Array Bool} (hS:S w) (hF:Fr N F a) (hi:ops[i]? = some ⟨some d,op,ty,pos,af,some (j,b)⟩) (hE:∀ w,S w→(execOp a.eval ⟨some d,op,ty,pos,af,some (j,b)⟩).run P w=.ok (.value v) w)
    (kk:∀ {a},Fr N ((d,v) :: F) a→wpD P ops Q S z fuel (listed.setIfInBounds i true) a w)
    (hs:Region.noSelect ops=true:=by kernel_rfl) (hf:(Region.free .any ops listed i && (Region.ready .any ops listed).contains i && (i == z || Hf ops z i))=true:=by kernel_rfl) (hN:Nat.blt d N.n=true:=by rfl) (hj:(ops[j]?).bind (·.dst)=some t:=by rfl) (ht:F.lookup t=some (.bool b):=by rfl) (hQ:∀ c a' w',Q (.panic c) (a'.put (some d) v) w'→Q (.panic c) a' w':=by exact fun _ _ _ h=>h):wpD P ops Q S z (fuel+1) listed a w:=d1g hi hs hf hS hF hN hj ht hQ hE (@kk)
theorem dn (i:Nat) {d j t:Nat} {b b':Bool} {op:Op} {ty:TypeId} {pos:String} {af:Array Edge} {fuel:Nat} {listed:Array Bool} (hS:S w) (hF:Fr N F a) (hi:ops[i]? = some ⟨some d,op,ty,pos,af,some (j,b)⟩)
    (kk:∀ {a},Fr N ((d,undef) :: F) a→wpD P ops Q S z fuel (listed.setIfInBounds i true) a w)
    (hs:Region.noSelect ops=true:=by kernel_rfl) (hf:(Region.free .any ops listed i && (Region.ready .any ops listed).contains i && (i == z || Hf ops z i))=true:=by kernel_rfl) (hN:Nat.blt d N.n=true:=by rfl) (hj:(ops[j]?).bind (·.dst)=some t:=by rfl) (ht:F.lookup t=some (.bool b'):=by rfl) (hne:(b' == b)=false:=by rfl) (hQ:∀ c a' w',Q (.panic c) (a'.put (some d) undef) w'→Q (.panic c) a' w':=by exact fun _ _ _ h=>h):wpD P ops Q S z (fuel+1) listed a w:=d1n hi hs hf hS hF hN hj ht hne hQ (@kk)
end
theorem t1 {α:Type _} {a x0:α} {l:List α}:a∈x0 :: a :: l:=.tail _ (.head _)
theorem t2 {α:Type _} {a x0 x1:α} {l:List α}:a∈x0 :: x1 :: a :: l:=.tail _ t1
theorem t3 {α:Type _} {a x0 x1 x2:α} {l:List α}:a∈x0 :: x1 :: x2 :: a :: l:=.tail _ t2
theorem t4 {α:Type _} {a x0 x1 x2 x3:α} {l:List α}:a∈x0 :: x1 :: x2 :: x3 :: a :: l:=.tail _ t3
theorem t5 {α:Type _} {a x0 x1 x2 x3 x4:α} {l:List α}:a∈x0 :: x1 :: x2 :: x3 :: x4 :: a :: l:=.tail _ t4
theorem t6 {α:Type _} {a x0 x1 x2 x3 x4 x5:α} {l:List α}:a∈x0 :: x1 :: x2 :: x3 :: x4 :: x5 :: a :: l:=.tail _ t5
theorem t7 {α:Type _} {a x0 x1 x2 x3 x4 x5 x6:α} {l:List α}:a∈x0 :: x1 :: x2 :: x3 :: x4 :: x5 :: x6 :: a :: l:=.tail _ t6
theorem t8 {α:Type _} {a x0 x1 x2 x3 x4 x5 x6 x7:α} {l:List α}:a∈x0 :: x1 :: x2 :: x3 :: x4 :: x5 :: x6 :: x7 :: a :: l:=.tail _ t7
theorem t9 {α:Type _} {a x0 x1 x2 x3 x4 x5 x6 x7 x8:α} {l:List α}:a∈x0 :: x1 :: x2 :: x3 :: x4 :: x5 :: x6 :: x7 :: x8 :: a :: l:=.tail _ t8
theorem si {α:Type} {x y:α} (h:some x=some y):x=y:=Option.some.inj h
theorem bs {α β:Type} {x:Option α} {f:α→Option β} {b:β} (h:x.bind f=some b):∃ a,x=some a∧f a=some b:=bind_some h
theorem _root_.Go.LL.Fr.hs (hF:Fr N F a) {F':List (Nat×Value)} (h:Has F F':=by repeat' (first | exact trivial | refine ⟨rfl,?_⟩)):Fr N F' a:=hF.has h
end
abbrev i6 (n:Int):Value:=.int .i64 n
theorem t0 {α:Type _} {a:α} {l:List α}:a∈a :: l:=.head _
theorem i2 {H:PH}:∀ b o,H b=some o→H b=some o:=fun _ _ h=>h
theorem i1 {α:Type _} {l:List α}:∀ x∈l,x∈l:=fun _ h=>h
theorem ta1 {α:Type _} {l:List α} {a:α}:∀ x∈l,x∈a :: l:=fun _ h=>.tail _ h
theorem ta2 {α:Type _} {l:List α} {a b:α}:∀ x∈l,x∈a :: b :: l:=fun _ h=>.tail _ (.tail _ h)
theorem ta3 {α:Type _} {l:List α} {a b c:α}:∀ x∈l,x∈a :: b :: c :: l:=fun _ h=>.tail _ (.tail _ (.tail _ h))
theorem cp {H1 H2 H3:PH} (f:∀ b o,H2 b=some o→H3 b=some o) (g:∀ b o,H1 b=some o→H2 b=some o):∀ b o,H1 b=some o→H3 b=some o:=fun b o h=>f b o (g b o h)
def La:Nat→List HA→Option (HA×List HA)
  | _,[]=>none
  | 0,A :: L=>some (A,L)
  | n+1,A :: L=>match La n L with | some (B,M)=>some (B,A :: M) | none=>none
def Np:List Nat→List HA→Option (List HA)
  | [],_=>some []
  | i :: is,L=>match La i L with | some (A,M)=>(match Np is M with | some K=>some (A :: K) | none=>none) | none=>none
theorem Lv:∀ (i:Nat) (L:List HA) {A:HA} {M:List HA},La i L=some (A,M)→Pick A L M
  | _,[],_,_,h=>by simp [La] at h
  | 0,B :: L,_,_,h=>by simp only [La,Option.some.injEq,Prod.mk.injEq] at h;obtain ⟨rfl,rfl⟩:=h;exact .head
  | n + 1, B :: L, A, M, h => by
    rw [La] at h
    cases e:La n L with
    | none=>rw [e] at h;cases h
    | some q =>
      obtain ⟨C,K⟩:=q
      rw [e] at h
      simp only [Option.some.injEq,Prod.mk.injEq] at h
      obtain ⟨rfl,rfl⟩:=h
      exact .tail (Lv n L e)
theorem Lw:∀ (is:List Nat) (L:List HA) {K:List HA},Np is L=some K→PickL K L
  | [],_,_,h=>by simp only [Np,Option.some.injEq] at h;subst h;exact .nil
  | i :: is, L, K, h => by
    rw [Np] at h
    cases e:La i L with
    | none=>rw [e] at h;cases h
    | some q =>
      obtain ⟨A,M⟩:=q
      rw [e] at h
      simp only at h
      cases e2:Np is M with
      | none=>rw [e2] at h;cases h
      | some J=>rw [e2] at h;simp only [Option.some.injEq] at h;subst h;exact .cons (Lv i L e) (Lw is M e2)
theorem _root_.Go.LL.St.pk {w0 w:World} {M:Nat→Prop} {Hs:List PH} {L K:List HA} (u:St w0 M Hs L w) (is:List Nat) (h:Np is L=some K):St w0 M Hs K w:=u.pickL (Lw is L h)
section
variable {P:Program} {ops:Array Oper} {Q:Exit→Act→World→Prop} {a:Act} {w:World} {N:FN} {F:List (Nat×Value)}
variable {w0:World} {M:Nat→Prop} {Hs:List PH} {L:List HA} {z:Nat}
theorem cq {d:Nat} {ty:TypeId} {pos:String} {af:Array Edge} {f:FuncId} {l:List Operand} {vs:List Value} {r:Value} {at_:Array TypeId} {K:Act→World→Prop}
    (hF:Fr N F a) (hen:∀ (x:Array Value) (w:World),(callFunc f x).run P w=.ok (.enter f x) w) (hc:Tot P f vs.toArray w fun v w'=>v=r∧Keep Nil w w') (hargs:Lo F l vs) (u:St w0 M Hs L w)
    (k:∀ w' a,St w0 M Hs L w'→Fr N ((d,r) :: F) a→K a w') (hN:Nat.blt d N.n=true:=by rfl):stp P ops Q ⟨some d,.call ⟨.value (.func f),l.toArray,at_⟩,ty,pos,af,none⟩ a w K:=
  c1 hF hN hen hc hargs fun v w' a hR o=>by obtain ⟨rfl,hk⟩:=hR;exact k w' a (u.pass hk) o
theorem xr {k d:Nat} {op:Op} {ty:TypeId} {pos:String} {af:Array Edge} {rest:List Oper} {v:Value} (u:St w0 M Hs L w) (hF:Fr N F a) (hE:∀ {w},(execOp a.eval ⟨some d,op,ty,pos,af,none⟩).run P w=.ok (.value v) w)
    (kk:∀ {a},Fr N ((d,v) :: F) a→wpX P ops Q (Lds Hs L) z rest (k+1) a w) (hN:Nat.blt d N.n=true:=by rfl) (hz:(k == z)=false:=by rfl) (hQ:∀ c a' w',Q (.panic c) (a'.put (some d) v) w'→Q (.panic c) a' w':=by exact fun _ _ _ h=>h):wpX P ops Q (Lds Hs L) z (⟨some d,op,ty,pos,af,none⟩ :: rest) k a w:=xq (St.ld u) hF (fun _ _=>hE) kk hN hz hQ
theorem xm {k d:Nat} {x:Operand} {ty:TypeId} {pos:String} {af:Array Edge} {rest:List Oper} {v:Value} (u:St w0 M Hs L w) (hF:Fr N F a) (hx:opv F x=some v)
    (kk:∀ {a},Fr N ((d,v) :: F) a→wpX P ops Q (Lds Hs L) z rest (k+1) a w) (hN:Nat.blt d N.n=true:=by rfl) (hz:(k == z)=false:=by rfl) (hQ:∀ c a' w',Q (.panic c) (a'.put (some d) v) w'→Q (.panic c) a' w':=by exact fun _ _ _ h=>h):wpX P ops Q (Lds Hs L) z (⟨some d,.move x,ty,pos,af,none⟩ :: rest) k a w:=xq (St.ld u) hF (fun _ _=>Ab hF hx) kk hN hz hQ
theorem dr (i:Nat) {d:Nat} {op:Op} {ty:TypeId} {pos:String} {af:Array Edge} {v:Value} {fuel:Nat} {listed:Array Bool} (u:St w0 M Hs L w) (hF:Fr N F a) (hi:ops[i]? = some ⟨some d,op,ty,pos,af,none⟩) (hE:∀ {w},(execOp a.eval ⟨some d,op,ty,pos,af,none⟩).run P w=.ok (.value v) w)
    (kk:∀ {a},Fr N ((d,v) :: F) a→wpD P ops Q (Lds Hs L) z fuel (listed.setIfInBounds i true) a w)
    (hs:Region.noSelect ops=true:=by kernel_rfl) (hf:(Region.free .any ops listed i && (Region.ready .any ops listed).contains i && (i == z || Hf ops z i))=true:=by kernel_rfl) (hN:Nat.blt d N.n=true:=by rfl) (hQ:∀ c a' w',Q (.panic c) (a'.put (some d) v) w'→Q (.panic c) a' w':=by exact fun _ _ _ h=>h):wpD P ops Q (Lds Hs L) z (fuel+1) listed a w:=dq i (St.ld u) hF hi (fun _ _=>hE) kk hs hf hN hQ
theorem ds {S:World→Prop} (i:Nat) {d:Nat} {op:Op} {ty:TypeId} {pos:String} {af:Array Edge} {v:Value} {fuel:Nat} {listed:Array Bool} (hS:S w) (hF:Fr N F a) (hi:ops[i]? = some ⟨some d,op,ty,pos,af,none⟩) (hE:∀ {w},(execOp a.eval ⟨some d,op,ty,pos,af,none⟩).run P w=.ok (.value v) w)
    (kk:∀ {a},Fr N ((d,v) :: F) a→wpD P ops Q S z fuel (listed.setIfInBounds i true) a w)
    (hs:Region.noSelect ops=true:=by kernel_rfl) (hf:(Region.free .any ops listed i && (Region.ready .any ops listed).contains i && (i == z || Hf ops z i))=true:=by kernel_rfl) (hN:Nat.blt d N.n=true:=by rfl) (hQ:∀ c a' w',Q (.panic c) (a'.put (some d) v) w'→Q (.panic c) a' w':=by exact fun _ _ _ h=>h):wpD P ops Q S z (fuel+1) listed a w:=dq i hS hF hi (fun _ _=>hE) kk hs hf hN hQ
end
theorem bit {α:Type} {b:Bool} {x y:Option α} {r:α} (h:(if b=true then x else y)=some r):(b=true∧x=some r)∨(b=false∧y=some r):=by
  cases b with
  | true=>exact .inl ⟨rfl,by simpa using h⟩
  | false=>exact .inr ⟨rfl,by simpa using h⟩
theorem bip {α:Type} {p:Prop} [Decidable p] {x y:Option α} {r:α} (h:(if p then x else y)=some r):(decide p=true∧x=some r)∨(decide p=false∧y=some r):=by
  by_cases hp:p
  · exact .inl ⟨decide_eq_true hp,by rwa [if_pos hp] at h⟩
  · exact .inr ⟨decide_eq_false hp,by rwa [if_neg hp] at h⟩
abbrev PT (b:Nat):Value:=.pointer (some ⟨b,0,none⟩)
abbrev SL {α:Type} (oa:Option Addr) (xs:List α) (cap:Nat):Value:=.slice oa xs.length cap
abbrev bk (b:Nat) (cs:List Value) (t:TypeId):HA:=blk b (.cells cs.toArray t (0,0))
abbrev tb (b:Bool):Value:=.bool b
section
variable {P:Program} {ops:Array Oper} {Q:Exit→Act→World→Prop} {a:Act} {w:World} {N:FN} {F:List (Nat×Value)}
variable {w0:World} {M:Nat→Prop} {Hs:List PH} {L:List HA} {z:Nat}
theorem cr {d:Nat} {ty:TypeId} {pos:String} {af:Array Edge} {f:FuncId} {l:List Operand} {vs:List Value} {r:Value} {at_:Array TypeId} {K:Act→World→Prop}
    (hF:Fr N F a) (hen:∀ (x:Array Value) (w:World),(callFunc f x).run P w=.ok (.enter f x) w) (hc:Tot P f vs.toArray w fun v w'=>v=r∧Keep Nil w w') (u:St w0 M Hs L w)
    (k:∀ {w' a},St w0 M Hs L w'→Fr N ((d,r) :: F) a→K a w') (hargs:Lo F l vs:=by repeat' (first | exact trivial | refine ⟨rfl,?_⟩)) (hN:Nat.blt d N.n=true:=by rfl):stp P ops Q ⟨some d,.call ⟨.value (.func f),l.toArray,at_⟩,ty,pos,af,none⟩ a w K:=
  cq hF hen hc hargs u (fun _ _=>k) hN
theorem qk {rest:List Oper} {d:Nat} {op:Op} {ty:TypeId} {pos:String} {af:Array Edge} {v v':Value} {Fk:List (Nat×Value)} (hF:Fr N F a) (hE:(execOp a.eval ⟨some d,op,ty,pos,af,none⟩).run P w=.ok (.value v) w)
    (key:∀ a w,Fr N Fk a→St w0 M Hs L w→wpL P ops Q rest a w) (u:St w0 M Hs L w) {x y:Bool} (hb:x=y) (hh:Has ((d,v') :: F) Fk:=by repeat' (first | exact trivial | refine ⟨rfl,?_⟩)) (e:x=y→v=v':=by intro h;rw [h];rfl) (hN:Nat.blt d N.n=true:=by rfl):wpL P ops Q (⟨some d,op,ty,pos,af,none⟩ :: rest) a w:=
  qv hF hE (fun o=>key _ _ (by have e':=e hb;subst e';exact o.has hh) u) hN
theorem ql {rest:List Oper} {d:Nat} {op:Op} {ty:TypeId} {pos:String} {af:Array Edge} {j t:Nat} {b:Bool} {v v':Value} {Fk:List (Nat×Value)} (hF:Fr N F a) (hE:(execOp a.eval ⟨some d,op,ty,pos,af,none⟩).run P w=.ok (.value v) w)
    (key:∀ a w,Fr N Fk a→St w0 M Hs L w→wpL P ops Q rest a w) (u:St w0 M Hs L w) {x y:Bool} (hb:x=y) (hh:Has ((d,v') :: F) Fk:=by repeat' (first | exact trivial | refine ⟨rfl,?_⟩)) (e:x=y→v=v':=by intro h;rw [h];rfl) (hN:Nat.blt d N.n=true:=by rfl) (hj:(ops[j]?).bind (·.dst)=some t:=by rfl) (ht:F.lookup t=some (.bool b):=by rfl):wpL P ops Q (⟨some d,op,ty,pos,af,some (j,b)⟩ :: rest) a w:=
  qg hF hE (fun o=>key _ _ (by have e':=e hb;subst e';exact o.has hh) u) hN hj ht
theorem gr {Fk:List (Nat×Value)} {b:Bool} {l:List Oper} (t n:Nat) (hF:Fr N F a) (u:St w0 M Hs L w)
    (h1:b=true→Fr N ((t,.bool true) :: F) a→(∀ a w,Fr N Fk a→St w0 M Hs L w→wpL P ops Q (l.drop n) a w)→wpL P ops Q l a w)
    (h2:b=false→Fr N ((t,.bool false) :: F) a→(∀ a w,Fr N Fk a→St w0 M Hs L w→wpL P ops Q (l.drop n) a w)→wpL P ops Q l a w)
    (key:∀ a w,Fr N Fk a→St w0 M Hs L w→wpL P ops Q (l.drop n) a w) (ht:F.lookup t=some (.bool b):=by rfl):wpL P ops Q l a w:=
  grp (Fk:=Fk) (b:=b) n u (fun hb k=>h1 hb (hF.as ht (congrArg Value.bool hb)) k) (fun hb k=>h2 hb (hF.as ht (congrArg Value.bool hb)) k) key
end
end Go.LM
