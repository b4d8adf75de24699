/- Slices of slices that the call owns, row by row. No condition: plain lemmas. -/
import Derived.Test.YtbblmeecfimnkaaGreatDoorLM
namespace Go.LM
open Go Go.LL Go.MD
structure RowQ where
  oa:Option Addr
  n:Nat
  cap:Nat
  vs:List Value
inductive NR {α:Type} [Enc α] (h:PH):List RowQ→List (List α)→Prop
  | nil:NR h [] []
  | cons {q:RowQ} {qs:List RowQ} {x:List α} {e:List (List α)} (hn:q.n=x.length) (hr:Rows h q.vs x) (t:NR h qs e):NR h (q :: qs) (x :: e)
section
variable {α:Type} [Enc α] {h h':PH} {qs:List RowQ} {e:List (List α)}
theorem NR.len (hn:NR h qs e):qs.length=e.length:=by
  induction hn with
  | nil=>rfl
  | cons _ _ _ ih=>rw [List.length_cons,List.length_cons,ih]
theorem NR.mono (hm:∀ b o,h b=some o→h' b=some o) (hn:NR h qs e):NR h' qs e:=by
  induction hn with
  | nil=>exact .nil
  | cons h1 h2 _ ih=>exact .cons h1 (h2.mono hm) ih
theorem NR.app {qs':List RowQ} {e':List (List α)} (hn:NR h qs e) (hn':NR h qs' e'):NR h (qs ++ qs') (e ++ e'):=by
  induction hn with
  | nil=>exact hn'
  | cons h1 h2 _ ih=>exact .cons h1 h2 ih
theorem NR.at (hn:NR h qs e):∀ {i:Nat} {x:List α},e[i]? = some x→∃ oa cap vs,qs[i]? = some ⟨oa,x.length,cap,vs⟩∧Rows h vs x:=by
  induction hn with
  | nil=>intro i x hx;simp at hx
  | @cons q qs x' e' h1 h2 _ ih =>
    intro i x hx
    cases i with
    | zero =>
      simp only [List.getElem?_cons_zero,Option.some.injEq] at hx
      subst hx
      obtain ⟨oa,n,cap,vs⟩:=q
      cases h1
      exact ⟨oa,cap,vs,rfl,h2⟩
    | succ i=>exact ih (i:=i) (by simpa using hx)
theorem NR.get (hn:NR h qs e) {i:Int} {x:List α} (hg:getI e i=some x):∃ oa cap vs,qs[i.toNat]? = some ⟨oa,x.length,cap,vs⟩∧Rows h vs x:=hn.at (Fx hg).2
theorem NR.set (hn:NR h qs e):∀ {i:Nat} {q:RowQ} {x:List α},q.n=x.length→Rows h q.vs x→NR h (qs.set i q) (e.set i x):=by
  induction hn with
  | nil=>intro i q x _ _;exact .nil
  | cons h1 h2 h3 ih =>
    intro i q x k1 k2
    cases i with
    | zero=>exact .cons k1 k2 h3
    | succ i=>exact .cons h1 h2 (ih k1 k2)
end
section
variable {P:Program} {ops:Array Oper} {Q:Exit→Act→World→Prop} {a:Act} {w:World} {N:FN} {F:List (Nat×Value)}
  {w0:World} {M:Nat→Prop} {H:PH} {L L':List HA} {K:Act→World→Prop}
  {d:Nat} {ty:TypeId} {pos:String} {af:Array Edge}
end
section
variable {P:Program} {ops:Array Oper} {Q:Exit→Act→World→Prop} {S:World→Prop} {z n m:Nat} {listed L:Array Bool} {a0:Act} {w0:World}
end
end Go.LM
