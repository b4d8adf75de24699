/- Calls that may panic, and He catches them. No condition beyond each theorem's own premises. -/
import Derived.Test.YtbblmeecfimnkaaGreatDoorLP
import Derived.Test.YtbblmeecfimnkaaGreatDoorMDp
namespace Go.LM
open Go Go.LL Go.MD
def PP (R:Value→World→Prop) (E:World→Prop):Ending→World→Prop:=fun e w'=>(∃ v,e=.returned v∧R v w')∨(∃ u pv,e=.panicked [{ v:=.iface u pv,recovered:=false }]∧E w')
def Pn (P:Program) (f:FuncId) (args:Array Value) (w:World) (R:Value→World→Prop) (E:World→Prop):Prop:=Calls P f args w (PP R E)
instance {P:Program} {fn:Func} {R:Value→World→Prop} {E:World→Prop}:NoOut (bodyPost P fn (PP R E)):=⟨fun ⟨_,_,h⟩=>by
  rcases h with ⟨v,e,_⟩ | ⟨u,pv,e,_⟩ <;> cases e⟩
section
variable {P:Program} {Q:Exit→Act→World→Prop} {a:Act} {w w':World} {ops:Array Oper}
theorem c1p {N:FN} {F:List (Nat×Value)} {d:Nat} {ty:TypeId} {pos:String} {af:Array Edge} {f:FuncId} {l:List Operand} {vs:List Value} {at_:Array TypeId} {R:Value→World→Prop} {E:World→Prop} {K:Act→World→Prop}
    (hF:Fr N F a) (hN:Nat.blt d N.n=true) (hen:∀ (x:Array Value) (w:World),(callFunc f x).run P w=.ok (.enter f x) w) (hc:Pn P f vs.toArray w R E) (hargs:Lo F l vs)
    (kp:∀ u pv w',E w'→Q (.panic [{ v:=.iface u pv,recovered:=false }]) a w')
    (k:∀ v w' a,R v w'→Fr N ((d,v) :: F) a→K a w'):stp P ops Q ⟨some d,.call ⟨.value (.func f),l.toArray,at_⟩,ty,pos,af,none⟩ a w K:=by
  refine Do rfl ?_
  unfold Oper.wp
  rw [Kj (Ex hF hargs) (hen _ _)]
  refine Calls.mono hc ?_
  rintro e w' (⟨v,rfl,hR⟩ | ⟨u,pv,rfl,hE⟩)
  · exact k v w' _ hR (hF.put (by simpa [Nat.blt_eq] using hN) v)
  · exact kp u pv w' hE
theorem fnP {f:FuncId} {fn:Func} {c:Code} {args:List Value} {N:Nat} {F:List (Nat×Value)} {R:Value→World→Prop} {E:World→Prop} (hf:P.funcs[f]? = some fn) (hb:fn.body=some c) (hn:fn.ntmps=N) (hl:Nat.ble args.length N=true)
    (he:(args.zipIdx.map fun p=>(p.2,p.1))=F)
    (h:∀ a,Fr ⟨N,[],[]⟩ F a→wq none P c (bodyPost P fn (PP R E)) a w):Pn P f args.toArray w R E:=by
  subst he
  have hl':=Nat.le_of_ble_eq_true hl
  refine calls_of_wp hf hb (wpIn_wide.1 (h _ ?_))
  have:=Fr.enter (args:=args.toArray) (n:=N - args.length) (N:=N) (by simp;omega)
  rw [hn]
  simpa using this
theorem bpl {fn:Func} {R:Value→World→Prop} {E:World→Prop} {x:Exit} (h:bodyPost P fn (fun e w'=>∃ v,e=.returned v∧R v w') x a w):bodyPost P fn (PP R E) x a w:=by
  cases x with
  | normal=>obtain ⟨h1,v,h2,h3⟩:=h;exact ⟨h1,v,h2,.inl h3⟩
  | ret=>obtain ⟨h1,v,h2,h3⟩:=h;exact ⟨h1,v,h2,.inl h3⟩
  | panic ch=>obtain ⟨_,v,h2,_⟩:=h;cases h2
  | outgrown=>obtain ⟨v,h2,_⟩:=h;cases h2
  | exit _=>exact h
  | goto _=>exact h
theorem tpn {K:Act→World→Prop} {c:List PanicEntry} (h:Q (.panic c) a w):Exit.then K Q (.panic c) a w:=h
theorem bpn {id:Nat} {c:List PanicEntry} (h:Q (.panic c) a w):Exit.inBlock id Q (.panic c) a w:=h
theorem pnB {fn:Func} {N:Nat} {F:List (Nat×Value)} {R:Value→World→Prop} {E:World→Prop} {u:TypeId} {pv:Value} (hF:Fr ⟨N,[],[]⟩ F a) (hE:E w):bodyPost P fn (PP R E) (.panic [{ v:=.iface u pv,recovered:=false }]) a w:=
  ⟨hF.defers,.inr ⟨u,pv,rfl,hE⟩⟩
theorem pnq {N:FN} {F:List (Nat×Value)} {d:Option Tmp} {x:Operand} {ty u:TypeId} {pv:Value} {pos:String} {af:Array Edge} {K:Act→World→Prop} (hF:Fr N F a) (hx:opv F x=some (.iface u pv))
    (k:Q (.panic [{ v:=.iface u pv,recovered:=false }]) a w):stp P ops Q ⟨d,.panic x,ty,pos,af,none⟩ a w K:=by
  refine Do rfl ?_
  unfold Oper.wp
  have e:a.eval x=.iface u pv:=hF.ev hx
  simp only [execOp,e,Instr.panic]
  exact k
def wlp (ro:Option Nat) (P:Program) (c:Code) (Q:Exit→Act→World→Prop) (a:Act) (w:World):Prop:=
  ∀ (b : Frame) (k : List Item) (cs : List Frame), b.roundOf = (FR ro).round → (FR ro).fn b.fn → (FR ro).room (cs.length + 1 + 0) →
    ∃ e a' w',Q e a' w'∧ArrivesIn (Machine.fenced P (FR ro)) P (lone (b.atR a (.code c :: .inLoop c :: k)) cs w) b k cs e a' w'
theorem wl0 {ro:Option Nat} {c:Code} (h:wlp ro P c Q a w):wq ro P (Code.loop c) Q a w:=by
  intro b k cs hro hb hr
  obtain ⟨e,a',w',hq,harr⟩:=h b k cs hro hb hr
  exact ⟨e,a',w',hq,.of_steps (.one (fenced_calm hb hr rfl) stepR_loop) harr⟩
theorem wl1 {ro:Option Nat} {c:Code} (h:wq ro P c (Exit.then (wlp ro P c Q) Q) a w):wlp ro P c Q a w:=by
  intro b k cs hro hb hr
  obtain ⟨e,a₁,w₁,hq,harr⟩:=h b (.inLoop c :: k) cs hro hb hr
  cases e with
  | normal =>
    obtain ⟨e₂,a₂,w₂,hq₂,harr₂⟩:=hq b k cs hro hb hr
    exact ⟨e₂,a₂,w₂,hq₂,.of_steps (StepsIn.trans harr (.one (fenced_calm hb hr rfl) stepR_inLoop)) harr₂⟩
  | exit id=>exact ⟨_,a₁,w₁,hq,.pass (x:=.inLoop c) rfl (fun _ _=>.inl (by simp)) harr⟩
  | goto l=>exact ⟨_,a₁,w₁,hq,.pass (x:=.inLoop c) rfl (fun _ _=>.inl (by simp)) harr⟩
  | ret=>exact ⟨_,a₁,w₁,hq,.pass (x:=.inLoop c) rfl (fun _ _=>.inl (by simp)) harr⟩
  | panic ch=>exact ⟨_,a₁,w₁,hq,.pass (x:=.inLoop c) rfl (fun _ _=>.inl (by simp)) harr⟩
  | outgrown=>exact ⟨_,a₁,w₁,hq,.pass (x:=.inLoop c) rfl (fun _ _=>.inl (by simp)) harr⟩
theorem _root_.Go.LL.St.panK {w0:World} {M:Nat→Prop} {Hs:List PH} {L:List HA} {A:HA} (hS:St w0 M Hs (A :: L) w) (hk:Keep A.fp w w'):Keep M w0 w':=
  hS.keep.trans hk fun x hx hA=>(hS.own A (.head _) x hA).1.resolve_left (by omega)
theorem _root_.Go.LL.St.panS {w0:World} {M:Nat→Prop} {Hs:List PH} {L:List HA} {A:HA} (hS:St w0 M Hs (A :: L) w) (hk:Keep A.fp w w'):St w0 M Hs L w':=by
  have h:Mut w A (sepA []) w':=⟨hk,Lt.2 ⟨fun _ h=>(nomatch h),List.Pairwise.nil⟩,fun b ⟨_,h,_⟩=>(nomatch h)⟩
  exact St.unsep (hS.mut h .head)
end
end Go.LM
