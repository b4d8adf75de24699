/- A function that defers a closure that recovers. No condition beyond each theorem's own premises. -/
import Derived.Test.YtbblmeecfimnkaaGreatDoorLPs
import Derived.Recover
namespace Go.LM
open Go Go.LL Go.MD
def dfD (g:FuncId) (vs:List Value):Deferred:={ target:=.fn (.func g) vs.toArray,args:=#[] }
instance {P:Program} {fn:Func} {R:Value→World→Prop}:NoOut (bodyPostD P fn fun e w'=>∃ v,e=.returned v∧R v w'):=⟨fun ⟨_,_,h⟩=>by
  obtain ⟨v,e,_⟩:=h;cases e⟩
instance {P:Program} {c:Code} {Q:Exit→Act→World→Prop} {ro:Option Nat} [NoOut Q]:NoOut (Exit.then (wlp ro P c Q) Q):=inferInstance
section
variable {P:Program} {Q:Exit→Act→World→Prop} {a:Act} {w w':World} {ops:Array Oper}
theorem fnD {f:FuncId} {fn:Func} {c:Code} {args:List Value} {N:Nat} {F:List (Nat×Value)} {R:Value→World→Prop} (hf:P.funcs[f]? = some fn) (hb:fn.body=some c) (hn:fn.ntmps=N) (hl:Nat.ble args.length N=true)
    (he:(args.zipIdx.map fun p=>(p.2,p.1))=F)
    (h:∀ a,Fr ⟨N,[],[]⟩ F a→wq none P c (bodyPostD P fn (fun e w'=>∃ v,e=.returned v∧R v w')) a w):Tot P f args.toArray w R:=by
  subst he
  have hl':=Nat.le_of_ble_eq_true hl
  refine calls_of_wp_defers hf hb (wpIn_wide.1 (h _ ?_))
  have:=Fr.enter (args:=args.toArray) (n:=N - args.length) (N:=N) (by simp;omega)
  rw [hn]
  simpa using this
theorem dfr {N:Nat} {F:List (Nat×Value)} {id g t:Nat} {l:List Operand} {vs:List Value} {ty1 ty2:TypeId} {p1 p2:String} {af1 af2:Array Edge} (hF:Fr ⟨N,[],[]⟩ F a) (ht:Nat.blt t N=true) (hv:Lo F l vs)
    (k:∀ a,Fr ⟨N,[dfD g vs],[]⟩ ((t,.func (.func g) #[] vs.toArray) :: F) a→Q .normal a w) :
    wq none P (Code.region id #[⟨some t,.makeFunc (.func g) #[] l.toArray,ty1,p1,af1,none⟩,⟨none,.defer ⟨.value (.tmp t),#[],#[]⟩,ty2,p2,af2,none⟩] false) Q a w:=by
  have hl:(l.map a.eval)=vs:=Ex hF hv
  have hF1:=hF.put (d:=t) (by simpa [Nat.blt_eq] using ht) (.func (.func g) #[] vs.toArray)
  refine wpIn_wide.2 (wp_region_lit (l:=[_,_]) ?_)
  refine (if_pos rfl).mpr ?_
  refine .inl ?_
  unfold Oper.wp
  have e1:(execOp a.eval ⟨some t,.makeFunc (.func g) #[] l.toArray,ty1,p1,af1,none⟩).run P w=.ok (.value (.func (.func g) #[] vs.toArray)) w:=by
    simp [execOp,Instr.makeFunc,hl]
  rw [e1]
  show wpList _ _ _ _ _ _
  refine (if_pos rfl).mpr ?_
  refine .inl ?_
  unfold Oper.wp
  have e2:(execOp (a.put (some t) (.func (.func g) #[] vs.toArray)).eval ⟨none,.defer ⟨.value (.tmp t),#[],#[]⟩,ty2,p2,af2,none⟩).run P w=.ok (.defer (dfD g vs)) w:=by
    have:=hF1.ev (x:=.tmp t) (v:=.func (.func g) #[] vs.toArray) (by simp [opv])
    simp [execOp,resolve,this,Deferred.ofValue,dfD]
  rw [e2]
  refine k _ ⟨hF1.size,hF1.slots,?_⟩
  show dfD g vs :: _=_
  rw [hF1.defers]
  rfl
theorem lvR {fn:Func} {N g:Nat} {F:List (Nat×Value)} {vs:List Value} {R:Value→World→Prop} {v:Value} (hF:Fr ⟨N,[dfD g vs],[]⟩ F a)
    (hen:∀ (x:Array Value) (w:World),(callFunc g x).run P w=.ok (.enter g x) w)
    (hc:CallsD P g vs.toArray .returning w (fun e u' w'=>e=.returned (.tuple #[])∧u'=.returning∧w'=w)) (hr:(results fn a.tmps).run P w=.ok v w) (h:R v w) :
    bodyPostD P fn (fun e w'=>∃ v,e=.returned v∧R v w') .ret a w:=by
  show Leaves P fn a.tmps _ a.defers .returning w
  rw [hF.defers]
  refine leaves_cons (f:=g) (args:=vs.toArray) (by simp) (by simp [invoke,hen]) (hc.mono ?_)
  rintro e u' w' ⟨rfl,rfl,rfl⟩
  exact ⟨v,hr,v,rfl,h⟩
theorem lvP {fn:Func} {N g:Nat} {F:List (Nat×Value)} {vs:List Value} {R:Value→World→Prop} {S:World→Prop} {u:TypeId} {pv:Value} (hF:Fr ⟨N,[dfD g vs],[]⟩ F a)
    (hen:∀ (x:Array Value) (w:World),(callFunc g x).run P w=.ok (.enter g x) w)
    (hc:CallsD P g vs.toArray (.panicking [{ v:=.iface u pv,recovered:=false }]) w (fun e u' w'=>e=.returned (.tuple #[])∧u'=.panicking [{ v:=.iface u pv,recovered:=true }]∧S w'))
    (hr:∀ w',S w'→∃ v,(results fn a.tmps).run P w'=.ok v w'∧R v w') :
    bodyPostD P fn (fun e w'=>∃ v,e=.returned v∧R v w') (.panic [{ v:=.iface u pv,recovered:=false }]) a w:=by
  show Leaves P fn a.tmps _ a.defers _ w
  rw [hF.defers]
  refine leaves_cons (f:=g) (args:=vs.toArray) (by simp) (by simp [invoke,hen]) (hc.mono ?_)
  rintro e u' w' ⟨rfl,rfl,hS⟩
  obtain ⟨v,h1,h2⟩:=hr w' hS
  exact ⟨v,h1,v,rfl,h2⟩
theorem Tp {fn:Func} {N:FN} {F:List (Nat×Value)} {t u:Nat} {T U:TypeId} {b c n:Nat} {vs:List Value} {x:Value} (hF:Fr N F a) (hr:fn.results=#[.cell t T,.cell u U]) (ht:F.lookup t=some (.pointer (some ⟨b,0,none⟩))) (hu:F.lookup u=some (.pointer (some ⟨c,0,none⟩)))
    (hgT:∀ w,(isAgg T).run P w=.ok true w) (hzT:∀ w,(sizeOf T).run P w=.ok n w) (hn:vs.length=n) (hgU:∀ w,(isAgg U).run P w=.ok false w)
    (hT:∀ (j:Nat) (v:Value),vs[j]? = some v→w.cell? ⟨b,0+j,none⟩=some v) (hU:w.cell? ⟨c,0,none⟩=some x):(results fn a.tmps).run P w=.ok (.tuple #[.agg vs.toArray,x]) w:=by
  have e1:=hF.slots t _ ht
  have e2:=hF.slots u _ hu
  have h:=run_loadCells_list (P:=P) w ⟨b,0,none⟩ vs (fun j v hv=>by rw [Df];exact hT j v hv)
  rw [hn] at h
  simp [results,hr,e1,e2,asAddr,loadVar,hgT,hzT,hgU,h]
  simp [load,Sem.run,hU]
end
end Go.LM
