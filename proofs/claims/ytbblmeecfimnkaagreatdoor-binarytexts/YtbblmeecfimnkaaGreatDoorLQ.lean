/- A range over a function: the law of the loop, by states of the walk; functions that leave with marks. No condition: plain lemmas. -/
import Derived.Test.YtbblmeecfimnkaaGreatDoorLP
import Derived.RangeFuncNested
namespace Go.LM
open Go Go.LL Go.MD
section
variable {P:Program} {Q:Exit→Act→World→Prop} {a:Act} {w w0:World} {N:FN} {F:List (Nat×Value)} {M:Nat→Prop} {H H':PH} {L L':List HA}
def bodyN (P:Program) (fn:Func) (R:Value→World→Prop):Exit→Act→World→Prop
  | .normal,a,w | .ret,a,w=>LeavesInM (FR none) 0 P fn a.tmps (fun e w'=>∃ v,e=.returned v∧R v w') a.defers .returning w
  | _,_,_=>False
instance {fn:Func} {R:Value→World→Prop}:NoOut (bodyN P fn R):=⟨fun ⟨_,_,h⟩=>h⟩
end
theorem Repl.parts {A A':HA} {L L':List HA} (h:Repl A A' L L'):∃ l1 l2,L=l1 ++ A :: l2∧L'=l1 ++ A' :: l2:=by
  induction h with
  | head=>exact ⟨[],_,rfl,rfl⟩
  | tail h ih=>obtain ⟨l1,l2,rfl,rfl⟩:=ih;exact ⟨_ :: l1,l2,rfl,rfl⟩
instance:NoOut (fun (_:Exit) (_:Act) (_:World)=>False):=⟨fun ⟨_,_,h⟩=>h⟩
def np (Q:Exit→Act→World→Prop):Exit→Act→World→Prop
  | .panic _,_,_=>False
  | .outgrown,_,_=>False
  | e,a,w=>Q e a w
instance {Q:Exit→Act→World→Prop}:NoOut (np Q):=⟨fun ⟨_,_,h⟩=>h⟩
section
variable {P:Program} {Q:Exit→Act→World→Prop} {a:Act} {w w0:World} {N:FN} {F:List (Nat×Value)} {M:Nat→Prop} {H H':PH} {L L':List HA}
theorem Fr.zip {tmps:Array Value}:∀ (ps:List Tmp) (args:List Value) (F:List (Nat×Value)) (t:Array Value),args.length=ps.length→(∀ p∈ps,p < N.n)→Fr ⟨N.n,[],[]⟩ F { tmps:=t,defers:=[] }→
    Fr ⟨N.n,[],[]⟩ ((ps.zip args).reverse ++ F) { tmps:=(ps.zip args).foldl (fun t (p,v)=>t.setIfInBounds p v) t,defers:=[] }
  | [],_,F,t,_,_,h=>by simpa using h
  | p :: ps,[],F,t,hl,_,h=>by simp at hl
  | p :: ps, v :: args, F, t, hl, hp, h => by
    have h1:Fr ⟨N.n,[],[]⟩ ((p,v) :: F) { tmps:=t.setIfInBounds p v,defers:=[] }:=h.put (hp p (.head _)) v
    have h2:=Fr.zip (tmps:=tmps) ps args _ _ (by simpa using hl) (fun q hq=>hp q (.tail _ hq)) h1
    simpa using h2
end
end Go.LM
namespace Go.LL
open Go
section
variable {P:Program} {N:FN} {F:List (Nat×Value)} {a:Act} {w:World} {d:Option Tmp} {ty:TypeId} {pos:String} {af:Array Edge} {g:Option (Nat×Bool)}
end
end Go.LL
namespace Go.LM
open Go Go.LL Go.MD
end Go.LM
namespace Go.LM
open Go Go.LL Go.MD
section
variable {P:Program} {a:Act} {w:World} {N:FN} {F:List (Nat×Value)}
theorem r2c {fn:Func} {t b n u:Nat} {ty:TypeId} {vs:List Value} {x:Value} {R:Value→World→Prop} {how:Exit} (hh:how=.ret∨how=.normal) (hF:Fr N F a) (hr:fn.results=#[.cell t ty,.tmp u]) (ht:F.lookup t=some (.pointer (some ⟨b,0,none⟩)))
    (hu:F.lookup u=some x)
    (hg:∀ w,(isAgg ty).run P w=.ok true w) (hz:∀ w,(sizeOf ty).run P w=.ok n w) (hn:vs.length=n) (hc:∀ (j:Nat) (v:Value),vs[j]? = some v→w.cell? ⟨b,0+j,none⟩=some v) (h:R (.tuple #[.agg vs.toArray,x]) w) (hds:N.ds=[]∧N.df=[]:=by exact ⟨rfl,rfl⟩) :
    bodyPost P fn (fun e w'=>∃ v,e=.returned v∧R v w') how a w:=by
  have h1:=run_loadCells_list (P:=P) w ⟨b,0,none⟩ vs (fun j v hv=>by rw [addLit];exact hc j v hv)
  rw [hn] at h1
  have h2:(results fn a.tmps).run P w=.ok (.tuple #[.agg vs.toArray,x]) w:=by
    have e1:=hF.slots t _ ht
    have e2:=hF.slots u _ hu
    simp [results,hr,e1,e2,asAddr,loadVar,hg,hz,h1]
  rcases hh with rfl | rfl
  · exact bodyPost_ret h2 (hF.defers.trans (by rw [hds.1,hds.2];rfl)) ⟨_,rfl,h⟩
  · exact bodyPost_end h2 (hF.defers.trans (by rw [hds.1,hds.2];rfl)) ⟨_,rfl,h⟩
end
end Go.LM
namespace Go.LM
open Go Go.LL Go.MD
section
variable {P:Program} {a:Act} {w:World} {N:FN} {F:List (Nat×Value)} {fn:Func}
end
end Go.LM
namespace Go.LM
open Go Go.LL Go.MD
section
variable {P:Program} {w w' w0:World} {M:Nat→Prop} {H H':PH} {L L':List HA} {A A':HA}
theorem ExtM.nil (h:ExtM w0 Nil H H'):Ext w0 H H':=⟨h.sub,fun b hb=>(h.new b hb).imp id fun h=>h.resolve_right id⟩
end
end Go.LM
