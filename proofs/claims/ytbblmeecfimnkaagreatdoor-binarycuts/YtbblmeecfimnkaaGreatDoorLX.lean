/- A range over a map, filtered into another map; maps that are handed back, or nil. No condition: plain lemmas. -/
import Derived.Test.YtbblmeecfimnkaaGreatDoorLQ
import Derived.Maps.RangeRun
set_option linter.unusedSectionVars false
namespace Go.LM
open Go Go.LL Go.MD
section
variable {κ β:Type} [DecidableEq κ]
theorem N6 {l:List (κ×Value×Nat)} (h:(l.map (·.2.2)).Nodup) {x y:κ×Value×Nat} (hx:x∈l) (hy:y∈l) (e:x.2.2=y.2.2):x=y:=by
  induction l with
  | nil=>cases hx
  | cons z r ih =>
    simp only [List.map_cons,List.nodup_cons] at h
    rcases List.mem_cons.1 hx with h1 | h1 <;> rcases List.mem_cons.1 hy with h2 | h2
    · rw [h1,h2]
    · exact absurd (List.mem_map (f:=fun x:κ×Value×Nat=>x.2.2).2 ⟨y,h2,by rw [← e,h1]⟩) h.1
    · exact absurd (List.mem_map (f:=fun x:κ×Value×Nat=>x.2.2).2 ⟨x,h1,by rw [e,h2]⟩) h.1
    · exact ih h.2 h1 h2
def MFil (X:Value) (seen:Array Nat) (l l':List (κ×Value×Nat)):Prop:=Qg l'∧∀ k v,Ee k l'=some v↔∃ st,(k,v,st)∈l∧v≠X∧seen.contains st=true
theorem MFil.start {X:Value} {l:List (κ×Value×Nat)}:MFil X #[] l []:=⟨List.nodup_nil,fun k v=>by simp [Ee]⟩
theorem MFil.keep {X:Value} {seen:Array Nat} {l l':List (κ×Value×Nat)} {e:κ×Value×Nat} {c cc:Nat} (h:MFil X seen l l') (hd:Qg l) (hg:MGood l cc) (he:e∈l) (hx:e.2.1≠X):MFil X (seen.push e.2.2) l (Pw e.1 e.2.1 c l'):=by
  refine ⟨Qy h.1,fun k v=>?_⟩
  rw [Ru]
  constructor
  · intro hv
    by_cases e2:k=e.1
    · rw [if_pos e2] at hv; obtain rfl := Option.some.inj hv; subst e2
      exact ⟨e.2.2,he,hx,by simp only [contains_push,beq_self_eq_true,Bool.or_true]⟩
    · rw [if_neg e2] at hv
      obtain ⟨st,h1,h2,h3⟩:=(h.2 k v).1 hv
      exact ⟨st,h1,h2,by simp only [contains_push,h3,Bool.true_or]⟩
  · rintro ⟨st, h1, h2, h3⟩
    simp only [contains_push,Bool.or_eq_true,beq_iff_eq] at h3
    by_cases e2:k=e.1
    · rw [if_pos e2]
      have:=Gm hd h1
      have h4:=Gm (k:=e.1) (v:=e.2.1) (b:=e.2.2) hd he
      rw [e2,h4] at this
      rw [Option.some.inj this]
    · rw [if_neg e2]
      rcases h3 with h3 | h3
      · exact (h.2 k v).2 ⟨st,h1,h2,h3⟩
      · have := N6 hg.2 h1 he h3
        exact absurd (congrArg Prod.fst this) e2
theorem MFil.skip {X:Value} {seen:Array Nat} {l l':List (κ×Value×Nat)} {e:κ×Value×Nat} {cc:Nat} (h:MFil X seen l l') (hg:MGood l cc) (he:e∈l) (hx:e.2.1=X):MFil X (seen.push e.2.2) l l':=by
  refine ⟨h.1,fun k v=>(h.2 k v).trans ⟨?_,?_⟩⟩
  · rintro ⟨st, h1, h2, h3⟩
    exact ⟨st,h1,h2,by simp only [contains_push,h3,Bool.true_or]⟩
  · rintro ⟨st, h1, h2, h3⟩
    simp only [contains_push,Bool.or_eq_true,beq_iff_eq] at h3
    rcases h3 with h3 | h3
    · exact ⟨st,h1,h2,h3⟩
    · have := N6 hg.2 h1 he h3
      exact absurd ((congrArg (fun x=>x.2.1) this).trans hx) h2
theorem Ot {k:κ} {m:List (κ×β)} (p:β→Bool) (hd:(m.map (·.1)).Nodup):Cj k (m.filter fun x=>p x.2)=(Cj k m).filter p:=by
  induction m with
  | nil=>simp [Cj]
  | cons x r ih =>
    simp only [List.map_cons,List.nodup_cons] at hd
    have ih:=ih hd.2
    simp only [List.filter_cons]
    by_cases e:k=x.1
    · have hn : Cj k r = none := Gc.2 (by rw [e]; exact hd.1)
      cases hp:p x.2
      · rw [if_neg (by simp), ih, hn]
        simp only [Cj,if_pos e,Option.filter,hp]
        rfl
      · rw [if_pos rfl]
        simp only [Cj,if_pos e,Option.filter,hp]
        rfl
    · split <;> simp [Cj,e,ih]
theorem MFil.done {ev:β→Value} (hev:∀ a b,ev a=ev b→a=b) [DecidableEq β] {x:β} {seen:Array Nat} {l l':List (κ×Value×Nat)} {m:List (κ×β)} (hm:MRel ev l m) (h:MFil (ev x) seen l l') (ha:∀ e∈l,seen.contains e.2.2=true):MRel ev l' (m.filter fun p=>decide (p.2≠x)):=by
  refine ⟨fun k=>?_,h.1,hm.dm.sublist ((List.filter_sublist).map _)⟩
  rw [Ot (fun y=>decide (y≠x)) hm.dm]
  refine Option.ext fun v=>?_
  rw [h.2 k v]
  constructor
  · rintro ⟨st, h1, h2, _⟩
    have h3:=Gm hm.dl h1
    rw [hm.look] at h3
    obtain ⟨y,hy,rfl⟩:=Option.map_eq_some_iff.1 h3
    have:y≠x:=fun e=>h2 (by rw [e])
    simp [hy,Option.filter,this]
  · intro hv
    obtain ⟨y,hy,rfl⟩:=Option.map_eq_some_iff.1 hv
    obtain ⟨h1,h2⟩:=Option.filter_eq_some_iff.1 hy
    have h3:Ee k l=some (ev y):=by rw [hm.look,h1];rfl
    obtain ⟨st,h4⟩:=Qu h3
    exact ⟨st,h4,fun e=>by simp at h2;exact h2 (hev _ _ e),ha _ h4⟩
theorem MRel.val {ev:β→Value} {l:List (κ×Value×Nat)} {m:List (κ×β)} (hm:MRel ev l m) {e:κ×Value×Nat} (he:e∈l):∃ y,e.2.1=ev y:=by
  have h3:=Gm (k:=e.1) (v:=e.2.1) (b:=e.2.2) hm.dl he
  rw [hm.look] at h3
  obtain ⟨y,hy,h⟩:=Option.map_eq_some_iff.1 h3
  exact ⟨y,h.symm⟩
end
section
variable {κ β:Type} [DecidableEq κ]
variable {P:Program} {ops:Array Oper} {Q:Exit→Act→World→Prop} {a:Act} {w:World} {N:FN} {F:List (Nat×Value)}
  {w0:World} {M:Nat→Prop} {H:PH} {L L':List HA} {K:Act→World→Prop}
  {d:Nat} {dd:Option Tmp} {g:Option (Nat×Bool)} {ty:TypeId} {pos:String} {af:Array Edge} {kt et t:TypeId} {kv:κ→Value} {ev:β→Value}
def OMap (kv:κ→Value) (ev:β→Value) (vm:Value) (A:HA) (m:List (κ×β)):Prop:=(vm=.map none∧A=sepA []∧m=[])∨∃ b l c,vm=.map (some b)∧A=JdD kv b l c∧MRel ev l m
theorem OMap.one {vm:Value} {A:HA} {m:List (κ×β)} (h:OMap kv ev vm A m):vm.oneCell'=true:=by
  rcases h with ⟨rfl,_⟩ | ⟨b,l,c,rfl,_⟩ <;> rfl
theorem OMap.cells {vm:Value} {A:HA} {m:List (κ×β)} (h:OMap kv ev vm A m):vm.cells=#[vm]:=by
  rcases h with ⟨rfl,_⟩ | ⟨b,l,c,rfl,_⟩ <;> rfl
end
end Go.LM
