/- What is wrong of a program, as the program and the document tell it. No condition: plain lemmas. -/
import Derived.Test.YtgdkaddhhpgeiaaGreatDoorLBD
namespace Go.MD.LB
open Go Go.MD
theorem Contains_loop {l:List Int} {v:Int} (hl:l.length≤1000):∀ (d j n:Nat),j+d=l.length→d < n→∃ r,Z9g 1001 Z9f l v n (j:Int)=some r∧(0≤r↔v∈l.drop j):=by
  intro d
  induction d with
  | zero =>
    intro j n hj hn
    obtain ⟨n,rfl⟩:∃ m,n=m+1:=⟨n - 1,by omega⟩
    rw [Z9g,if_neg (by omega),List.drop_of_length_le (by omega)]
    exact ⟨-1,rfl,by simp⟩
  | succ d ih =>
    intro j n hj hn
    obtain ⟨n,rfl⟩:∃ m,n=m+1:=⟨n - 1,by omega⟩
    have h1:j < l.length:=by omega
    rw [Z9g,if_pos (by omega),getI_at rfl h1]
    simp only [Option.bind_some]
    rw [List.drop_eq_getElem_cons h1]
    by_cases h:v=l[j]
    · rw [if_pos h];exact ⟨j,rfl,fun _=>h ▸ .head _,fun _=>by omega⟩
    · rw [if_neg h, wsucc h1 (by omega)]
      obtain ⟨r,h2,h3⟩:=ih (j+1) n (by omega) (by omega)
      exact ⟨r,h2,h3.trans ⟨fun q=>.tail _ q,fun q=>(List.mem_cons.1 q).resolve_left h⟩⟩
theorem Contains_eq {l:List Int} {v:Int} (hl:l.length≤1000):Z8j 1001 l v=some (decide (v∈l)):=by
  obtain ⟨r,h1,h2⟩:=Contains_loop (v:=v) hl l.length 0 1001 (by omega) (by omega)
  unfold Z8j Z9e
  rw [show (0:Int)=((0:Nat):Int) from rfl,h1]
  simp only [Option.bind_some]
  rw [List.drop_zero] at h2
  congr 1
  exact decide_eq_decide.2 h2
def badU (p:api_Prog) (G:List Str) (u:legal_use):Option Int:=if what p G u.name∈u.may then none else some u.at'
def mayOk (u:legal_use):Prop:=u.may.length≤1000
theorem foldU {p:api_Prog} {G:List Str} (tw:Bool):∀ (l:List legal_use),(∀ u∈l,mayOk u)→foldK (yy (fun (s:Unit) (x:legal_use)=>(Z5q 1001 (baseM p ++ gM G,tw)) x)) some l (.inl ())=some (match l.findSome? (badU p G) with | some v=>.inr v | none=>.inl ())
  | [],_=>rfl
  | u :: l, h => by
    have e:Z5q 1001 (baseM p ++ gM G,tw) u=some (match badU p G u with | some v=>.inr v | none=>.inl ()):=by
      rw [Z5q,look_what,Contains_eq (h u (.head _))]
      simp only [Option.bind_some,badU]
      by_cases q:what p G u.name∈u.may
      · rw [decide_eq_true q,if_pos rfl,if_pos q]
      · rw [decide_eq_false q,if_neg (by decide),if_neg q]
    simp only [foldK,yy,e,Option.map_some,Option.bind_some,List.findSome?_cons]
    cases badU p G u with
    | some v=>rfl
    | none =>
      simp only [Sum.isLeft_inl,if_true]
      exact foldU tw l fun u hu=>h u (.tail _ hu)
theorem useV_may {l:List api_Node}:∀ u∈useV l,mayOk u:=by
  intro u hu
  obtain ⟨x,_,h⟩:=List.mem_filterMap.1 hu
  split at h
  · injection h with h;subst h;show ([5]:List Int).length≤1000;decide
  · cases h
theorem use1_may {x:api_Stmt}:∀ u∈use1 x,mayOk u:=by
  intro u hu
  simp only [use1,List.mem_append] at hu
  rcases hu with hu | hu | hu | hu
  · split at hu
    · simp only [List.mem_cons,List.not_mem_nil,or_false] at hu;subst hu;show ([5]:List Int).length≤1000;decide
    · cases hu
  · split at hu
    · simp only [List.mem_cons, List.not_mem_nil, or_false] at hu; subst hu
      show (mayK x.Kind).length≤1000
      unfold mayK;split
      · decide
      · split <;> decide
    · cases hu
  · exact useV_may u hu
  · exact useV_may u hu
theorem findSome_flatMap {α β γ:Type} (f:α→List β) (g:β→Option γ):∀ l:List α,(l.flatMap f).findSome? g=l.findSome? fun x=>(f x).findSome? g
  | []=>rfl
  | x :: l => by
    simp only [List.flatMap_cons,List.findSome?_append,List.findSome?_cons,findSome_flatMap f g l]
    cases (f x).findSome? g <;> rfl
def badS (p:api_Prog) (G:List Str) (x:api_Stmt):Option Int:=(use1 x).findSome? (badU p G)
theorem uses_check {p:api_Prog} {G:List Str} {l:List api_Stmt} (hl:l.length≤1000) (hs:∀ x∈l,smallS x) (tw:Bool) :
    Z70 1001 (yy (fun (s:Unit) (x:legal_use)=>(Z5q 1001 (baseM p ++ gM G,tw)) x)) (.inl ()) l=some (match l.findSome? (badS p G) with | some v=>.inr v | none=>.inl ()):=by
  rw [uses_eq hl hs,foldU tw _ (fun u hu=>by obtain ⟨x,_,h⟩:=List.mem_flatMap.1 hu;exact use1_may u h),findSome_flatMap]
  rfl
def varB (names:List Str) (x:api_Node):Option Int:=if x.Op=2∧x.Name ∉ names then some x.At else none
theorem useV_bad {p:api_Prog} {G:List Str} (ha:Apt p G):∀ l:List api_Node,(useV l).findSome? (badU p G)=l.findSome? (varB G)
  | []=>rfl
  | x :: l => by
    rw [List.findSome?_cons,← useV_bad ha l]
    unfold useV
    rw [List.filterMap_cons]
    by_cases h:x.Op=2
    · rw [if_pos h]
      simp only [List.findSome?_cons,badU,varB,List.mem_cons,List.not_mem_nil,or_false]
      by_cases q:x.Name∈G
      · rw [if_pos ((what5 ha).2 q),if_neg (fun k=>k.2 q)]
      · rw [if_neg (fun k=>q ((what5 ha).1 k)),if_pos ⟨h,q⟩]
    · rw [if_neg h]
      simp only [varB,if_neg (fun k:x.Op=2∧x.Name ∉ G=>h k.1)]
theorem fits_name {x:api_Stmt} (h:fitsS x=true):(x.Name=[]↔¬ (x.Kind=2∨x.Kind=3∨x.Kind=4∨x.Kind=5∨x.Kind=6∨x.Kind=9∨x.Kind=10)):=by
  simp only [fitsS,Bool.and_eq_true,decide_eq_true_eq] at h
  obtain ⟨⟨hk,_⟩,_,ht,_⟩:=h
  have cases14:x.Kind=1∨x.Kind=2∨x.Kind=3∨x.Kind=4∨x.Kind=5∨x.Kind=6∨x.Kind=7∨x.Kind=8∨x.Kind=9∨x.Kind=10∨x.Kind=11∨x.Kind=12∨x.Kind=13∨x.Kind=14:=by omega
  have nn:∀ s:Str,nameS s=true→s≠[]:=by intro s hs e;subst e;simp [nameS] at hs
  rcases cases14 with k | k | k | k | k | k | k | k | k | k | k | k | k | k <;> rw [k] at ht ⊢ <;>
    first
    | (have ht':textB true x.Name=true:=ht;have:=nn _ (by simpa [textB] using ht');simp [this])
    | (have ht' : textB false x.Name = true := ht; have : x.Name = [] := by simpa [textB] using ht'
       simp [this])
theorem nodeE {is:Bool} {l:List api_Node} (h:nodeB is l=true):l.length≤40∧∀ x∈l,0≤x.At∧x.At≤4000:=by
  unfold nodeB at h
  split at h
  · have h' : ∃ t, RightE l t := by unfold rightE at h; simpa using h
    obtain ⟨t,ht⟩:=h'
    refine ⟨ht.len,fun x hx=>?_⟩
    have:=ht.may x hx
    unfold mayS at this
    rw [Bool.and_eq_true,decide_eq_true_eq] at this
    exact this.1
  · have := of_decide_eq_true h
    subst this
    exact ⟨by simp,fun x hx=>by cases hx⟩
theorem fits_at {x:api_Stmt} (h:fitsS x=true):(0≤x.At∧x.At≤4000)∧(x.E.length≤40∧∀ y∈x.E,0≤y.At∧y.At≤4000)∧(x.F.length≤40∧∀ y∈x.F,0≤y.At∧y.At≤4000):=by
  simp only [fitsS,Bool.and_eq_true,decide_eq_true_eq] at h
  obtain ⟨⟨hk,_⟩,_,_,he,hf⟩:=h
  exact ⟨⟨hk.2.2.1,hk.2.2.2⟩,nodeE he,nodeE hf⟩
def nameB (p:api_Prog) (G:List Str) (x:api_Stmt):Option Int:=if x.Name≠[]∧what p G x.Name ∉ mayK x.Kind then some x.At else none
def regB (G:List Str) (x:api_Stmt):Option Int:=if x.Reg≠[]∧x.Reg ∉ G then some x.At else none
theorem badS_eq {p:api_Prog} {G:List Str} (ha:Apt p G) (x:api_Stmt):badS p G x=(regB G x).or ((nameB p G x).or ((x.E.findSome? (varB G)).or (x.F.findSome? (varB G)))):=by
  unfold badS use1
  rw [List.findSome?_append,List.findSome?_append,List.findSome?_append,useV_bad ha,useV_bad ha]
  congr 1
  · unfold regB
    by_cases h:x.Reg≠[]
    · rw [if_pos h]
      simp only [List.findSome?_cons,List.findSome?_nil,badU,List.mem_cons,List.not_mem_nil,or_false]
      by_cases q:x.Reg∈G
      · rw [if_pos ((what5 ha).2 q),if_neg (fun k=>k.2 q)]
      · rw [if_neg (fun k=>q ((what5 ha).1 k)),if_pos ⟨h,q⟩]
    · rw [if_neg h,if_neg (fun k=>h k.1)];rfl
  · congr 1
    unfold nameB
    by_cases h:x.Name≠[]
    · rw [if_pos h]
      simp only [List.findSome?_cons,List.findSome?_nil,badU]
      by_cases q:what p G x.Name∈mayK x.Kind
      · rw [if_pos q,if_neg (fun k=>k.2 q)]
      · rw [if_neg q,if_pos ⟨h,q⟩]
    · rw [if_neg h,if_neg (fun k=>h k.1)];rfl
end Go.MD.LB
