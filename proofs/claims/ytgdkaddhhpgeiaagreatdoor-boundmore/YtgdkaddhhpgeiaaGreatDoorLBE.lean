/- What is wrong of a program, as the program and the document tell it. No condition: plain lemmas. -/
import Derived.Test.YtgdkaddhhpgeiaaGreatDoorLBD
namespace Go.MD.LB
open Go Go.MD
theorem idx_neg {l:List Str} {s:Str} (h:s ∉ l) (k:Nat):idxS l s k < 0:=by
  have:=(idxS_nonneg l s k).1
  have h2:=fun z=>h (this.1 z)
  exact Int.not_le.1 h2
theorem Contains_loop {l:List Int} {v:Int} (hl:l.length≤1000):∀ (d j n:Nat),j+d=l.length→d < n→∃ r,Zbe 1001 Zbd l v n (j:Int)=some r∧(0≤r↔v∈l.drop j):=by
  intro d
  induction d with
  | zero =>
    intro j n hj hn
    obtain ⟨n,rfl⟩:∃ m,n=m+1:=⟨n - 1,by omega⟩
    rw [Zbe,if_neg (by omega),List.drop_of_length_le (by omega)]
    exact ⟨-1,rfl,by simp⟩
  | succ d ih =>
    intro j n hj hn
    obtain ⟨n,rfl⟩:∃ m,n=m+1:=⟨n - 1,by omega⟩
    have h1:j < l.length:=by omega
    rw [Zbe,if_pos (by omega),getI_at rfl h1]
    simp only [Option.bind_some]
    rw [List.drop_eq_getElem_cons h1]
    by_cases h:v=l[j]
    · rw [if_pos h];exact ⟨j,rfl,fun _=>h ▸ .head _,fun _=>by omega⟩
    · rw [if_neg h, wsucc h1 (by omega)]
      obtain ⟨r,h2,h3⟩:=ih (j+1) n (by omega) (by omega)
      exact ⟨r,h2,h3.trans ⟨fun q=>.tail _ q,fun q=>(List.mem_cons.1 q).resolve_left h⟩⟩
theorem Contains_eq {l:List Int} {v:Int} (hl:l.length≤1000):Zah 1001 l v=some (decide (v∈l)):=by
  obtain ⟨r,h1,h2⟩:=Contains_loop (v:=v) hl l.length 0 1001 (by omega) (by omega)
  unfold Zah Zbc
  rw [show (0:Int)=((0:Nat):Int) from rfl,h1]
  simp only [Option.bind_some]
  rw [List.drop_zero] at h2
  congr 1
  exact decide_eq_decide.2 h2
def badU (p:api_Prog) (G:List Str) (u:legal_use):Option Int:=if what p G u.name∈u.may then none else some u.at'
def mayOk (u:legal_use):Prop:=u.may.length≤1000
theorem foldU {p:api_Prog} {G:List Str} (tw:Bool):∀ (l:List legal_use),(∀ u∈l,mayOk u)→foldK (yy (fun (s:Unit) (x:legal_use)=>(Z7z 1001 (baseM p ++ gM G,tw)) x)) some l (.inl ())=some (match l.findSome? (badU p G) with | some v=>.inr v | none=>.inl ())
  | [],_=>rfl
  | u :: l, h => by
    have e:Z7z 1001 (baseM p ++ gM G,tw) u=some (match badU p G u with | some v=>.inr v | none=>.inl ()):=by
      rw [Z7z,look_what,Contains_eq (h u (.head _))]
      simp only [Option.bind_some,badU]
      by_cases q:what p G u.name∈u.may
      · rw [decide_eq_true q,if_pos rfl,if_pos q]
      · rw [decide_eq_false q,if_neg (by decide),if_neg q]
    simp only [foldK,yy,e,Option.map_some,Option.bind_some,List.findSome?_cons]
    cases badU p G u with
    | some v=>rfl
    | none =>
      simp only [Sum.isLeft_inl,if_true]
      exact foldU tw l fun u hu=>h u (.tail _ hu)
theorem useV_may {l:List api_Node}:∀ u∈useV l,mayOk u:=by
  intro u hu
  obtain ⟨x,_,h⟩:=List.mem_filterMap.1 hu
  split at h
  · injection h with h;subst h;show ([5]:List Int).length≤1000;decide
  · cases h
theorem use1_may {x:api_Stmt}:∀ u∈use1 x,mayOk u:=by
  intro u hu
  simp only [use1,List.mem_append] at hu
  rcases hu with hu | hu | hu | hu
  · split at hu
    · simp only [List.mem_cons,List.not_mem_nil,or_false] at hu;subst hu;show ([5]:List Int).length≤1000;decide
    · cases hu
  · split at hu
    · simp only [List.mem_cons, List.not_mem_nil, or_false] at hu; subst hu
      show (mayK x.Kind).length≤1000
      unfold mayK;split
      · decide
      · split <;> decide
    · cases hu
  · exact useV_may u hu
  · exact useV_may u hu
theorem findSome_flatMap {α β γ:Type} (f:α→List β) (g:β→Option γ):∀ l:List α,(l.flatMap f).findSome? g=l.findSome? fun x=>(f x).findSome? g
  | []=>rfl
  | x :: l => by
    simp only [List.flatMap_cons,List.findSome?_append,List.findSome?_cons,findSome_flatMap f g l]
    cases (f x).findSome? g <;> rfl
def badS (p:api_Prog) (G:List Str) (x:api_Stmt):Option Int:=(use1 x).findSome? (badU p G)
theorem uses_check {p:api_Prog} {G:List Str} {l:List api_Stmt} (hl:l.length≤1000) (hs:∀ x∈l,smallS x) (tw:Bool) :
    Z8y 1001 (yy (fun (s:Unit) (x:legal_use)=>(Z7z 1001 (baseM p ++ gM G,tw)) x)) (.inl ()) l=some (match l.findSome? (badS p G) with | some v=>.inr v | none=>.inl ()):=by
  rw [uses_eq hl hs,foldU tw _ (fun u hu=>by obtain ⟨x,_,h⟩:=List.mem_flatMap.1 hu;exact use1_may u h),findSome_flatMap]
  rfl
def varB (names:List Str) (x:api_Node):Option Int:=if x.Op=2∧x.Name ∉ names then some x.At else none
theorem rvars_loop {l:List api_Node} {names:List Str} (hl:l.length≤1000) (hnm:names.length≤1000):∀ (d j n:Nat),j+d=l.length→d < n→
    Z7l 1001 Z7j l names n (j:Int)=some (((l.drop j).findSome? (varB names)).getD (-1)):=by
  intro d
  induction d with
  | zero =>
    intro j n hj hn
    obtain ⟨n,rfl⟩:∃ m,n=m+1:=⟨n - 1,by omega⟩
    rw [Z7l,if_neg (by omega),List.drop_of_length_le (by omega)];rfl
  | succ d ih =>
    intro j n hj hn
    obtain ⟨n,rfl⟩:∃ m,n=m+1:=⟨n - 1,by omega⟩
    have h1:j < l.length:=by omega
    rw [Z7l,if_pos (by omega),getI_at rfl h1]
    simp only [Option.bind_some]
    rw [List.drop_eq_getElem_cons h1,List.findSome?_cons]
    have go:Z7k (Z7l 1001 Z7j l names n) l (j:Int) false=some (((l.drop (j+1)).findSome? (varB names)).getD (-1)):=by
      rw [Z7k,if_neg (by decide),wsucc h1 (by omega),ih (j+1) n (by omega) (by omega)]
    by_cases h:l[j].Op=2
    · rw [if_pos h, Place_eq hnm (by omega)]
      simp only [Option.bind_some]
      by_cases q:l[j].Name∈names
      · rw [decide_eq_false (fun k=>by have:=(idx_mem (l:=names) (s:=l[j].Name)).2 q;omega),go,varB,if_neg (fun k=>k.2 q)]
      · rw [decide_eq_true (idx_neg q 0), Z7k, if_pos rfl, getI_at rfl h1, varB, if_pos ⟨h, q⟩]
        rfl
    · rw [if_neg h,go,varB,if_neg (fun k=>h k.1)]
theorem rvars_eq {l:List api_Node} {names:List Str} (hl:l.length≤1000) (hn:names.length≤1000):Z7i 1001 l names=some ((l.findSome? (varB names)).getD (-1)):=by
  have:=rvars_loop hl hn l.length 0 1001 (by omega) (by omega)
  rw [List.drop_zero] at this
  exact this
theorem useV_bad {p:api_Prog} {G:List Str} (ha:Apt p G):∀ l:List api_Node,(useV l).findSome? (badU p G)=l.findSome? (varB G)
  | []=>rfl
  | x :: l => by
    rw [List.findSome?_cons,← useV_bad ha l]
    unfold useV
    rw [List.filterMap_cons]
    by_cases h:x.Op=2
    · rw [if_pos h]
      simp only [List.findSome?_cons,badU,varB,List.mem_cons,List.not_mem_nil,or_false]
      by_cases q:x.Name∈G
      · rw [if_pos ((what5 ha).2 q),if_neg (fun k=>k.2 q)]
      · rw [if_neg (fun k=>q ((what5 ha).1 k)),if_pos ⟨h,q⟩]
    · rw [if_neg h]
      simp only [varB,if_neg (fun k:x.Op=2∧x.Name ∉ G=>h k.1)]
theorem first_at {α:Type} {f:α→Option Int} {l:List α} {v:Int} (h:l.findSome? f=some v):∃ x∈l,f x=some v:=List.exists_of_findSome?_eq_some h
theorem var_at {names:List Str} {l:List api_Node} (hl:∀ x∈l,0≤x.At) {v:Int} (h:l.findSome? (varB names)=some v):0≤v:=by
  obtain ⟨x,hx,e⟩:=first_at h
  unfold varB at e
  split at e
  · injection e with e;subst e;exact hl x hx
  · cases e
theorem fits_name {x:api_Stmt} (h:fitsS x=true):(x.Name=[]↔¬ (x.Kind=2∨x.Kind=3∨x.Kind=4∨x.Kind=5∨x.Kind=6∨x.Kind=9∨x.Kind=10)):=by
  simp only [fitsS,Bool.and_eq_true,decide_eq_true_eq] at h
  obtain ⟨⟨hk,_⟩,_,ht,_⟩:=h
  have cases14:x.Kind=1∨x.Kind=2∨x.Kind=3∨x.Kind=4∨x.Kind=5∨x.Kind=6∨x.Kind=7∨x.Kind=8∨x.Kind=9∨x.Kind=10∨x.Kind=11∨x.Kind=12∨x.Kind=13∨x.Kind=14:=by omega
  have nn:∀ s:Str,nameS s=true→s≠[]:=by intro s hs e;subst e;simp [nameS] at hs
  rcases cases14 with k | k | k | k | k | k | k | k | k | k | k | k | k | k <;> rw [k] at ht ⊢ <;>
    first
    | (have ht':textB true x.Name=true:=ht;have:=nn _ (by simpa [textB] using ht');simp [this])
    | (have ht' : textB false x.Name = true := ht; have : x.Name = [] := by simpa [textB] using ht'
       simp [this])
theorem nodeE {is:Bool} {l:List api_Node} (h:nodeB is l=true):l.length≤40∧∀ x∈l,0≤x.At∧x.At≤4000:=by
  unfold nodeB at h
  split at h
  · have h' : ∃ t, RightE l t := by unfold rightE at h; simpa using h
    obtain ⟨t,ht⟩:=h'
    refine ⟨ht.len,fun x hx=>?_⟩
    have:=ht.may x hx
    unfold mayS at this
    rw [Bool.and_eq_true,decide_eq_true_eq] at this
    exact this.1
  · have := of_decide_eq_true h
    subst this
    exact ⟨by simp,fun x hx=>by cases hx⟩
theorem fits_at {x:api_Stmt} (h:fitsS x=true):(0≤x.At∧x.At≤4000)∧(x.E.length≤40∧∀ y∈x.E,0≤y.At∧y.At≤4000)∧(x.F.length≤40∧∀ y∈x.F,0≤y.At∧y.At≤4000):=by
  simp only [fitsS,Bool.and_eq_true,decide_eq_true_eq] at h
  obtain ⟨⟨hk,_⟩,_,_,he,hf⟩:=h
  exact ⟨⟨hk.2.2.1,hk.2.2.2⟩,nodeE he,nodeE hf⟩
def nameB (p:api_Prog) (G:List Str) (x:api_Stmt):Option Int:=if x.Name≠[]∧what p G x.Name ∉ mayK x.Kind then some x.At else none
def regB (G:List Str) (x:api_Stmt):Option Int:=if x.Reg≠[]∧x.Reg ∉ G then some x.At else none
theorem badS_eq {p:api_Prog} {G:List Str} (ha:Apt p G) (x:api_Stmt):badS p G x=(regB G x).or ((nameB p G x).or ((x.E.findSome? (varB G)).or (x.F.findSome? (varB G)))):=by
  unfold badS use1
  rw [List.findSome?_append,List.findSome?_append,List.findSome?_append,useV_bad ha,useV_bad ha]
  congr 1
  · unfold regB
    by_cases h:x.Reg≠[]
    · rw [if_pos h]
      simp only [List.findSome?_cons,List.findSome?_nil,badU,List.mem_cons,List.not_mem_nil,or_false]
      by_cases q:x.Reg∈G
      · rw [if_pos ((what5 ha).2 q),if_neg (fun k=>k.2 q)]
      · rw [if_neg (fun k=>q ((what5 ha).1 k)),if_pos ⟨h,q⟩]
    · rw [if_neg h,if_neg (fun k=>h k.1)];rfl
  · congr 1
    unfold nameB
    by_cases h:x.Name≠[]
    · rw [if_pos h]
      simp only [List.findSome?_cons,List.findSome?_nil,badU]
      by_cases q:what p G x.Name∈mayK x.Kind
      · rw [if_pos q,if_neg (fun k=>k.2 q)]
      · rw [if_neg q,if_pos ⟨h,q⟩]
    · rw [if_neg h,if_neg (fun k=>h k.1)];rfl
theorem stat_j2 {t:api_Thread} {x:api_Stmt} (hx:fitsS x=true) (hr:t.Regs.length≤1000):Z78 1001 t x=some (((x.E.findSome? (varB t.Regs)).or (x.F.findSome? (varB t.Regs))).getD (-1)):=by
  obtain ⟨_,⟨he,hea⟩,⟨hf,_⟩⟩:=fits_at hx
  rw [Z78,rvars_eq (by omega) hr]
  simp only [Option.bind_some]
  cases h:x.E.findSome? (varB t.Regs) with
  | some v =>
    have:=var_at (fun y hy=>(hea y hy).1) h
    rw [if_pos (by simpa using this)];rfl
  | none =>
    rw [if_neg (by simp),rvars_eq (by omega) hr];rfl
theorem stat_names {p:api_Prog} (hp:SmallP p) {x:api_Stmt} {G:List Str} (ha:Apt p G) (hx:fitsS x=true) (k:Option Int) :
    (if x.Kind=2 then Z79 1001 k p x (idxS ((flatC p).map (·.Name)) x.Name 0) (decide (x.Kind=2)) else
      if x.Kind=3 then Z79 1001 k p x (idxS ((flatC p).map (·.Name)) x.Name 0) (decide (x.Kind=3)) else
        Z79 1001 k p x (idxS ((flatC p).map (·.Name)) x.Name 0) (decide (x.Kind=4)))=(match nameB p G x with | some v=>some v | none=>k):=by
  have hC:=flatC_le hp
  have hL:=hp.locks
  have hn:=fits_name hx
  have ix:=idx_mem (l:=(flatC p).map (·.Name)) (s:=x.Name)
  have e1:(if x.Kind=2 then Z79 1001 k p x (idxS ((flatC p).map (·.Name)) x.Name 0) (decide (x.Kind=2)) else
      if x.Kind=3 then Z79 1001 k p x (idxS ((flatC p).map (·.Name)) x.Name 0) (decide (x.Kind=3)) else
        Z79 1001 k p x (idxS ((flatC p).map (·.Name)) x.Name 0) (decide (x.Kind=4)))=Z79 1001 k p x (idxS ((flatC p).map (·.Name)) x.Name 0) (decide (x.Kind=2∨x.Kind=3∨x.Kind=4)):=by
    by_cases h2:x.Kind=2
    · rw [if_pos h2,decide_eq_true h2,decide_eq_true (.inl h2)]
    · rw [if_neg h2]
      by_cases h3:x.Kind=3
      · rw [if_pos h3,decide_eq_true h3,decide_eq_true (.inr (.inl h3))]
      · rw [if_neg h3];congr 1;exact decide_eq_decide.2 (by omega)
  rw [e1,Z79]
  by_cases c1:x.Kind=2∨x.Kind=3∨x.Kind=4
  · have hne : x.Name ≠ [] := fun e => hn.1 e (by omega)
    have hm:mayK x.Kind=[1,2]:=by unfold mayK;rw [if_neg (by omega),if_neg (by omega)]
    rw [decide_eq_true c1,if_pos rfl,nameB,hm]
    have hw:=what12 (p:=p) (G:=G) (s:=x.Name)
    rw [← flat_names] at hw
    simp only [List.mem_cons,List.not_mem_nil,or_false]
    by_cases q:x.Name∈(flatC p).map (·.Name)
    · rw [if_neg (by have:=ix.2 q;omega),if_neg (fun z=>z.2 (hw.2 q))]
    · rw [if_pos (idx_neg q 0),if_pos ⟨hne,fun z=>q (hw.1 z)⟩]
  rw [decide_eq_false c1,if_neg (by decide)]
  have e2:(if x.Kind=5 then Z7a 1001 k p x (idxS ((flatC p).map (·.Name)) x.Name 0) (decide (x.Kind=5)) else Z7a 1001 k p x (idxS ((flatC p).map (·.Name)) x.Name 0) (decide (x.Kind=6))) =
      Z7a 1001 k p x (idxS ((flatC p).map (·.Name)) x.Name 0) (decide (x.Kind=5∨x.Kind=6)):=by
    by_cases h2:x.Kind=5
    · rw [if_pos h2,decide_eq_true h2,decide_eq_true (.inl h2)]
    · rw [if_neg h2];congr 1;exact decide_eq_decide.2 (by omega)
  rw [e2,Z7a]
  by_cases c2:x.Kind=5∨x.Kind=6
  · have hne : x.Name ≠ [] := fun e => hn.1 e (by omega)
    have hm:mayK x.Kind=[1]:=if_pos c2
    rw [decide_eq_true c2,if_pos rfl,nameB,hm]
    simp only [List.mem_cons,List.not_mem_nil,or_false]
    have hw:=what1 (p:=p) (G:=G) (s:=x.Name)
    have hA:(A1 p).length=p.Lines.flatten.length:=List.length_map _
    have hi:=idxS_app (A1 p) (A2 p) x.Name 0
    have hn1:=idxS_nonneg (A1 p) x.Name 0
    have hn2:=idxS_nonneg (A2 p) x.Name (0+(A1 p).length)
    rw [flat_names] at ix ⊢
    by_cases q:x.Name∈A1 p
    · rw [if_pos q] at hi
      have h1:=hn1.2 q
      rw [hi,if_neg (by omega),RStays_eq hp]
      simp only [Option.bind_some]
      rw [Z7b,decide_eq_false (by omega),if_neg (by decide),if_neg (fun z=>z.2 (hw.2 q))]
    · rw [if_neg q] at hi
      rw [hi]
      by_cases q2:x.Name∈A2 p
      · have h1 := hn2.2 q2
        rw [if_neg (by omega),RStays_eq hp]
        simp only [Option.bind_some]
        rw [Z7b,decide_eq_true (by omega),if_pos rfl,if_pos ⟨hne,fun z=>q (hw.1 z)⟩]
      · rw [if_pos (idx_neg q2 _),Z7b,if_pos rfl,if_pos ⟨hne,fun z=>q (hw.1 z)⟩]
  rw [decide_eq_false c2,if_neg (by decide)]
  have e3:(if x.Kind=9 then Z7c 1001 k p x (decide (x.Kind=9)) else Z7c 1001 k p x (decide (x.Kind=10)))=Z7c 1001 k p x (decide (x.Kind=9∨x.Kind=10)):=by
    by_cases h2:x.Kind=9
    · rw [if_pos h2,decide_eq_true h2,decide_eq_true (.inl h2)]
    · rw [if_neg h2];congr 1;exact decide_eq_decide.2 (by omega)
  rw [e3,Z7c]
  by_cases c3:x.Kind=9∨x.Kind=10
  · have hne : x.Name ≠ [] := fun e => hn.1 e (by omega)
    rw [decide_eq_true c3,if_pos rfl,RLocks_eq hp]
    simp only [Option.bind_some]
    have hm:mayK x.Kind=[3]:=by unfold mayK;rw [if_neg c2,if_pos c3]
    rw [Place_eq (by simp;omega) (by simp;omega),nameB,hm]
    simp only [Option.bind_some,List.mem_cons,List.not_mem_nil,or_false]
    have hw:=what3 ha (s:=x.Name)
    have iy:=idx_mem (l:=p.Locks.map (·.Name)) (s:=x.Name)
    by_cases q:x.Name∈p.Locks.map (·.Name)
    · rw [if_neg (by have:=iy.2 q;omega),if_neg (fun z=>z.2 (hw.2 q))]
    · rw [if_pos (idx_neg q 0),if_pos ⟨hne,fun z=>q (hw.1 z)⟩]
  · rw [decide_eq_false c3,if_neg (by decide),nameB,if_neg (fun z=>z.1 (hn.2 (by omega)))]
theorem stat_eq {p:api_Prog} (hp:SmallP p) {t:api_Thread} (hr:t.Regs.length≤1000) {x:api_Stmt} (ha:Apt p t.Regs) (hx:fitsS x=true):Z76 1001 p t x=some ((badS p t.Regs x).getD (-1)):=by
  have hC:=flatC_le hp
  rw [badS_eq ha]
  have go:Z77 1001 p t x false=some (((nameB p t.Regs x).or ((x.E.findSome? (varB t.Regs)).or (x.F.findSome? (varB t.Regs)))).getD (-1)):=by
    rw [Z77,if_neg (by decide),RCells_eq hp]
    simp only [Option.bind_some]
    rw [Place_eq (by simp;omega) (by simp;omega)]
    simp only [Option.bind_some]
    rw [stat_names hp ha hx,stat_j2 hx hr]
    cases nameB p t.Regs x <;> rfl
  unfold Z76 regB
  by_cases h:x.Reg≠[]
  · rw [if_pos h, Place_eq hr (by omega)]
    simp only [Option.bind_some]
    have ix:=idx_mem (l:=t.Regs) (s:=x.Reg)
    by_cases q:x.Reg∈t.Regs
    · rw [decide_eq_false (by have:=ix.2 q;omega),go,if_neg (fun z=>z.2 q),Option.none_or]
    · rw [decide_eq_true (idx_neg q 0),Z77,if_pos rfl,if_pos ⟨h,q⟩];rfl
  · rw [if_neg h,go,if_neg (fun z=>h z.1),Option.none_or]
theorem badS_at {p:api_Prog} {G:List Str} {x:api_Stmt} (hx:fitsS x=true) {v:Int} (h:badS p G x=some v):0≤v∧v≤4000:=by
  obtain ⟨h1,⟨_,h2⟩,⟨_,h3⟩⟩:=fits_at hx
  obtain ⟨u,hu,e⟩:=first_at h
  have hv:u.at'=v:=by
    unfold badU at e;split at e
    · cases e
    · exact Option.some.inj e
  subst hv
  simp only [use1,List.mem_append] at hu
  have node:∀ {l:List api_Node},(∀ y∈l,0≤y.At∧y.At≤4000)→u∈useV l→0≤u.at'∧u.at'≤4000:=by
    intro l hl hu
    obtain ⟨y,hy,e⟩:=List.mem_filterMap.1 hu
    split at e
    · injection e with e;subst e;exact hl y hy
    · cases e
  rcases hu with hu | hu | hu | hu
  · split at hu
    · simp only [List.mem_cons,List.not_mem_nil,or_false] at hu;subst hu;exact h1
    · cases hu
  · split at hu
    · simp only [List.mem_cons,List.not_mem_nil,or_false] at hu;subst hu;exact h1
    · cases hu
  · exact node h2 hu
  · exact node h3 hu
end Go.MD.LB
