/- What is wrong of a program, as the program and the document tell it. No condition: plain lemmas. -/
import Derived.Test.YtgdkaddhhpgeiaaGreatDoorLBD
namespace Go.MD.LB
open Go Go.MD
theorem Jl {l:List Str} {s:Str} (h:s ∉ l) (k:Nat):Ee l s k < 0:=by
  have:=(Dz l s k).1
  have h2:=fun z=>h (this.1 z)
  exact Int.not_le.1 h2
theorem Mh {l:List Int} {v:Int} (hl:l.length≤1000):∀ (d j n:Nat),j+d=l.length→d < n→∃ r,Zbk 1001 Zbj l v n (j:Int)=some r∧(0≤r↔v∈l.drop j):=by
  intro d
  induction d with
  | zero =>
    intro j n hj hn
    obtain ⟨n,rfl⟩:∃ m,n=m+1:=⟨n - 1,by omega⟩
    rw [Zbk,if_neg (by omega),List.drop_of_length_le (by omega)]
    exact ⟨-1,rfl,by simp⟩
  | succ d ih =>
    intro j n hj hn
    obtain ⟨n,rfl⟩:∃ m,n=m+1:=⟨n - 1,by omega⟩
    have h1:j < l.length:=by omega
    rw [Zbk,if_pos (by omega),As rfl h1]
    simp only [Option.bind_some]
    rw [List.drop_eq_getElem_cons h1]
    by_cases h:v=l[j]
    · rw [if_pos h];exact ⟨j,rfl,fun _=>h ▸ .head _,fun _=>by omega⟩
    · rw [if_neg h, Be h1 (by omega)]
      obtain ⟨r,h2,h3⟩:=ih (j+1) n (by omega) (by omega)
      exact ⟨r,h2,h3.trans ⟨fun q=>.tail _ q,fun q=>(List.mem_cons.1 q).resolve_left h⟩⟩
theorem Qe {l:List Int} {v:Int} (hl:l.length≤1000):Zan 1001 l v=some (decide (v∈l)):=by
  obtain ⟨r,h1,h2⟩:=Mh (v:=v) hl l.length 0 1001 (by omega) (by omega)
  unfold Zan Zbi
  rw [show (0:Int)=((0:Nat):Int) from rfl,h1]
  simp only [Option.bind_some]
  rw [List.drop_zero] at h2
  congr 1
  exact decide_eq_decide.2 h2
def Ml (p:api_Prog) (G:List Str) (u:legal_use):Option Int:=if Ic p G u.name∈u.may then none else some u.at'
def Vz (u:legal_use):Prop:=u.may.length≤1000
theorem Ja2 {p:api_Prog} {G:List Str} (tw:Bool):∀ (l:List legal_use),(∀ u∈l,Vz u)→Cb (yy (fun (s:Unit) (x:legal_use)=>(Z85 1001 (Fq p ++ gM G,tw)) x)) some l (.inl ())=some (match l.findSome? (Ml p G) with | some v=>.inr v | none=>.inl ())
  | [],_=>rfl
  | u :: l, h => by
    have e:Z85 1001 (Fq p ++ gM G,tw) u=some (match Ml p G u with | some v=>.inr v | none=>.inl ()):=by
      rw [Z85,Tw,Qe (h u (.head _))]
      simp only [Option.bind_some,Ml]
      by_cases q:Ic p G u.name∈u.may
      · rw [decide_eq_true q,if_pos rfl,if_pos q]
      · rw [decide_eq_false q,if_neg (by decide),if_neg q]
    simp only [Cb,yy,e,Option.map_some,Option.bind_some,List.findSome?_cons]
    cases Ml p G u with
    | some v=>rfl
    | none =>
      simp only [Sum.isLeft_inl,if_true]
      exact Ja2 tw l fun u hu=>h u (.tail _ hu)
theorem Qf {l:List api_Node}:∀ u∈Ho l,Vz u:=by
  intro u hu
  obtain ⟨x,_,h⟩:=List.mem_filterMap.1 hu
  split at h
  · injection h with h;subst h;show ([5]:List Int).length≤1000;decide
  · cases h
theorem Xd {x:api_Stmt}:∀ u∈Kj x,Vz u:=by
  intro u hu
  simp only [Kj,List.mem_append] at hu
  rcases hu with hu | hu | hu | hu
  · split at hu
    · simp only [List.mem_cons,List.not_mem_nil,or_false] at hu;subst hu;show ([5]:List Int).length≤1000;decide
    · cases hu
  · split at hu
    · simp only [List.mem_cons, List.not_mem_nil, or_false] at hu; subst hu
      show (Ig x.Kind).length≤1000
      unfold Ig;split
      · decide
      · split <;> decide
    · cases hu
  · exact Qf u hu
  · exact Qf u hu
theorem Gj {α β γ:Type} (f:α→List β) (g:β→Option γ):∀ l:List α,(l.flatMap f).findSome? g=l.findSome? fun x=>(f x).findSome? g
  | []=>rfl
  | x :: l => by
    simp only [List.flatMap_cons,List.findSome?_append,List.findSome?_cons,Gj f g l]
    cases (f x).findSome? g <;> rfl
def Kx (p:api_Prog) (G:List Str) (x:api_Stmt):Option Int:=(Kj x).findSome? (Ml p G)
theorem Qo {p:api_Prog} {G:List Str} {l:List api_Stmt} (hl:l.length≤1000) (hs:∀ x∈l,Do x) (tw:Bool) :
    Z94 1001 (yy (fun (s:Unit) (x:legal_use)=>(Z85 1001 (Fq p ++ gM G,tw)) x)) (.inl ()) l=some (match l.findSome? (Kx p G) with | some v=>.inr v | none=>.inl ()):=by
  rw [Yn hl hs,Ja2 tw _ (fun u hu=>by obtain ⟨x,_,h⟩:=List.mem_flatMap.1 hu;exact Xd u h),Gj]
  rfl
def Ff (names:List Str) (x:api_Node):Option Int:=if x.Op=2∧x.Name ∉ names then some x.At else none
theorem Rh {l:List api_Node} {names:List Str} (hl:l.length≤1000) (hnm:names.length≤1000):∀ (d j n:Nat),j+d=l.length→d < n→
    Z7l 1001 Z7j l names n (j:Int)=some (((l.drop j).findSome? (Ff names)).getD (-1)):=by
  intro d
  induction d with
  | zero =>
    intro j n hj hn
    obtain ⟨n,rfl⟩:∃ m,n=m+1:=⟨n - 1,by omega⟩
    rw [Z7l,if_neg (by omega),List.drop_of_length_le (by omega)];rfl
  | succ d ih =>
    intro j n hj hn
    obtain ⟨n,rfl⟩:∃ m,n=m+1:=⟨n - 1,by omega⟩
    have h1:j < l.length:=by omega
    rw [Z7l,if_pos (by omega),As rfl h1]
    simp only [Option.bind_some]
    rw [List.drop_eq_getElem_cons h1,List.findSome?_cons]
    have go:Z7k (Z7l 1001 Z7j l names n) l (j:Int) false=some (((l.drop (j+1)).findSome? (Ff names)).getD (-1)):=by
      rw [Z7k,if_neg (by decide),Be h1 (by omega),ih (j+1) n (by omega) (by omega)]
    by_cases h:l[j].Op=2
    · rw [if_pos h, Ew hnm (by omega)]
      simp only [Option.bind_some]
      by_cases q:l[j].Name∈names
      · rw [decide_eq_false (fun k=>by have:=(Fz (l:=names) (s:=l[j].Name)).2 q;omega),go,Ff,if_neg (fun k=>k.2 q)]
      · rw [decide_eq_true (Jl q 0), Z7k, if_pos rfl, As rfl h1, Ff, if_pos ⟨h, q⟩]
        rfl
    · rw [if_neg h,go,Ff,if_neg (fun k=>h k.1)]
theorem Md {l:List api_Node} {names:List Str} (hl:l.length≤1000) (hn:names.length≤1000):Z7i 1001 l names=some ((l.findSome? (Ff names)).getD (-1)):=by
  have:=Rh hl hn l.length 0 1001 (by omega) (by omega)
  rw [List.drop_zero] at this
  exact this
theorem Lt {p:api_Prog} {G:List Str} (ha:Apt p G):∀ l:List api_Node,(Ho l).findSome? (Ml p G)=l.findSome? (Ff G)
  | []=>rfl
  | x :: l => by
    rw [List.findSome?_cons,← Lt ha l]
    unfold Ho
    rw [List.filterMap_cons]
    by_cases h:x.Op=2
    · rw [if_pos h]
      simp only [List.findSome?_cons,Ml,Ff,List.mem_cons,List.not_mem_nil,or_false]
      by_cases q:x.Name∈G
      · rw [if_pos ((Sx ha).2 q),if_neg (fun k=>k.2 q)]
      · rw [if_neg (fun k=>q ((Sx ha).1 k)),if_pos ⟨h,q⟩]
    · rw [if_neg h]
      simp only [Ff,if_neg (fun k:x.Op=2∧x.Name ∉ G=>h k.1)]
theorem Ot {α:Type} {f:α→Option Int} {l:List α} {v:Int} (h:l.findSome? f=some v):∃ x∈l,f x=some v:=List.exists_of_findSome?_eq_some h
theorem Vl {names:List Str} {l:List api_Node} (hl:∀ x∈l,0≤x.At) {v:Int} (h:l.findSome? (Ff names)=some v):0≤v:=by
  obtain ⟨x,hx,e⟩:=Ot h
  unfold Ff at e
  split at e
  · injection e with e;subst e;exact hl x hx
  · cases e
theorem Ud {x:api_Stmt} (h:Cz x=true):(x.Name=[]↔¬ (x.Kind=2∨x.Kind=3∨x.Kind=4∨x.Kind=5∨x.Kind=6∨x.Kind=9∨x.Kind=10)):=by
  simp only [Cz,Bool.and_eq_true,decide_eq_true_eq] at h
  obtain ⟨⟨hk,_⟩,_,ht,_⟩:=h
  have cases14:x.Kind=1∨x.Kind=2∨x.Kind=3∨x.Kind=4∨x.Kind=5∨x.Kind=6∨x.Kind=7∨x.Kind=8∨x.Kind=9∨x.Kind=10∨x.Kind=11∨x.Kind=12∨x.Kind=13∨x.Kind=14:=by omega
  have nn:∀ s:Str,Cj s=true→s≠[]:=by intro s hs e;subst e;simp [Cj] at hs
  rcases cases14 with k | k | k | k | k | k | k | k | k | k | k | k | k | k <;> rw [k] at ht ⊢ <;>
    first
    | (have ht':Fc true x.Name=true:=ht;have:=nn _ (by simpa [Fc] using ht');simp [this])
    | (have ht' : Fc false x.Name = true := ht; have : x.Name = [] := by simpa [Fc] using ht'
       simp [this])
theorem Ve {is:Bool} {l:List api_Node} (h:Fb is l=true):l.length≤40∧∀ x∈l,0≤x.At∧x.At≤4000:=by
  unfold Fb at h
  split at h
  · have h' : ∃ t, RightE l t := by unfold He at h; simpa using h
    obtain ⟨t,ht⟩:=h'
    refine ⟨ht.len,fun x hx=>?_⟩
    have:=ht.may x hx
    unfold Ie at this
    rw [Bool.and_eq_true,decide_eq_true_eq] at this
    exact this.1
  · have := of_decide_eq_true h
    subst this
    exact ⟨by simp,fun x hx=>by cases hx⟩
theorem Nu {x:api_Stmt} (h:Cz x=true):(0≤x.At∧x.At≤4000)∧(x.E.length≤40∧∀ y∈x.E,0≤y.At∧y.At≤4000)∧(x.F.length≤40∧∀ y∈x.F,0≤y.At∧y.At≤4000):=by
  simp only [Cz,Bool.and_eq_true,decide_eq_true_eq] at h
  obtain ⟨⟨hk,_⟩,_,_,he,hf⟩:=h
  exact ⟨⟨hk.2.2.1,hk.2.2.2⟩,Ve he,Ve hf⟩
def Jm (p:api_Prog) (G:List Str) (x:api_Stmt):Option Int:=if x.Name≠[]∧Ic p G x.Name ∉ Ig x.Kind then some x.At else none
def Ja9 (G:List Str) (x:api_Stmt):Option Int:=if x.Reg≠[]∧x.Reg ∉ G then some x.At else none
theorem Yy {p:api_Prog} {G:List Str} (ha:Apt p G) (x:api_Stmt):Kx p G x=(Ja9 G x).or ((Jm p G x).or ((x.E.findSome? (Ff G)).or (x.F.findSome? (Ff G)))):=by
  unfold Kx Kj
  rw [List.findSome?_append,List.findSome?_append,List.findSome?_append,Lt ha,Lt ha]
  congr 1
  · unfold Ja9
    by_cases h:x.Reg≠[]
    · rw [if_pos h]
      simp only [List.findSome?_cons,List.findSome?_nil,Ml,List.mem_cons,List.not_mem_nil,or_false]
      by_cases q:x.Reg∈G
      · rw [if_pos ((Sx ha).2 q),if_neg (fun k=>k.2 q)]
      · rw [if_neg (fun k=>q ((Sx ha).1 k)),if_pos ⟨h,q⟩]
    · rw [if_neg h,if_neg (fun k=>h k.1)];rfl
  · congr 1
    unfold Jm
    by_cases h:x.Name≠[]
    · rw [if_pos h]
      simp only [List.findSome?_cons,List.findSome?_nil,Ml]
      by_cases q:Ic p G x.Name∈Ig x.Kind
      · rw [if_pos q,if_neg (fun k=>k.2 q)]
      · rw [if_neg q,if_pos ⟨h,q⟩]
    · rw [if_neg h,if_neg (fun k=>h k.1)];rfl
theorem Yt {t:api_Thread} {x:api_Stmt} (hx:Cz x=true) (hr:t.Regs.length≤1000):Z78 1001 t x=some (((x.E.findSome? (Ff t.Regs)).or (x.F.findSome? (Ff t.Regs))).getD (-1)):=by
  obtain ⟨_,⟨he,hea⟩,⟨hf,_⟩⟩:=Nu hx
  rw [Z78,Md (by omega) hr]
  simp only [Option.bind_some]
  cases h:x.E.findSome? (Ff t.Regs) with
  | some v =>
    have:=Vl (fun y hy=>(hea y hy).1) h
    rw [if_pos (by simpa using this)];rfl
  | none =>
    rw [if_neg (by simp),Md (by omega) hr];rfl
theorem Ro {p:api_Prog} (hp:SmallP p) {x:api_Stmt} {G:List Str} (ha:Apt p G) (hx:Cz x=true) (k:Option Int) :
    (if x.Kind=2 then Z79 1001 k p x (Ee ((Ce p).map (·.Name)) x.Name 0) (decide (x.Kind=2)) else
      if x.Kind=3 then Z79 1001 k p x (Ee ((Ce p).map (·.Name)) x.Name 0) (decide (x.Kind=3)) else
        Z79 1001 k p x (Ee ((Ce p).map (·.Name)) x.Name 0) (decide (x.Kind=4)))=(match Jm p G x with | some v=>some v | none=>k):=by
  have hC:=Eb hp
  have hL:=hp.locks
  have hn:=Ud hx
  have ix:=Fz (l:=(Ce p).map (·.Name)) (s:=x.Name)
  have e1:(if x.Kind=2 then Z79 1001 k p x (Ee ((Ce p).map (·.Name)) x.Name 0) (decide (x.Kind=2)) else
      if x.Kind=3 then Z79 1001 k p x (Ee ((Ce p).map (·.Name)) x.Name 0) (decide (x.Kind=3)) else
        Z79 1001 k p x (Ee ((Ce p).map (·.Name)) x.Name 0) (decide (x.Kind=4)))=Z79 1001 k p x (Ee ((Ce p).map (·.Name)) x.Name 0) (decide (x.Kind=2∨x.Kind=3∨x.Kind=4)):=by
    by_cases h2:x.Kind=2
    · rw [if_pos h2,decide_eq_true h2,decide_eq_true (.inl h2)]
    · rw [if_neg h2]
      by_cases h3:x.Kind=3
      · rw [if_pos h3,decide_eq_true h3,decide_eq_true (.inr (.inl h3))]
      · rw [if_neg h3];congr 1;exact decide_eq_decide.2 (by omega)
  rw [e1,Z79]
  by_cases c1:x.Kind=2∨x.Kind=3∨x.Kind=4
  · have hne : x.Name ≠ [] := fun e => hn.1 e (by omega)
    have hm:Ig x.Kind=[1,2]:=by unfold Ig;rw [if_neg (by omega),if_neg (by omega)]
    rw [decide_eq_true c1,if_pos rfl,Jm,hm]
    have hw:=JaC (p:=p) (G:=G) (s:=x.Name)
    rw [← Ep] at hw
    simp only [List.mem_cons,List.not_mem_nil,or_false]
    by_cases q:x.Name∈(Ce p).map (·.Name)
    · rw [if_neg (by have:=ix.2 q;omega),if_neg (fun z=>z.2 (hw.2 q))]
    · rw [if_pos (Jl q 0),if_pos ⟨hne,fun z=>q (hw.1 z)⟩]
  rw [decide_eq_false c1,if_neg (by decide)]
  have e2:(if x.Kind=5 then Z7a 1001 k p x (Ee ((Ce p).map (·.Name)) x.Name 0) (decide (x.Kind=5)) else Z7a 1001 k p x (Ee ((Ce p).map (·.Name)) x.Name 0) (decide (x.Kind=6))) =
      Z7a 1001 k p x (Ee ((Ce p).map (·.Name)) x.Name 0) (decide (x.Kind=5∨x.Kind=6)):=by
    by_cases h2:x.Kind=5
    · rw [if_pos h2,decide_eq_true h2,decide_eq_true (.inl h2)]
    · rw [if_neg h2];congr 1;exact decide_eq_decide.2 (by omega)
  rw [e2,Z7a]
  by_cases c2:x.Kind=5∨x.Kind=6
  · have hne : x.Name ≠ [] := fun e => hn.1 e (by omega)
    have hm:Ig x.Kind=[1]:=if_pos c2
    rw [decide_eq_true c2,if_pos rfl,Jm,hm]
    simp only [List.mem_cons,List.not_mem_nil,or_false]
    have hw:=Jcu (p:=p) (G:=G) (s:=x.Name)
    have hA:(A1 p).length=p.Lines.flatten.length:=List.length_map _
    have hi:=Lb (A1 p) (A2 p) x.Name 0
    have hn1:=Dz (A1 p) x.Name 0
    have hn2:=Dz (A2 p) x.Name (0+(A1 p).length)
    rw [Ep] at ix ⊢
    by_cases q:x.Name∈A1 p
    · rw [if_pos q] at hi
      have h1:=hn1.2 q
      rw [hi,if_neg (by omega),Jv hp]
      simp only [Option.bind_some]
      rw [Z7b,decide_eq_false (by omega),if_neg (by decide),if_neg (fun z=>z.2 (hw.2 q))]
    · rw [if_neg q] at hi
      rw [hi]
      by_cases q2:x.Name∈A2 p
      · have h1 := hn2.2 q2
        rw [if_neg (by omega),Jv hp]
        simp only [Option.bind_some]
        rw [Z7b,decide_eq_true (by omega),if_pos rfl,if_pos ⟨hne,fun z=>q (hw.1 z)⟩]
      · rw [if_pos (Jl q2 _),Z7b,if_pos rfl,if_pos ⟨hne,fun z=>q (hw.1 z)⟩]
  rw [decide_eq_false c2,if_neg (by decide)]
  have e3:(if x.Kind=9 then Z7c 1001 k p x (decide (x.Kind=9)) else Z7c 1001 k p x (decide (x.Kind=10)))=Z7c 1001 k p x (decide (x.Kind=9∨x.Kind=10)):=by
    by_cases h2:x.Kind=9
    · rw [if_pos h2,decide_eq_true h2,decide_eq_true (.inl h2)]
    · rw [if_neg h2];congr 1;exact decide_eq_decide.2 (by omega)
  rw [e3,Z7c]
  by_cases c3:x.Kind=9∨x.Kind=10
  · have hne : x.Name ≠ [] := fun e => hn.1 e (by omega)
    rw [decide_eq_true c3,if_pos rfl,Np hp]
    simp only [Option.bind_some]
    have hm:Ig x.Kind=[3]:=by unfold Ig;rw [if_neg c2,if_pos c3]
    rw [Ew (by simp;omega) (by simp;omega),Jm,hm]
    simp only [Option.bind_some,List.mem_cons,List.not_mem_nil,or_false]
    have hw:=Jcf ha (s:=x.Name)
    have iy:=Fz (l:=p.Locks.map (·.Name)) (s:=x.Name)
    by_cases q:x.Name∈p.Locks.map (·.Name)
    · rw [if_neg (by have:=iy.2 q;omega),if_neg (fun z=>z.2 (hw.2 q))]
    · rw [if_pos (Jl q 0),if_pos ⟨hne,fun z=>q (hw.1 z)⟩]
  · rw [decide_eq_false c3,if_neg (by decide),Jm,if_neg (fun z=>z.1 (hn.2 (by omega)))]
theorem Xy {p:api_Prog} (hp:SmallP p) {t:api_Thread} (hr:t.Regs.length≤1000) {x:api_Stmt} (ha:Apt p t.Regs) (hx:Cz x=true):Z76 1001 p t x=some ((Kx p t.Regs x).getD (-1)):=by
  have hC:=Eb hp
  rw [Yy ha]
  have go:Z77 1001 p t x false=some (((Jm p t.Regs x).or ((x.E.findSome? (Ff t.Regs)).or (x.F.findSome? (Ff t.Regs)))).getD (-1)):=by
    rw [Z77,if_neg (by decide),Jx hp]
    simp only [Option.bind_some]
    rw [Ew (by simp;omega) (by simp;omega)]
    simp only [Option.bind_some]
    rw [Ro hp ha hx,Yt hx hr]
    cases Jm p t.Regs x <;> rfl
  unfold Z76 Ja9
  by_cases h:x.Reg≠[]
  · rw [if_pos h, Ew hr (by omega)]
    simp only [Option.bind_some]
    have ix:=Fz (l:=t.Regs) (s:=x.Reg)
    by_cases q:x.Reg∈t.Regs
    · rw [decide_eq_false (by have:=ix.2 q;omega),go,if_neg (fun z=>z.2 q),Option.none_or]
    · rw [decide_eq_true (Jl q 0),Z77,if_pos rfl,if_pos ⟨h,q⟩];rfl
  · rw [if_neg h,go,if_neg (fun z=>h z.1),Option.none_or]
theorem Jah {p:api_Prog} {G:List Str} {x:api_Stmt} (hx:Cz x=true) {v:Int} (h:Kx p G x=some v):0≤v∧v≤4000:=by
  obtain ⟨h1,⟨_,h2⟩,⟨_,h3⟩⟩:=Nu hx
  obtain ⟨u,hu,e⟩:=Ot h
  have hv:u.at'=v:=by
    unfold Ml at e;split at e
    · cases e
    · exact Option.some.inj e
  subst hv
  simp only [Kj,List.mem_append] at hu
  have node:∀ {l:List api_Node},(∀ y∈l,0≤y.At∧y.At≤4000)→u∈Ho l→0≤u.at'∧u.at'≤4000:=by
    intro l hl hu
    obtain ⟨y,hy,e⟩:=List.mem_filterMap.1 hu
    split at e
    · injection e with e;subst e;exact hl y hy
    · cases e
  rcases hu with hu | hu | hu | hu
  · split at hu
    · simp only [List.mem_cons,List.not_mem_nil,or_false] at hu;subst hu;exact h1
    · cases hu
  · split at hu
    · simp only [List.mem_cons,List.not_mem_nil,or_false] at hu;subst hu;exact h1
    · cases hu
  · exact node h2 hu
  · exact node h3 hu
end Go.MD.LB
