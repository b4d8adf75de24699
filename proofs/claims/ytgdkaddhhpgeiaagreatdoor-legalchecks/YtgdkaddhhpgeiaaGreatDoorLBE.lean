/- What is wrong of a program, as the program and the document tell it. No condition: plain lemmas. -/
import Derived.Test.YtgdkaddhhpgeiaaGreatDoorLBD
namespace Go.MD.LB
open Go Go.MD
theorem Iy {l:List Str} {s:Str} (h:s ∉ l) (k:Nat):Dy l s k < 0:=by
  have:=(Dt l s k).1
  have h2:=fun z=>h (this.1 z)
  exact Int.not_le.1 h2
theorem Ls {l:List Int} {v:Int} (hl:l.length≤1000):∀ (d j n:Nat),j+d=l.length→d < n→∃ r,Zax 1001 Zaw l v n (j:Int)=some r∧(0≤r↔v∈l.drop j):=by
  intro d
  induction d with
  | zero =>
    intro j n hj hn
    obtain ⟨n,rfl⟩:∃ m,n=m+1:=⟨n - 1,by omega⟩
    rw [Zax,if_neg (by omega),List.drop_of_length_le (by omega)]
    exact ⟨-1,rfl,by simp⟩
  | succ d ih =>
    intro j n hj hn
    obtain ⟨n,rfl⟩:∃ m,n=m+1:=⟨n - 1,by omega⟩
    have h1:j < l.length:=by omega
    rw [Zax,if_pos (by omega),As rfl h1]
    simp only [Option.bind_some]
    rw [List.drop_eq_getElem_cons h1]
    by_cases h:v=l[j]
    · rw [if_pos h];exact ⟨j,rfl,fun _=>h ▸ .head _,fun _=>by omega⟩
    · rw [if_neg h, Bf h1 (by omega)]
      obtain ⟨r,h2,h3⟩:=ih (j+1) n (by omega) (by omega)
      exact ⟨r,h2,h3.trans ⟨fun q=>.tail _ q,fun q=>(List.mem_cons.1 q).resolve_left h⟩⟩
theorem N1 {l:List Int} {v:Int} (hl:l.length≤1000):Za0 1001 l v=some (decide (v∈l)):=by
  obtain ⟨r,h1,h2⟩:=Ls (v:=v) hl l.length 0 1001 (by omega) (by omega)
  unfold Za0 Zav
  rw [show (0:Int)=((0:Nat):Int) from rfl,h1]
  simp only [Option.bind_some]
  rw [List.drop_zero] at h2
  congr 1
  exact decide_eq_decide.2 h2
def Ma (p:api_Prog) (G:List Str) (u:legal_use):Option Int:=if Hw p G u.name∈u.may then none else some u.at'
def Tm (u:legal_use):Prop:=u.may.length≤1000
theorem Yd {p:api_Prog} {G:List Str} (tw:Bool):∀ (l:List legal_use),(∀ u∈l,Tm u)→Bz (yy (fun (s:Unit) (x:legal_use)=>(Z77 1001 (Ey p ++ gM G,tw)) x)) some l (.inl ())=some (match l.findSome? (Ma p G) with | some v=>.inr v | none=>.inl ())
  | [],_=>rfl
  | u :: l, h => by
    have e:Z77 1001 (Ey p ++ gM G,tw) u=some (match Ma p G u with | some v=>.inr v | none=>.inl ()):=by
      rw [Z77,S2,N1 (h u (.head _))]
      simp only [Option.bind_some,Ma]
      by_cases q:Hw p G u.name∈u.may
      · rw [decide_eq_true q,if_pos rfl,if_pos q]
      · rw [decide_eq_false q,if_neg (by decide),if_neg q]
    simp only [Bz,yy,e,Option.map_some,Option.bind_some,List.findSome?_cons]
    cases Ma p G u with
    | some v=>rfl
    | none =>
      simp only [Sum.isLeft_inl,if_true]
      exact Yd tw l fun u hu=>h u (.tail _ hu)
theorem Od {l:List api_Node}:∀ u∈Hi l,Tm u:=by
  intro u hu
  obtain ⟨x,_,h⟩:=List.mem_filterMap.1 hu
  split at h
  · injection h with h;subst h;show ([5]:List Int).length≤1000;decide
  · cases h
theorem Wa {x:api_Stmt}:∀ u∈Jz x,Tm u:=by
  intro u hu
  simp only [Jz,List.mem_append] at hu
  rcases hu with hu | hu | hu | hu
  · split at hu
    · simp only [List.mem_cons,List.not_mem_nil,or_false] at hu;subst hu;show ([5]:List Int).length≤1000;decide
    · cases hu
  · split at hu
    · simp only [List.mem_cons, List.not_mem_nil, or_false] at hu; subst hu
      show (Hz x.Kind).length≤1000
      unfold Hz;split
      · decide
      · split <;> decide
    · cases hu
  · exact Od u hu
  · exact Od u hu
theorem Gf {α β γ:Type} (f:α→List β) (g:β→Option γ):∀ l:List α,(l.flatMap f).findSome? g=l.findSome? fun x=>(f x).findSome? g
  | []=>rfl
  | x :: l => by
    simp only [List.flatMap_cons,List.findSome?_append,List.findSome?_cons,Gf f g l]
    cases (f x).findSome? g <;> rfl
def Lx (p:api_Prog) (G:List Str) (x:api_Stmt):Option Int:=(Jz x).findSome? (Ma p G)
theorem Pt {p:api_Prog} {G:List Str} {l:List api_Stmt} (hl:l.length≤1000) (hs:∀ x∈l,Dn x) (tw:Bool) :
    Z8h 1001 (yy (fun (s:Unit) (x:legal_use)=>(Z77 1001 (Ey p ++ gM G,tw)) x)) (.inl ()) l=some (match l.findSome? (Lx p G) with | some v=>.inr v | none=>.inl ()):=by
  rw [Wo hl hs,Yd tw _ (fun u hu=>by obtain ⟨x,_,h⟩:=List.mem_flatMap.1 hu;exact Wa u h),Gf]
  rfl
def Ez (names:List Str) (x:api_Node):Option Int:=if x.Op=2∧x.Name ∉ names then some x.At else none
theorem Qq {l:List api_Node} {names:List Str} (hl:l.length≤1000) (hnm:names.length≤1000):∀ (d j n:Nat),j+d=l.length→d < n→
    Z71 1001 Z6z l names n (j:Int)=some (((l.drop j).findSome? (Ez names)).getD (-1)):=by
  intro d
  induction d with
  | zero =>
    intro j n hj hn
    obtain ⟨n,rfl⟩:∃ m,n=m+1:=⟨n - 1,by omega⟩
    rw [Z71,if_neg (by omega),List.drop_of_length_le (by omega)];rfl
  | succ d ih =>
    intro j n hj hn
    obtain ⟨n,rfl⟩:∃ m,n=m+1:=⟨n - 1,by omega⟩
    have h1:j < l.length:=by omega
    rw [Z71,if_pos (by omega),As rfl h1]
    simp only [Option.bind_some]
    rw [List.drop_eq_getElem_cons h1,List.findSome?_cons]
    have go:Z70 (Z71 1001 Z6z l names n) l (j:Int) false=some (((l.drop (j+1)).findSome? (Ez names)).getD (-1)):=by
      rw [Z70,if_neg (by decide),Bf h1 (by omega),ih (j+1) n (by omega) (by omega)]
    by_cases h:l[j].Op=2
    · rw [if_pos h, En hnm (by omega)]
      simp only [Option.bind_some]
      by_cases q:l[j].Name∈names
      · rw [decide_eq_false (fun k=>by have:=(Fp (l:=names) (s:=l[j].Name)).2 q;omega),go,Ez,if_neg (fun k=>k.2 q)]
      · rw [decide_eq_true (Iy q 0), Z70, if_pos rfl, As rfl h1, Ez, if_pos ⟨h, q⟩]
        rfl
    · rw [if_neg h,go,Ez,if_neg (fun k=>h k.1)]
theorem Ku {l:List api_Node} {names:List Str} (hl:l.length≤1000) (hn:names.length≤1000):Z6y 1001 l names=some ((l.findSome? (Ez names)).getD (-1)):=by
  have:=Qq hl hn l.length 0 1001 (by omega) (by omega)
  rw [List.drop_zero] at this
  exact this
theorem Kj {p:api_Prog} {G:List Str} (ha:Apt p G):∀ l:List api_Node,(Hi l).findSome? (Ma p G)=l.findSome? (Ez G)
  | []=>rfl
  | x :: l => by
    rw [List.findSome?_cons,← Kj ha l]
    unfold Hi
    rw [List.filterMap_cons]
    by_cases h:x.Op=2
    · rw [if_pos h]
      simp only [List.findSome?_cons,Ma,Ez,List.mem_cons,List.not_mem_nil,or_false]
      by_cases q:x.Name∈G
      · rw [if_pos ((Rj ha).2 q),if_neg (fun k=>k.2 q)]
      · rw [if_neg (fun k=>q ((Rj ha).1 k)),if_pos ⟨h,q⟩]
    · rw [if_neg h]
      simp only [Ez,if_neg (fun k:x.Op=2∧x.Name ∉ G=>h k.1)]
theorem Pe {α:Type} {f:α→Option Int} {l:List α} {v:Int} (h:l.findSome? f=some v):∃ x∈l,f x=some v:=List.exists_of_findSome?_eq_some h
theorem Vu {names:List Str} {l:List api_Node} (hl:∀ x∈l,0≤x.At) {v:Int} (h:l.findSome? (Ez names)=some v):0≤v:=by
  obtain ⟨x,hx,e⟩:=Pe h
  unfold Ez at e
  split at e
  · injection e with e;subst e;exact hl x hx
  · cases e
theorem Si {x:api_Stmt} (h:Cy x=true):(x.Name=[]↔¬ (x.Kind=2∨x.Kind=3∨x.Kind=4∨x.Kind=5∨x.Kind=6∨x.Kind=9∨x.Kind=10)):=by
  simp only [Cy,Bool.and_eq_true,decide_eq_true_eq] at h
  obtain ⟨⟨hk,_⟩,_,ht,_⟩:=h
  have cases14:x.Kind=1∨x.Kind=2∨x.Kind=3∨x.Kind=4∨x.Kind=5∨x.Kind=6∨x.Kind=7∨x.Kind=8∨x.Kind=9∨x.Kind=10∨x.Kind=11∨x.Kind=12∨x.Kind=13∨x.Kind=14:=by omega
  have nn:∀ s:Str,Ce s=true→s≠[]:=by intro s hs e;subst e;simp [Ce] at hs
  rcases cases14 with k | k | k | k | k | k | k | k | k | k | k | k | k | k <;> rw [k] at ht ⊢ <;>
    first
    | (have ht':Eu true x.Name=true:=ht;have:=nn _ (by simpa [Eu] using ht');simp [this])
    | (have ht' : Eu false x.Name = true := ht; have : x.Name = [] := by simpa [Eu] using ht'
       simp [this])
theorem Vo {is:Bool} {l:List api_Node} (h:Et is l=true):l.length≤40∧∀ x∈l,0≤x.At∧x.At≤4000:=by
  unfold Et at h
  split at h
  · have h' : ∃ t, RightE l t := by unfold Gu at h; simpa using h
    obtain ⟨t,ht⟩:=h'
    refine ⟨ht.len,fun x hx=>?_⟩
    have:=ht.may x hx
    unfold Hy at this
    rw [Bool.and_eq_true,decide_eq_true_eq] at this
    exact this.1
  · have := of_decide_eq_true h
    subst this
    exact ⟨by simp,fun x hx=>by cases hx⟩
theorem Nj {x:api_Stmt} (h:Cy x=true):(0≤x.At∧x.At≤4000)∧(x.E.length≤40∧∀ y∈x.E,0≤y.At∧y.At≤4000)∧(x.F.length≤40∧∀ y∈x.F,0≤y.At∧y.At≤4000):=by
  simp only [Cy,Bool.and_eq_true,decide_eq_true_eq] at h
  obtain ⟨⟨hk,_⟩,_,_,he,hf⟩:=h
  exact ⟨⟨hk.2.2.1,hk.2.2.2⟩,Vo he,Vo hf⟩
def Iw (p:api_Prog) (G:List Str) (x:api_Stmt):Option Int:=if x.Name≠[]∧Hw p G x.Name ∉ Hz x.Kind then some x.At else none
def Ja1 (G:List Str) (x:api_Stmt):Option Int:=if x.Reg≠[]∧x.Reg ∉ G then some x.At else none
theorem Wp {p:api_Prog} {G:List Str} (ha:Apt p G) (x:api_Stmt):Lx p G x=(Ja1 G x).or ((Iw p G x).or ((x.E.findSome? (Ez G)).or (x.F.findSome? (Ez G)))):=by
  unfold Lx Jz
  rw [List.findSome?_append,List.findSome?_append,List.findSome?_append,Kj ha,Kj ha]
  congr 1
  · unfold Ja1
    by_cases h:x.Reg≠[]
    · rw [if_pos h]
      simp only [List.findSome?_cons,List.findSome?_nil,Ma,List.mem_cons,List.not_mem_nil,or_false]
      by_cases q:x.Reg∈G
      · rw [if_pos ((Rj ha).2 q),if_neg (fun k=>k.2 q)]
      · rw [if_neg (fun k=>q ((Rj ha).1 k)),if_pos ⟨h,q⟩]
    · rw [if_neg h,if_neg (fun k=>h k.1)];rfl
  · congr 1
    unfold Iw
    by_cases h:x.Name≠[]
    · rw [if_pos h]
      simp only [List.findSome?_cons,List.findSome?_nil,Ma]
      by_cases q:Hw p G x.Name∈Hz x.Kind
      · rw [if_pos q,if_neg (fun k=>k.2 q)]
      · rw [if_neg q,if_pos ⟨h,q⟩]
    · rw [if_neg h,if_neg (fun k=>h k.1)];rfl
theorem Wi {t:api_Thread} {x:api_Stmt} (hx:Cy x=true) (hr:t.Regs.length≤1000):Z6o 1001 t x=some (((x.E.findSome? (Ez t.Regs)).or (x.F.findSome? (Ez t.Regs))).getD (-1)):=by
  obtain ⟨_,⟨he,hea⟩,⟨hf,_⟩⟩:=Nj hx
  rw [Z6o,Ku (by omega) hr]
  simp only [Option.bind_some]
  cases h:x.E.findSome? (Ez t.Regs) with
  | some v =>
    have:=Vu (fun y hy=>(hea y hy).1) h
    rw [if_pos (by simpa using this)];rfl
  | none =>
    rw [if_neg (by simp),Ku (by omega) hr];rfl
theorem Qy {p:api_Prog} (hp:SmallP p) {x:api_Stmt} {G:List Str} (ha:Apt p G) (hx:Cy x=true) (k:Option Int) :
    (if x.Kind=2 then Z6p 1001 k p x (Dy ((Cc p).map (·.Name)) x.Name 0) (decide (x.Kind=2)) else
      if x.Kind=3 then Z6p 1001 k p x (Dy ((Cc p).map (·.Name)) x.Name 0) (decide (x.Kind=3)) else
        Z6p 1001 k p x (Dy ((Cc p).map (·.Name)) x.Name 0) (decide (x.Kind=4)))=(match Iw p G x with | some v=>some v | none=>k):=by
  have hC:=Eb hp
  have hL:=hp.locks
  have hn:=Si hx
  have ix:=Fp (l:=(Cc p).map (·.Name)) (s:=x.Name)
  have e1:(if x.Kind=2 then Z6p 1001 k p x (Dy ((Cc p).map (·.Name)) x.Name 0) (decide (x.Kind=2)) else
      if x.Kind=3 then Z6p 1001 k p x (Dy ((Cc p).map (·.Name)) x.Name 0) (decide (x.Kind=3)) else
        Z6p 1001 k p x (Dy ((Cc p).map (·.Name)) x.Name 0) (decide (x.Kind=4)))=Z6p 1001 k p x (Dy ((Cc p).map (·.Name)) x.Name 0) (decide (x.Kind=2∨x.Kind=3∨x.Kind=4)):=by
    by_cases h2:x.Kind=2
    · rw [if_pos h2,decide_eq_true h2,decide_eq_true (.inl h2)]
    · rw [if_neg h2]
      by_cases h3:x.Kind=3
      · rw [if_pos h3,decide_eq_true h3,decide_eq_true (.inr (.inl h3))]
      · rw [if_neg h3];congr 1;exact decide_eq_decide.2 (by omega)
  rw [e1,Z6p]
  by_cases c1:x.Kind=2∨x.Kind=3∨x.Kind=4
  · have hne : x.Name ≠ [] := fun e => hn.1 e (by omega)
    have hm:Hz x.Kind=[1,2]:=by unfold Hz;rw [if_neg (by omega),if_neg (by omega)]
    rw [decide_eq_true c1,if_pos rfl,Iw,hm]
    have hw:=Jas (p:=p) (G:=G) (s:=x.Name)
    rw [← Ef] at hw
    simp only [List.mem_cons,List.not_mem_nil,or_false]
    by_cases q:x.Name∈(Cc p).map (·.Name)
    · rw [if_neg (by have:=ix.2 q;omega),if_neg (fun z=>z.2 (hw.2 q))]
    · rw [if_pos (Iy q 0),if_pos ⟨hne,fun z=>q (hw.1 z)⟩]
  rw [decide_eq_false c1,if_neg (by decide)]
  have e2:(if x.Kind=5 then Z6q 1001 k p x (Dy ((Cc p).map (·.Name)) x.Name 0) (decide (x.Kind=5)) else Z6q 1001 k p x (Dy ((Cc p).map (·.Name)) x.Name 0) (decide (x.Kind=6))) =
      Z6q 1001 k p x (Dy ((Cc p).map (·.Name)) x.Name 0) (decide (x.Kind=5∨x.Kind=6)):=by
    by_cases h2:x.Kind=5
    · rw [if_pos h2,decide_eq_true h2,decide_eq_true (.inl h2)]
    · rw [if_neg h2];congr 1;exact decide_eq_decide.2 (by omega)
  rw [e2,Z6q]
  by_cases c2:x.Kind=5∨x.Kind=6
  · have hne : x.Name ≠ [] := fun e => hn.1 e (by omega)
    have hm:Hz x.Kind=[1]:=if_pos c2
    rw [decide_eq_true c2,if_pos rfl,Iw,hm]
    simp only [List.mem_cons,List.not_mem_nil,or_false]
    have hw:=JbP (p:=p) (G:=G) (s:=x.Name)
    have hA:(A1 p).length=p.Lines.flatten.length:=List.length_map _
    have hi:=Ks (A1 p) (A2 p) x.Name 0
    have hn1:=Dt (A1 p) x.Name 0
    have hn2:=Dt (A2 p) x.Name (0+(A1 p).length)
    rw [Ef] at ix ⊢
    by_cases q:x.Name∈A1 p
    · rw [if_pos q] at hi
      have h1:=hn1.2 q
      rw [hi,if_neg (by omega),Jk hp]
      simp only [Option.bind_some]
      rw [Z6r,decide_eq_false (by omega),if_neg (by decide),if_neg (fun z=>z.2 (hw.2 q))]
    · rw [if_neg q] at hi
      rw [hi]
      by_cases q2:x.Name∈A2 p
      · have h1 := hn2.2 q2
        rw [if_neg (by omega),Jk hp]
        simp only [Option.bind_some]
        rw [Z6r,decide_eq_true (by omega),if_pos rfl,if_pos ⟨hne,fun z=>q (hw.1 z)⟩]
      · rw [if_pos (Iy q2 _),Z6r,if_pos rfl,if_pos ⟨hne,fun z=>q (hw.1 z)⟩]
  rw [decide_eq_false c2,if_neg (by decide)]
  have e3:(if x.Kind=9 then Z6s 1001 k p x (decide (x.Kind=9)) else Z6s 1001 k p x (decide (x.Kind=10)))=Z6s 1001 k p x (decide (x.Kind=9∨x.Kind=10)):=by
    by_cases h2:x.Kind=9
    · rw [if_pos h2,decide_eq_true h2,decide_eq_true (.inl h2)]
    · rw [if_neg h2];congr 1;exact decide_eq_decide.2 (by omega)
  rw [e3,Z6s]
  by_cases c3:x.Kind=9∨x.Kind=10
  · have hne : x.Name ≠ [] := fun e => hn.1 e (by omega)
    rw [decide_eq_true c3,if_pos rfl,Mr hp]
    simp only [Option.bind_some]
    have hm:Hz x.Kind=[3]:=by unfold Hz;rw [if_neg c2,if_pos c3]
    rw [En (by simp;omega) (by simp;omega),Iw,hm]
    simp only [Option.bind_some,List.mem_cons,List.not_mem_nil,or_false]
    have hw:=JaN ha (s:=x.Name)
    have iy:=Fp (l:=p.Locks.map (·.Name)) (s:=x.Name)
    by_cases q:x.Name∈p.Locks.map (·.Name)
    · rw [if_neg (by have:=iy.2 q;omega),if_neg (fun z=>z.2 (hw.2 q))]
    · rw [if_pos (Iy q 0),if_pos ⟨hne,fun z=>q (hw.1 z)⟩]
  · rw [decide_eq_false c3,if_neg (by decide),Iw,if_neg (fun z=>z.1 (hn.2 (by omega)))]
theorem Wz {p:api_Prog} (hp:SmallP p) {t:api_Thread} (hr:t.Regs.length≤1000) {x:api_Stmt} (ha:Apt p t.Regs) (hx:Cy x=true):Z6m 1001 p t x=some ((Lx p t.Regs x).getD (-1)):=by
  have hC:=Eb hp
  rw [Wp ha]
  have go:Z6n 1001 p t x false=some (((Iw p t.Regs x).or ((x.E.findSome? (Ez t.Regs)).or (x.F.findSome? (Ez t.Regs)))).getD (-1)):=by
    rw [Z6n,if_neg (by decide),Jn hp]
    simp only [Option.bind_some]
    rw [En (by simp;omega) (by simp;omega)]
    simp only [Option.bind_some]
    rw [Qy hp ha hx,Wi hx hr]
    cases Iw p t.Regs x <;> rfl
  unfold Z6m Ja1
  by_cases h:x.Reg≠[]
  · rw [if_pos h, En hr (by omega)]
    simp only [Option.bind_some]
    have ix:=Fp (l:=t.Regs) (s:=x.Reg)
    by_cases q:x.Reg∈t.Regs
    · rw [decide_eq_false (by have:=ix.2 q;omega),go,if_neg (fun z=>z.2 q),Option.none_or]
    · rw [decide_eq_true (Iy q 0),Z6n,if_pos rfl,if_pos ⟨h,q⟩];rfl
  · rw [if_neg h,go,if_neg (fun z=>h z.1),Option.none_or]
theorem Xb {p:api_Prog} {G:List Str} {x:api_Stmt} (hx:Cy x=true) {v:Int} (h:Lx p G x=some v):0≤v∧v≤4000:=by
  obtain ⟨h1,⟨_,h2⟩,⟨_,h3⟩⟩:=Nj hx
  obtain ⟨u,hu,e⟩:=Pe h
  have hv:u.at'=v:=by
    unfold Ma at e;split at e
    · cases e
    · exact Option.some.inj e
  subst hv
  simp only [Jz,List.mem_append] at hu
  have node:∀ {l:List api_Node},(∀ y∈l,0≤y.At∧y.At≤4000)→u∈Hi l→0≤u.at'∧u.at'≤4000:=by
    intro l hl hu
    obtain ⟨y,hy,e⟩:=List.mem_filterMap.1 hu
    split at e
    · injection e with e;subst e;exact hl y hy
    · cases e
  rcases hu with hu | hu | hu | hu
  · split at hu
    · simp only [List.mem_cons,List.not_mem_nil,or_false] at hu;subst hu;exact h1
    · cases hu
  · split at hu
    · simp only [List.mem_cons,List.not_mem_nil,or_false] at hu;subst hu;exact h1
    · cases hu
  · exact node h2 hu
  · exact node h3 hu
end Go.MD.LB
