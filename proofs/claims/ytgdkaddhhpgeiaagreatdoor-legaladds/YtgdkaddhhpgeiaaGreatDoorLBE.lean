/- What is wrong of a program, as the program and the document tell it. No condition: plain lemmas. -/
import Derived.Test.YtgdkaddhhpgeiaaGreatDoorLBD
namespace Go.MD.LB
open Go Go.MD
theorem Lx {l:List Int} {v:Int} (hl:l.length≤1000):∀ (d j n:Nat),j+d=l.length→d < n→∃ r,Z9b 1001 Z9a l v n (j:Int)=some r∧(0≤r↔v∈l.drop j):=by
  intro d
  induction d with
  | zero =>
    intro j n hj hn
    obtain ⟨n,rfl⟩:∃ m,n=m+1:=⟨n - 1,by omega⟩
    rw [Z9b,if_neg (by omega),List.drop_of_length_le (by omega)]
    exact ⟨-1,rfl,by simp⟩
  | succ d ih =>
    intro j n hj hn
    obtain ⟨n,rfl⟩:∃ m,n=m+1:=⟨n - 1,by omega⟩
    have h1:j < l.length:=by omega
    rw [Z9b,if_pos (by omega),Ax rfl h1]
    simp only [Option.bind_some]
    rw [List.drop_eq_getElem_cons h1]
    by_cases h:v=l[j]
    · rw [if_pos h];exact ⟨j,rfl,fun _=>h ▸ .head _,fun _=>by omega⟩
    · rw [if_neg h, Bf h1 (by omega)]
      obtain ⟨r,h2,h3⟩:=ih (j+1) n (by omega) (by omega)
      exact ⟨r,h2,h3.trans ⟨fun q=>.tail _ q,fun q=>(List.mem_cons.1 q).resolve_left h⟩⟩
theorem Oz {l:List Int} {v:Int} (hl:l.length≤1000):Z8e 1001 l v=some (decide (v∈l)):=by
  obtain ⟨r,h1,h2⟩:=Lx (v:=v) hl l.length 0 1001 (by omega) (by omega)
  unfold Z8e Z99
  rw [show (0:Int)=((0:Nat):Int) from rfl,h1]
  simp only [Option.bind_some]
  rw [List.drop_zero] at h2
  congr 1
  exact decide_eq_decide.2 h2
def Ns (p:api_Prog) (G:List Str) (u:legal_use):Option Int:=if Gj p G u.name∈u.may then none else some u.at'
def Vj (u:legal_use):Prop:=u.may.length≤1000
theorem Xn {p:api_Prog} {G:List Str} (tw:Bool):∀ (l:List legal_use),(∀ u∈l,Vj u)→Bt (yy (fun (s:Unit) (x:legal_use)=>(Z5l 1001 (Eg p ++ gM G,tw)) x)) some l (.inl ())=some (match l.findSome? (Ns p G) with | some v=>.inr v | none=>.inl ())
  | [],_=>rfl
  | u :: l, h => by
    have e:Z5l 1001 (Eg p ++ gM G,tw) u=some (match Ns p G u with | some v=>.inr v | none=>.inl ()):=by
      rw [Z5l,Sp,Oz (h u (.head _))]
      simp only [Option.bind_some,Ns]
      by_cases q:Gj p G u.name∈u.may
      · rw [decide_eq_true q,if_pos rfl,if_pos q]
      · rw [decide_eq_false q,if_neg (by decide),if_neg q]
    simp only [Bt,yy,e,Option.map_some,Option.bind_some,List.findSome?_cons]
    cases Ns p G u with
    | some v=>rfl
    | none =>
      simp only [Sum.isLeft_inl,if_true]
      exact Xn tw l fun u hu=>h u (.tail _ hu)
theorem Oy {l:List api_Node}:∀ u∈Hf l,Vj u:=by
  intro u hu
  obtain ⟨x,_,h⟩:=List.mem_filterMap.1 hu
  split at h
  · injection h with h;subst h;show ([5]:List Int).length≤1000;decide
  · cases h
theorem Uv {x:api_Stmt}:∀ u∈Kq x,Vj u:=by
  intro u hu
  simp only [Kq,List.mem_append] at hu
  rcases hu with hu | hu | hu | hu
  · split at hu
    · simp only [List.mem_cons,List.not_mem_nil,or_false] at hu;subst hu;show ([5]:List Int).length≤1000;decide
    · cases hu
  · split at hu
    · simp only [List.mem_cons, List.not_mem_nil, or_false] at hu; subst hu
      show (Hy x.Kind).length≤1000
      unfold Hy;split
      · decide
      · split <;> decide
    · cases hu
  · exact Oy u hu
  · exact Oy u hu
theorem Fa {α β γ:Type} (f:α→List β) (g:β→Option γ):∀ l:List α,(l.flatMap f).findSome? g=l.findSome? fun x=>(f x).findSome? g
  | []=>rfl
  | x :: l => by
    simp only [List.flatMap_cons,List.findSome?_append,List.findSome?_cons,Fa f g l]
    cases (f x).findSome? g <;> rfl
def Pq (p:api_Prog) (G:List Str) (x:api_Stmt):Option Int:=(Kq x).findSome? (Ns p G)
theorem Ra {p:api_Prog} {G:List Str} {l:List api_Stmt} (hl:l.length≤1000) (hs:∀ x∈l,Dd x) (tw:Bool) :
    Z6v 1001 (yy (fun (s:Unit) (x:legal_use)=>(Z5l 1001 (Eg p ++ gM G,tw)) x)) (.inl ()) l=some (match l.findSome? (Pq p G) with | some v=>.inr v | none=>.inl ()):=by
  rw [Wd hl hs,Xn tw _ (fun u hu=>by obtain ⟨x,_,h⟩:=List.mem_flatMap.1 hu;exact Uv u h),Fa]
  rfl
def Jq (names:List Str) (x:api_Node):Option Int:=if x.Op=2∧x.Name ∉ names then some x.At else none
theorem Kw {p:api_Prog} {G:List Str} (ha:Apt p G):∀ l:List api_Node,(Hf l).findSome? (Ns p G)=l.findSome? (Jq G)
  | []=>rfl
  | x :: l => by
    rw [List.findSome?_cons,← Kw ha l]
    unfold Hf
    rw [List.filterMap_cons]
    by_cases h:x.Op=2
    · rw [if_pos h]
      simp only [List.findSome?_cons,Ns,Jq,List.mem_cons,List.not_mem_nil,or_false]
      by_cases q:x.Name∈G
      · rw [if_pos ((Sa ha).2 q),if_neg (fun k=>k.2 q)]
      · rw [if_neg (fun k=>q ((Sa ha).1 k)),if_pos ⟨h,q⟩]
    · rw [if_neg h]
      simp only [Jq,if_neg (fun k:x.Op=2∧x.Name ∉ G=>h k.1)]
theorem Xo {is:Bool} {l:List api_Node} (h:Dz is l=true):l.length≤40∧∀ x∈l,0≤x.At∧x.At≤4000:=by
  unfold Dz at h
  split at h
  · have h' : ∃ t, RightE l t := by unfold Hw at h; simpa using h
    obtain ⟨t,ht⟩:=h'
    refine ⟨ht.len,fun x hx=>?_⟩
    have:=ht.may x hx
    unfold Hg at this
    rw [Bool.and_eq_true,decide_eq_true_eq] at this
    exact this.1
  · have := of_decide_eq_true h
    subst this
    exact ⟨by simp,fun x hx=>by cases hx⟩
theorem Vw {x:api_Stmt} (h:Dl x=true):(0≤x.At∧x.At≤4000)∧(x.E.length≤40∧∀ y∈x.E,0≤y.At∧y.At≤4000)∧(x.F.length≤40∧∀ y∈x.F,0≤y.At∧y.At≤4000):=by
  simp only [Dl,Bool.and_eq_true,decide_eq_true_eq] at h
  obtain ⟨⟨hk,_⟩,_,_,he,hf⟩:=h
  exact ⟨⟨hk.2.2.1,hk.2.2.2⟩,Xo he,Xo hf⟩
def Rs (p:api_Prog) (G:List Str) (x:api_Stmt):Option Int:=if x.Name≠[]∧Gj p G x.Name ∉ Hy x.Kind then some x.At else none
def Wx (G:List Str) (x:api_Stmt):Option Int:=if x.Reg≠[]∧x.Reg ∉ G then some x.At else none
theorem Wu {p:api_Prog} {G:List Str} (ha:Apt p G) (x:api_Stmt):Pq p G x=(Wx G x).or ((Rs p G x).or ((x.E.findSome? (Jq G)).or (x.F.findSome? (Jq G)))):=by
  unfold Pq Kq
  rw [List.findSome?_append,List.findSome?_append,List.findSome?_append,Kw ha,Kw ha]
  congr 1
  · unfold Wx
    by_cases h:x.Reg≠[]
    · rw [if_pos h]
      simp only [List.findSome?_cons,List.findSome?_nil,Ns,List.mem_cons,List.not_mem_nil,or_false]
      by_cases q:x.Reg∈G
      · rw [if_pos ((Sa ha).2 q),if_neg (fun k=>k.2 q)]
      · rw [if_neg (fun k=>q ((Sa ha).1 k)),if_pos ⟨h,q⟩]
    · rw [if_neg h,if_neg (fun k=>h k.1)];rfl
  · congr 1
    unfold Rs
    by_cases h:x.Name≠[]
    · rw [if_pos h]
      simp only [List.findSome?_cons,List.findSome?_nil,Ns]
      by_cases q:Gj p G x.Name∈Hy x.Kind
      · rw [if_pos q,if_neg (fun k=>k.2 q)]
      · rw [if_neg q,if_pos ⟨h,q⟩]
    · rw [if_neg h,if_neg (fun k=>h k.1)];rfl
end Go.MD.LB
