/- Which statements may be, one by one. No condition: plain lemmas. -/
import Derived.Test.YtgdkaddhhpgeiaaGreatDoorLBI
namespace Go.MD.LB
open Go Go.MD
open Classical in
theorem Nn {p:Prop} {b:Bool} (h:b=true↔p):b=decide p:=by
  cases b with
  | true=>exact (decide_eq_true (h.1 rfl)).symm
  | false=>exact (decide_eq_false (fun q=>by cases h.2 q)).symm
def tabS:List Str:=[[],[114,101],[114,110],[110,101],[114,110,101,102],[110],[110],[],[],[110],[110],[101,98],[107,98],[],[101]]
def hS (k:Int):Str:=if 1≤k∧k≤14 then (tabS[k.toNat]?).getD [] else []
theorem Uf (k:Int):hS k∈tabS:=by
  unfold hS
  split
  · rename_i h
    have hk:k.toNat < tabS.length:=by show k.toNat < 15;omega
    rw [List.getElem?_eq_getElem hk]
    exact List.getElem_mem hk
  · exact .head _
theorem N9 {k:Int} (h:1≤k∧k≤14):getI tabS k=some (hS k):=by
  have hk:k.toNat < tabS.length:=by show k.toNat < 15;omega
  unfold hS
  rw [if_pos h,As (j:=k.toNat) (by omega) hk,List.getElem?_eq_getElem hk]
  rfl
theorem Yt (N:Nat) (k:Int):Zb1 N k=some (hS k):=by
  unfold Zb1
  by_cases h:k < 0∨15≤k
  · rw [if_pos (by simpa using h)];unfold hS;rw [if_neg (by omega)]
  · rw [if_neg (by simpa using h), Zb9]
    simp only [Option.bind_some]
    by_cases h0:k=0
    · subst h0;rfl
    · have := N9 (k := k) (by omega)
      unfold tabS at this
      rw [this];rfl
theorem Wx (N:Nat) (k:Int):Z2v N k=some (hS k):=by
  unfold Z2v
  by_cases h:k < 1∨14 < k
  · rw [if_pos (by simpa using h)];unfold hS;rw [if_neg (by omega)]
  · rw [if_neg (by simpa using h)]
    have:=N9 (k:=k) (by omega)
    unfold tabS at this
    rw [this];rfl
theorem Jb {k:Int} {c:UInt8} (hc:c∈[114,110,101,102,107]) (N:Nat):Zbb N [c] (hS k)=some (decide (c∈hS k)):=by
  have h:∀ s∈tabS,∀ c∈([114,110,101,102,107]:List UInt8),s.length < 4294967281∧Lib.contains s [c]=decide (c∈s):=by decide +kernel
  obtain ⟨h1,h2⟩:=h _ (Uf k) c hc
  unfold Zbb Z0
  rw [if_pos h1,h2];rfl
theorem Gz {k:Int} {c:Nat} (hc:c∈[114,110,101,102,107]):Z3w 1001 (hS k) (c:Int)=some (decide (UInt8.ofNat c∈hS k)):=by
  have h:∀ s∈tabS,∀ c∈([114,110,101,102,107]:List Nat),Z3w 1001 s (c:Int)=some (decide (UInt8.ofNat c∈s)):=by decide +kernel
  exact h _ (Uf k) c hc
def Eu (is:Bool) (s:Str):Bool:=if is=true then Ce s else decide (s=[])
open Classical in
noncomputable def Gu (l:List api_Node):Bool:=decide (∃ t,RightE l t)
noncomputable def Et (is:Bool) (l:List api_Node):Bool:=if is=true then Gu l else decide (l=[])
theorem Mt {l:List api_Node} (hl:l.length≤60):Z5 1001 l=some (Gu l):=by
  obtain ⟨b,h1,h2⟩:=Px hl
  rw [h1]
  congr 1
  exact Nn h2
theorem Im {l:List api_Node} (hl:l.length≤60):Z2f 1001 l=some (Gu l):=by
  obtain ⟨b,h1,h2⟩:=Ov hl
  rw [h1]
  congr 1
  exact Nn h2
theorem Pz:Gu []=false:=by
  refine (Nn (b:=false) (p:=∃ t,RightE [] t) ⟨fun h=>(by cases h),fun ⟨t,ht⟩=>?_⟩).symm
  have e:=congrArg List.length ht.flat
  rw [T.flat_len] at e
  have:=T.size_pos t
  simp at e
  omega
noncomputable def Cy (x:api_Stmt):Bool:=
  decide (1≤x.Kind∧x.Kind≤14∧0≤x.At∧x.At≤4000) && (if 107∈hS x.Kind then decide (1≤x.N∧x.N≤8) else decide (x.N=0)) &&
  (Eu (decide (114∈hS x.Kind)) x.Reg && (Eu (decide (110∈hS x.Kind)) x.Name && (Et (decide (101∈hS x.Kind)) x.E && Et (decide (102∈hS x.Kind)) x.F)))
def Dn (x:api_Stmt):Prop:=x.E.length≤60∧x.F.length≤60
theorem Sb (is:Bool) (s:Str):Zbc 1001 is s=some (Eu is s):=by
  unfold Zbc Eu
  cases is with
  | true=>rw [if_pos rfl,if_pos rfl,Is];simp
  | false=>rw [if_neg (by decide),if_neg (by decide)];simp
theorem Rv (is:Bool) {l:List api_Node} (hl:l.length≤60):Zbd 1001 is l=some (Et is l):=by
  unfold Zbd Et
  cases is with
  | true=>rw [if_pos rfl,if_pos rfl,Mt hl];simp
  | false=>rw [if_neg (by decide),if_neg (by decide)];simp
theorem My (x:api_Stmt) (hx:Dn x) (v:Bool):Zbe 1001 x (hS x.Kind) v=some (!(decide (1≤x.Kind∧x.Kind≤14∧0≤x.At∧x.At≤4000) && v && (Eu (decide (114∈hS x.Kind)) x.Reg && (Eu (decide (110∈hS x.Kind)) x.Name && (Et (decide (101∈hS x.Kind)) x.E && Et (decide (102∈hS x.Kind)) x.F))))):=by
  unfold Zbe
  have hc:((((decide (1≤x.Kind)) && (decide (x.Kind < 15))) && (decide (0≤x.At))) && (decide (x.At≤4000)))=decide (1≤x.Kind∧x.Kind≤14∧0≤x.At∧x.At≤4000):=by
    rw [Bool.eq_iff_iff];simp only [Bool.and_eq_true,decide_eq_true_eq];omega
  rw [hc]
  cases hv:(decide (1≤x.Kind∧x.Kind≤14∧0≤x.At∧x.At≤4000) && v) with
  | false=>rw [if_neg (by decide)];rfl
  | true =>
    rw [if_pos rfl,Jb (by decide)]
    simp only [Option.bind_some,Sb]
    cases Eu (decide (114∈hS x.Kind)) x.Reg with
    | false=>rfl
    | true =>
      rw [if_pos rfl,Jb (by decide)]
      simp only [Option.bind_some,Sb]
      cases Eu (decide (110∈hS x.Kind)) x.Name with
      | false=>rfl
      | true =>
        rw [if_pos rfl,Jb (by decide)]
        simp only [Option.bind_some,Rv _ hx.1]
        cases Et (decide (101∈hS x.Kind)) x.E with
        | false=>rfl
        | true =>
          rw [if_pos rfl,Jb (by decide)]
          simp only [Option.bind_some,Rv _ hx.2]
          simp
theorem Xa (x:api_Stmt) (hx:Dn x):Zba 1001 x=some (!Cy x):=by
  unfold Zba
  rw [Yt]
  simp only [Option.bind_some]
  rw [Jb (by decide)]
  simp only [Option.bind_some]
  unfold Cy
  by_cases h:(107:UInt8)∈hS x.Kind
  · rw [if_pos (by simpa using h),if_pos h,My x hx,Bool.decide_and (1≤x.N)]
  · rw [if_neg (by simpa using h),if_neg h,My x hx]
theorem Mv {is:Bool} {s:Str}:((is != Ce s) || ((!is) && (decide (s≠[])))) = !Eu is s:=by
  unfold Eu
  cases is with
  | true=>simp
  | false =>
    by_cases hs:s=[]
    · subst hs;rfl
    · simp [hs]
theorem Mj {is:Bool} {l:List api_Node}:((is != Gu l) || ((!is) && (decide (0 < (l.length:Int))))) = !Et is l:=by
  unfold Et
  cases is with
  | true=>simp
  | false =>
    by_cases hs:l=[]
    · subst hs;rw [Pz];rfl
    · have h1 : 0 < l.length := List.length_pos_iff.2 hs
      simp [hs,h1]
theorem Lm (x:api_Stmt) (v:Bool):Z46 1001 x (hS x.Kind) v=some ((!v) && (if 107∈hS x.Kind then decide (1≤x.N∧x.N≤8) else decide (x.N=0))):=by
  unfold Z46
  cases v with
  | true=>rfl
  | false =>
    rw [if_neg (by decide),show (107:Int)=((107:Nat):Int) from rfl,Gz (by decide),show UInt8.ofNat 107=107 from rfl]
    simp only [Option.bind_some]
    by_cases h:(107:UInt8)∈hS x.Kind
    · rw [if_pos (by simpa using h),if_pos h,Bool.decide_and (1≤x.N)];rfl
    · rw [if_neg (by simpa using h),if_neg h];rfl
theorem Kx (x:api_Stmt) (hx:Dn x) (r t v:Bool):Z45 1001 x (hS x.Kind) r t v=some ((!v) && Et r x.E && Et t x.F && (if 107∈hS x.Kind then decide (1≤x.N∧x.N≤8) else decide (x.N=0))):=by
  unfold Z45
  cases v with
  | true=>rfl
  | false =>
    rw [if_neg (by decide),Im hx.1]
    simp only [Option.bind_some,Mj]
    cases Et r x.E with
    | false=>rw [if_pos (by decide),Lm];rfl
    | true =>
      rw [if_neg (by decide),Im hx.2]
      simp only [Option.bind_some,Mj,Lm]
      simp
theorem Wr (x:api_Stmt) (hx:Dn x):Z44 1001 x=some (Cy x):=by
  unfold Z44 Cy
  by_cases hc:1≤x.Kind∧x.Kind≤14∧0≤x.At∧x.At≤4000
  · rw [if_neg (by simp only [Bool.or_eq_true, decide_eq_true_eq]; omega), decide_eq_true hc, Wx]
    simp only [Option.bind_some]
    rw [show (114:Int)=((114:Nat):Int) from rfl,show (110:Int)=((110:Nat):Int) from rfl,show (101:Int)=((101:Nat):Int) from rfl,show (102:Int)=((102:Nat):Int) from rfl,
      Gz (by decide),Gz (by decide),Gz (by decide),Gz (by decide),Fx]
    simp only [Option.bind_some,Mv]
    have e1:UInt8.ofNat 114=114:=rfl
    have e2:UInt8.ofNat 110=110:=rfl
    have e3:UInt8.ofNat 101=101:=rfl
    have e4:UInt8.ofNat 102=102:=rfl
    rw [e1,e2,e3,e4]
    cases Eu (decide (114∈hS x.Kind)) x.Reg with
    | false=>rw [if_pos (by decide),Kx x hx];simp
    | true =>
      rw [if_neg (by decide),Fx]
      simp only [Option.bind_some,Mv,Kx x hx]
      congr 1
      cases Eu (decide (110∈hS x.Kind)) x.Name <;> cases Et (decide (101∈hS x.Kind)) x.E <;> cases Et (decide (102∈hS x.Kind)) x.F <;> simp
  · rw [if_pos (by simp only [Bool.or_eq_true,decide_eq_true_eq];omega),decide_eq_false hc];rfl
theorem Se {l:List api_Stmt} (hl:l.length≤1000) (hs:∀ x∈l,Dn x):Z9v 1001 l=some (!l.all Cy):=by
  have key:∀ (d j n:Nat),j+d=l.length→d < n→∃ r,Zai 1001 Zah l n (j:Int)=some r∧(decide (0≤r) = !(l.drop j).all Cy):=by
    intro d
    induction d with
    | zero =>
      intro j n hj hn
      obtain ⟨n,rfl⟩:∃ m,n=m+1:=⟨n - 1,by omega⟩
      rw [Zai,if_neg (by omega),List.drop_of_length_le (by omega)]
      exact ⟨-1,rfl,rfl⟩
    | succ d ih =>
      intro j n hj hn
      obtain ⟨n,rfl⟩:∃ m,n=m+1:=⟨n - 1,by omega⟩
      have h1:j < l.length:=by omega
      rw [Zai,if_pos (by omega),As rfl h1]
      simp only [Option.bind_some,Xa _ (hs _ (List.getElem_mem h1))]
      rw [List.drop_eq_getElem_cons h1,List.all_cons]
      cases hk:Cy l[j] with
      | false=>exact ⟨j,by simp,by simp⟩
      | true =>
        obtain ⟨r,h2,h3⟩:=ih (j+1) n (by omega) (by omega)
        rw [Bf h1 (by omega)]
        exact ⟨r,by simpa using h2,by simpa using h3⟩
  obtain ⟨r,h1,h2⟩:=key l.length 0 1001 (by omega) (by omega)
  unfold Z9v Zag
  rw [show (0:Int)=((0:Nat):Int) from rfl,h1]
  simpa using h2
theorem Qt {l:List api_Stmt} (hl:l.length≤1000) (hs:∀ x∈l,Dn x) (k:Option Bool):∀ (d j n:Nat),j+d=l.length→d < n→Z3u 1001 k l n (j:Int)=if (l.drop j).all Cy=true then k else some false:=by
  intro d
  induction d with
  | zero =>
    intro j n hj hn
    obtain ⟨n,rfl⟩:∃ m,n=m+1:=⟨n - 1,by omega⟩
    rw [Z3u,if_neg (by omega),List.drop_of_length_le (by omega)]
    rfl
  | succ d ih =>
    intro j n hj hn
    obtain ⟨n,rfl⟩:∃ m,n=m+1:=⟨n - 1,by omega⟩
    have h1:j < l.length:=by omega
    rw [Z3u,if_pos (by omega),As rfl h1]
    simp only [Option.bind_some,Wr _ (hs _ (List.getElem_mem h1))]
    rw [List.drop_eq_getElem_cons h1,List.all_cons]
    cases hk:Cy l[j] with
    | false=>simp
    | true =>
      rw [if_pos rfl,Bf h1 (by omega),ih (j+1) n (by omega) (by omega)]
      simp
end Go.MD.LB
