/- Which statements may be, one by one. No condition: plain lemmas. -/
import Derived.Test.YtgdkaddhhpgeiaaGreatDoorLBI
namespace Go.MD.LB
open Go Go.MD
open Classical in
theorem Nb {p:Prop} {b:Bool} (h:b=true↔p):b=decide p:=by
  cases b with
  | true=>exact (decide_eq_true (h.1 rfl)).symm
  | false=>exact (decide_eq_false (fun q=>by cases h.2 q)).symm
def tabS:List Str:=[[],[114,101],[114,110],[110,101],[114,110,101,102],[110],[110],[],[],[110],[110],[101,98],[107,98],[],[101]]
def hS (k:Int):Str:=if 1≤k∧k≤14 then (tabS[k.toNat]?).getD [] else []
theorem Ua (k:Int):hS k∈tabS:=by
  unfold hS
  split
  · rename_i h
    have hk:k.toNat < tabS.length:=by show k.toNat < 15;omega
    rw [List.getElem?_eq_getElem hk]
    exact List.getElem_mem hk
  · exact .head _
theorem Pk {k:Int} (h:1≤k∧k≤14):getI tabS k=some (hS k):=by
  have hk:k.toNat < tabS.length:=by show k.toNat < 15;omega
  unfold hS
  rw [if_pos h,Ax (j:=k.toNat) (by omega) hk,List.getElem?_eq_getElem hk]
  rfl
theorem Jai (N:Nat) (k:Int):Z9f N k=some (hS k):=by
  unfold Z9f
  by_cases h:k < 0∨15≤k
  · rw [if_pos (by simpa using h)];unfold hS;rw [if_neg (by omega)]
  · rw [if_neg (by simpa using h), Z9n]
    simp only [Option.bind_some]
    by_cases h0:k=0
    · subst h0;rfl
    · have := Pk (k := k) (by omega)
      unfold tabS at this
      rw [this];rfl
theorem Wo (N:Nat) (k:Int):Z33 N k=some (hS k):=by
  unfold Z33
  by_cases h:k < 1∨14 < k
  · rw [if_pos (by simpa using h)];unfold hS;rw [if_neg (by omega)]
  · rw [if_neg (by simpa using h)]
    have:=Pk (k:=k) (by omega)
    unfold tabS at this
    rw [this];rfl
theorem Ij {k:Int} {c:UInt8} (hc:c∈[114,110,101,102,107]) (N:Nat):Z9p N [c] (hS k)=some (decide (c∈hS k)):=by
  have h:∀ s∈tabS,∀ c∈([114,110,101,102,107]:List UInt8),s.length < 4294967281∧Lib.contains s [c]=decide (c∈s):=by decide +kernel
  obtain ⟨h1,h2⟩:=h _ (Ua k) c hc
  unfold Z9p Z0
  rw [if_pos h1,h2];rfl
theorem Gf {k:Int} {c:Nat} (hc:c∈[114,110,101,102,107]):Z44 1001 (hS k) (c:Int)=some (decide (UInt8.ofNat c∈hS k)):=by
  have h:∀ s∈tabS,∀ c∈([114,110,101,102,107]:List Nat),Z44 1001 s (c:Int)=some (decide (UInt8.ofNat c∈s)):=by decide +kernel
  exact h _ (Ua k) c hc
def Fv (is:Bool) (s:Str):Bool:=if is=true then Cy s else decide (s=[])
open Classical in
noncomputable def Hw (l:List api_Node):Bool:=decide (∃ t,RightE l t)
noncomputable def Dz (is:Bool) (l:List api_Node):Bool:=if is=true then Hw l else decide (l=[])
theorem Mz {l:List api_Node} (hl:l.length≤60):Z5 1001 l=some (Hw l):=by
  obtain ⟨b,h1,h2⟩:=Qb hl
  rw [h1]
  congr 1
  exact Nb h2
theorem Lp {l:List api_Node} (hl:l.length≤60):Z2n 1001 l=some (Hw l):=by
  obtain ⟨b,h1,h2⟩:=Om hl
  rw [h1]
  congr 1
  exact Nb h2
theorem Pp:Hw []=false:=by
  refine (Nb (b:=false) (p:=∃ t,RightE [] t) ⟨fun h=>(by cases h),fun ⟨t,ht⟩=>?_⟩).symm
  have e:=congrArg List.length ht.flat
  rw [T.flat_len] at e
  have:=T.size_pos t
  simp at e
  omega
noncomputable def Dl (x:api_Stmt):Bool:=
  decide (1≤x.Kind∧x.Kind≤14∧0≤x.At∧x.At≤4000) && (if 107∈hS x.Kind then decide (1≤x.N∧x.N≤8) else decide (x.N=0)) &&
  (Fv (decide (114∈hS x.Kind)) x.Reg && (Fv (decide (110∈hS x.Kind)) x.Name && (Dz (decide (101∈hS x.Kind)) x.E && Dz (decide (102∈hS x.Kind)) x.F)))
def Dd (x:api_Stmt):Prop:=x.E.length≤60∧x.F.length≤60
theorem Re (is:Bool) (s:Str):Z9q 1001 is s=some (Fv is s):=by
  unfold Z9q Fv
  cases is with
  | true=>rw [if_pos rfl,if_pos rfl,H5];simp
  | false=>rw [if_neg (by decide),if_neg (by decide)];simp
theorem Rf (is:Bool) {l:List api_Node} (hl:l.length≤60):Z9r 1001 is l=some (Dz is l):=by
  unfold Z9r Dz
  cases is with
  | true=>rw [if_pos rfl,if_pos rfl,Mz hl];simp
  | false=>rw [if_neg (by decide),if_neg (by decide)];simp
theorem Mv (x:api_Stmt) (hx:Dd x) (v:Bool):Z9s 1001 x (hS x.Kind) v=some (!(decide (1≤x.Kind∧x.Kind≤14∧0≤x.At∧x.At≤4000) && v && (Fv (decide (114∈hS x.Kind)) x.Reg && (Fv (decide (110∈hS x.Kind)) x.Name && (Dz (decide (101∈hS x.Kind)) x.E && Dz (decide (102∈hS x.Kind)) x.F))))):=by
  unfold Z9s
  have hc:((((decide (1≤x.Kind)) && (decide (x.Kind < 15))) && (decide (0≤x.At))) && (decide (x.At≤4000)))=decide (1≤x.Kind∧x.Kind≤14∧0≤x.At∧x.At≤4000):=by
    rw [Bool.eq_iff_iff];simp only [Bool.and_eq_true,decide_eq_true_eq];omega
  rw [hc]
  cases hv:(decide (1≤x.Kind∧x.Kind≤14∧0≤x.At∧x.At≤4000) && v) with
  | false=>rw [if_neg (by decide)];rfl
  | true =>
    rw [if_pos rfl,Ij (by decide)]
    simp only [Option.bind_some,Re]
    cases Fv (decide (114∈hS x.Kind)) x.Reg with
    | false=>rfl
    | true =>
      rw [if_pos rfl,Ij (by decide)]
      simp only [Option.bind_some,Re]
      cases Fv (decide (110∈hS x.Kind)) x.Name with
      | false=>rfl
      | true =>
        rw [if_pos rfl,Ij (by decide)]
        simp only [Option.bind_some,Rf _ hx.1]
        cases Dz (decide (101∈hS x.Kind)) x.E with
        | false=>rfl
        | true =>
          rw [if_pos rfl,Ij (by decide)]
          simp only [Option.bind_some,Rf _ hx.2]
          simp
theorem Xa (x:api_Stmt) (hx:Dd x):Z9o 1001 x=some (!Dl x):=by
  unfold Z9o
  rw [Jai]
  simp only [Option.bind_some]
  rw [Ij (by decide)]
  simp only [Option.bind_some]
  unfold Dl
  by_cases h:(107:UInt8)∈hS x.Kind
  · rw [if_pos (by simpa using h),if_pos h,Mv x hx,Bool.decide_and (1≤x.N)]
  · rw [if_neg (by simpa using h),if_neg h,Mv x hx]
theorem Mi {is:Bool} {s:Str}:((is != Cy s) || ((!is) && (decide (s≠[])))) = !Fv is s:=by
  unfold Fv
  cases is with
  | true=>simp
  | false =>
    by_cases hs:s=[]
    · subst hs;rfl
    · simp [hs]
theorem Ml {is:Bool} {l:List api_Node}:((is != Hw l) || ((!is) && (decide (0 < (l.length:Int))))) = !Dz is l:=by
  unfold Dz
  cases is with
  | true=>simp
  | false =>
    by_cases hs:l=[]
    · subst hs;rw [Pp];rfl
    · have h1 : 0 < l.length := List.length_pos_iff.2 hs
      simp [hs,h1]
theorem Kn (x:api_Stmt) (v:Bool):Z4e 1001 x (hS x.Kind) v=some ((!v) && (if 107∈hS x.Kind then decide (1≤x.N∧x.N≤8) else decide (x.N=0))):=by
  unfold Z4e
  cases v with
  | true=>rfl
  | false =>
    rw [if_neg (by decide),show (107:Int)=((107:Nat):Int) from rfl,Gf (by decide),show UInt8.ofNat 107=107 from rfl]
    simp only [Option.bind_some]
    by_cases h:(107:UInt8)∈hS x.Kind
    · rw [if_pos (by simpa using h),if_pos h,Bool.decide_and (1≤x.N)];rfl
    · rw [if_neg (by simpa using h),if_neg h];rfl
theorem Ku (x:api_Stmt) (hx:Dd x) (r t v:Bool):Z4d 1001 x (hS x.Kind) r t v=some ((!v) && Dz r x.E && Dz t x.F && (if 107∈hS x.Kind then decide (1≤x.N∧x.N≤8) else decide (x.N=0))):=by
  unfold Z4d
  cases v with
  | true=>rfl
  | false =>
    rw [if_neg (by decide),Lp hx.1]
    simp only [Option.bind_some,Ml]
    cases Dz r x.E with
    | false=>rw [if_pos (by decide),Kn];rfl
    | true =>
      rw [if_neg (by decide),Lp hx.2]
      simp only [Option.bind_some,Ml,Kn]
      simp
theorem Wg (x:api_Stmt) (hx:Dd x):Z4c 1001 x=some (Dl x):=by
  unfold Z4c Dl
  by_cases hc:1≤x.Kind∧x.Kind≤14∧0≤x.At∧x.At≤4000
  · rw [if_neg (by simp only [Bool.or_eq_true, decide_eq_true_eq]; omega), decide_eq_true hc, Wo]
    simp only [Option.bind_some]
    rw [show (114:Int)=((114:Nat):Int) from rfl,show (110:Int)=((110:Nat):Int) from rfl,show (101:Int)=((101:Nat):Int) from rfl,show (102:Int)=((102:Nat):Int) from rfl,
      Gf (by decide),Gf (by decide),Gf (by decide),Gf (by decide),Kr]
    simp only [Option.bind_some,Mi]
    have e1:UInt8.ofNat 114=114:=rfl
    have e2:UInt8.ofNat 110=110:=rfl
    have e3:UInt8.ofNat 101=101:=rfl
    have e4:UInt8.ofNat 102=102:=rfl
    rw [e1,e2,e3,e4]
    cases Fv (decide (114∈hS x.Kind)) x.Reg with
    | false=>rw [if_pos (by decide),Ku x hx];simp
    | true =>
      rw [if_neg (by decide),Kr]
      simp only [Option.bind_some,Mi,Ku x hx]
      congr 1
      cases Fv (decide (110∈hS x.Kind)) x.Name <;> cases Dz (decide (101∈hS x.Kind)) x.E <;> cases Dz (decide (102∈hS x.Kind)) x.F <;> simp
  · rw [if_pos (by simp only [Bool.or_eq_true,decide_eq_true_eq];omega),decide_eq_false hc];rfl
theorem Si {l:List api_Stmt} (hl:l.length≤1000) (hs:∀ x∈l,Dd x):Z89 1001 l=some (!l.all Dl):=by
  have key:∀ (d j n:Nat),j+d=l.length→d < n→∃ r,Z8w 1001 Z8v l n (j:Int)=some r∧(decide (0≤r) = !(l.drop j).all Dl):=by
    intro d
    induction d with
    | zero =>
      intro j n hj hn
      obtain ⟨n,rfl⟩:∃ m,n=m+1:=⟨n - 1,by omega⟩
      rw [Z8w,if_neg (by omega),List.drop_of_length_le (by omega)]
      exact ⟨-1,rfl,rfl⟩
    | succ d ih =>
      intro j n hj hn
      obtain ⟨n,rfl⟩:∃ m,n=m+1:=⟨n - 1,by omega⟩
      have h1:j < l.length:=by omega
      rw [Z8w,if_pos (by omega),Ax rfl h1]
      simp only [Option.bind_some,Xa _ (hs _ (List.getElem_mem h1))]
      rw [List.drop_eq_getElem_cons h1,List.all_cons]
      cases hk:Dl l[j] with
      | false=>exact ⟨j,by simp,by simp⟩
      | true =>
        obtain ⟨r,h2,h3⟩:=ih (j+1) n (by omega) (by omega)
        rw [Bf h1 (by omega)]
        exact ⟨r,by simpa using h2,by simpa using h3⟩
  obtain ⟨r,h1,h2⟩:=key l.length 0 1001 (by omega) (by omega)
  unfold Z89 Z8u
  rw [show (0:Int)=((0:Nat):Int) from rfl,h1]
  simpa using h2
theorem Qp {l:List api_Stmt} (hl:l.length≤1000) (hs:∀ x∈l,Dd x) (k:Option Bool):∀ (d j n:Nat),j+d=l.length→d < n→Z42 1001 k l n (j:Int)=if (l.drop j).all Dl=true then k else some false:=by
  intro d
  induction d with
  | zero =>
    intro j n hj hn
    obtain ⟨n,rfl⟩:∃ m,n=m+1:=⟨n - 1,by omega⟩
    rw [Z42,if_neg (by omega),List.drop_of_length_le (by omega)]
    rfl
  | succ d ih =>
    intro j n hj hn
    obtain ⟨n,rfl⟩:∃ m,n=m+1:=⟨n - 1,by omega⟩
    have h1:j < l.length:=by omega
    rw [Z42,if_pos (by omega),Ax rfl h1]
    simp only [Option.bind_some,Wg _ (hs _ (List.getElem_mem h1))]
    rw [List.drop_eq_getElem_cons h1,List.all_cons]
    cases hk:Dl l[j] with
    | false=>simp
    | true =>
      rw [if_pos rfl,Bf h1 (by omega),ih (j+1) n (by omega) (by omega)]
      simp
end Go.MD.LB
