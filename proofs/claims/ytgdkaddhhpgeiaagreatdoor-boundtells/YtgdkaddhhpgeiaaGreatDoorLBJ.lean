/- Which statements may be, one by one. No condition: plain lemmas. -/
import Derived.Test.YtgdkaddhhpgeiaaGreatDoorLBI
namespace Go.MD.LB
open Go Go.MD
open Classical in
theorem Ob {p:Prop} {b:Bool} (h:b=true↔p):b=decide p:=by
  cases b with
  | true=>exact (decide_eq_true (h.1 rfl)).symm
  | false=>exact (decide_eq_false (fun q=>by cases h.2 q)).symm
def tabS:List Str:=[[],[114,101],[114,110],[110,101],[114,110,101,102],[110],[110],[],[],[110],[110],[101,98],[107,98],[],[101]]
def hS (k:Int):Str:=if 1≤k∧k≤14 then (tabS[k.toNat]?).getD [] else []
theorem Vf (k:Int):hS k∈tabS:=by
  unfold hS
  split
  · rename_i h
    have hk:k.toNat < tabS.length:=by show k.toNat < 15;omega
    rw [List.getElem?_eq_getElem hk]
    exact List.getElem_mem hk
  · exact .head _
theorem Oh {k:Int} (h:1≤k∧k≤14):getI tabS k=some (hS k):=by
  have hk:k.toNat < tabS.length:=by show k.toNat < 15;omega
  unfold hS
  rw [if_pos h,As (j:=k.toNat) (by omega) hk,List.getElem?_eq_getElem hk]
  rfl
theorem JaE (N:Nat) (k:Int):Zbl N k=some (hS k):=by
  unfold Zbl
  by_cases h:k < 0∨15≤k
  · rw [if_pos (by simpa using h)];unfold hS;rw [if_neg (by omega)]
  · rw [if_neg (by simpa using h), Zbt]
    simp only [Option.bind_some]
    by_cases h0:k=0
    · subst h0;rfl
    · have := Oh (k := k) (by omega)
      unfold tabS at this
      rw [this];rfl
theorem Ym (N:Nat) (k:Int):Z3i N k=some (hS k):=by
  unfold Z3i
  by_cases h:k < 1∨14 < k
  · rw [if_pos (by simpa using h)];unfold hS;rw [if_neg (by omega)]
  · rw [if_neg (by simpa using h)]
    have:=Oh (k:=k) (by omega)
    unfold tabS at this
    rw [this];rfl
theorem Jc {k:Int} {c:UInt8} (hc:c∈[114,110,101,102,107]) (N:Nat):Zbv N [c] (hS k)=some (decide (c∈hS k)):=by
  have h:∀ s∈tabS,∀ c∈([114,110,101,102,107]:List UInt8),s.length < 4294967281∧Lib.contains s [c]=decide (c∈s):=by decide +kernel
  obtain ⟨h1,h2⟩:=h _ (Vf k) c hc
  unfold Zbv Zl
  rw [if_pos h1,h2];rfl
theorem Hb {k:Int} {c:Nat} (hc:c∈[114,110,101,102,107]):Z4j 1001 (hS k) (c:Int)=some (decide (UInt8.ofNat c∈hS k)):=by
  have h:∀ s∈tabS,∀ c∈([114,110,101,102,107]:List Nat),Z4j 1001 s (c:Int)=some (decide (UInt8.ofNat c∈s)):=by decide +kernel
  exact h _ (Vf k) c hc
def Fc (is:Bool) (s:Str):Bool:=if is=true then Cj s else decide (s=[])
open Classical in
noncomputable def He (l:List api_Node):Bool:=decide (∃ t,RightE l t)
noncomputable def Fb (is:Bool) (l:List api_Node):Bool:=if is=true then He l else decide (l=[])
theorem Mn {l:List api_Node} (hl:l.length≤60):Zq 1001 l=some (He l):=by
  obtain ⟨b,h1,h2⟩:=Qx hl
  rw [h1]
  congr 1
  exact Ob h2
theorem Ir {l:List api_Node} (hl:l.length≤60):Z32 1001 l=some (He l):=by
  obtain ⟨b,h1,h2⟩:=Pj hl
  rw [h1]
  congr 1
  exact Ob h2
theorem Qq:He []=false:=by
  refine (Ob (b:=false) (p:=∃ t,RightE [] t) ⟨fun h=>(by cases h),fun ⟨t,ht⟩=>?_⟩).symm
  have e:=congrArg List.length ht.flat
  rw [T.flat_len] at e
  have:=T.size_pos t
  simp at e
  omega
noncomputable def Cz (x:api_Stmt):Bool:=
  decide (1≤x.Kind∧x.Kind≤14∧0≤x.At∧x.At≤4000) && (if 107∈hS x.Kind then decide (1≤x.N∧x.N≤8) else decide (x.N=0)) &&
  (Fc (decide (114∈hS x.Kind)) x.Reg && (Fc (decide (110∈hS x.Kind)) x.Name && (Fb (decide (101∈hS x.Kind)) x.E && Fb (decide (102∈hS x.Kind)) x.F)))
def Do (x:api_Stmt):Prop:=x.E.length≤60∧x.F.length≤60
theorem Sp (is:Bool) (s:Str):Zbw 1001 is s=some (Fc is s):=by
  unfold Zbw Fc
  cases is with
  | true=>rw [if_pos rfl,if_pos rfl,Jb];simp
  | false=>rw [if_neg (by decide),if_neg (by decide)];simp
theorem Sb (is:Bool) {l:List api_Node} (hl:l.length≤60):Zbx 1001 is l=some (Fb is l):=by
  unfold Zbx Fb
  cases is with
  | true=>rw [if_pos rfl,if_pos rfl,Mn hl];simp
  | false=>rw [if_neg (by decide),if_neg (by decide)];simp
theorem Nr (x:api_Stmt) (hx:Do x) (v:Bool):Zby 1001 x (hS x.Kind) v=some (!(decide (1≤x.Kind∧x.Kind≤14∧0≤x.At∧x.At≤4000) && v && (Fc (decide (114∈hS x.Kind)) x.Reg && (Fc (decide (110∈hS x.Kind)) x.Name && (Fb (decide (101∈hS x.Kind)) x.E && Fb (decide (102∈hS x.Kind)) x.F))))):=by
  unfold Zby
  have hc:((((decide (1≤x.Kind)) && (decide (x.Kind < 15))) && (decide (0≤x.At))) && (decide (x.At≤4000)))=decide (1≤x.Kind∧x.Kind≤14∧0≤x.At∧x.At≤4000):=by
    rw [Bool.eq_iff_iff];simp only [Bool.and_eq_true,decide_eq_true_eq];omega
  rw [hc]
  cases hv:(decide (1≤x.Kind∧x.Kind≤14∧0≤x.At∧x.At≤4000) && v) with
  | false=>rw [if_neg (by decide)];rfl
  | true =>
    rw [if_pos rfl,Jc (by decide)]
    simp only [Option.bind_some,Sp]
    cases Fc (decide (114∈hS x.Kind)) x.Reg with
    | false=>rfl
    | true =>
      rw [if_pos rfl,Jc (by decide)]
      simp only [Option.bind_some,Sp]
      cases Fc (decide (110∈hS x.Kind)) x.Name with
      | false=>rfl
      | true =>
        rw [if_pos rfl,Jc (by decide)]
        simp only [Option.bind_some,Sb _ hx.1]
        cases Fb (decide (101∈hS x.Kind)) x.E with
        | false=>rfl
        | true =>
          rw [if_pos rfl,Jc (by decide)]
          simp only [Option.bind_some,Sb _ hx.2]
          simp
theorem Ys (x:api_Stmt) (hx:Do x):Zbu 1001 x=some (!Cz x):=by
  unfold Zbu
  rw [JaE]
  simp only [Option.bind_some]
  rw [Jc (by decide)]
  simp only [Option.bind_some]
  unfold Cz
  by_cases h:(107:UInt8)∈hS x.Kind
  · rw [if_pos (by simpa using h),if_pos h,Nr x hx,Bool.decide_and (1≤x.N)]
  · rw [if_neg (by simpa using h),if_neg h,Nr x hx]
theorem Mm {is:Bool} {s:Str}:((is != Cj s) || ((!is) && (decide (s≠[])))) = !Fc is s:=by
  unfold Fc
  cases is with
  | true=>simp
  | false =>
    by_cases hs:s=[]
    · subst hs;rfl
    · simp [hs]
theorem Nj {is:Bool} {l:List api_Node}:((is != He l) || ((!is) && (decide (0 < (l.length:Int))))) = !Fb is l:=by
  unfold Fb
  cases is with
  | true=>simp
  | false =>
    by_cases hs:l=[]
    · subst hs;rw [Qq];rfl
    · have h1 : 0 < l.length := List.length_pos_iff.2 hs
      simp [hs,h1]
theorem Lx (x:api_Stmt) (v:Bool):Z4t 1001 x (hS x.Kind) v=some ((!v) && (if 107∈hS x.Kind then decide (1≤x.N∧x.N≤8) else decide (x.N=0))):=by
  unfold Z4t
  cases v with
  | true=>rfl
  | false =>
    rw [if_neg (by decide),show (107:Int)=((107:Nat):Int) from rfl,Hb (by decide),show UInt8.ofNat 107=107 from rfl]
    simp only [Option.bind_some]
    by_cases h:(107:UInt8)∈hS x.Kind
    · rw [if_pos (by simpa using h),if_pos h,Bool.decide_and (1≤x.N)];rfl
    · rw [if_neg (by simpa using h),if_neg h];rfl
theorem Lm (x:api_Stmt) (hx:Do x) (r t v:Bool):Z4s 1001 x (hS x.Kind) r t v=some ((!v) && Fb r x.E && Fb t x.F && (if 107∈hS x.Kind then decide (1≤x.N∧x.N≤8) else decide (x.N=0))):=by
  unfold Z4s
  cases v with
  | true=>rfl
  | false =>
    rw [if_neg (by decide),Ir hx.1]
    simp only [Option.bind_some,Nj]
    cases Fb r x.E with
    | false=>rw [if_pos (by decide),Lx];rfl
    | true =>
      rw [if_neg (by decide),Ir hx.2]
      simp only [Option.bind_some,Nj,Lx]
      simp
theorem Yv (x:api_Stmt) (hx:Do x):Z4r 1001 x=some (Cz x):=by
  unfold Z4r Cz
  by_cases hc:1≤x.Kind∧x.Kind≤14∧0≤x.At∧x.At≤4000
  · rw [if_neg (by simp only [Bool.or_eq_true, decide_eq_true_eq]; omega), decide_eq_true hc, Ym]
    simp only [Option.bind_some]
    rw [show (114:Int)=((114:Nat):Int) from rfl,show (110:Int)=((110:Nat):Int) from rfl,show (101:Int)=((101:Nat):Int) from rfl,show (102:Int)=((102:Nat):Int) from rfl,
      Hb (by decide),Hb (by decide),Hb (by decide),Hb (by decide),Gd]
    simp only [Option.bind_some,Mm]
    have e1:UInt8.ofNat 114=114:=rfl
    have e2:UInt8.ofNat 110=110:=rfl
    have e3:UInt8.ofNat 101=101:=rfl
    have e4:UInt8.ofNat 102=102:=rfl
    rw [e1,e2,e3,e4]
    cases Fc (decide (114∈hS x.Kind)) x.Reg with
    | false=>rw [if_pos (by decide),Lm x hx];simp
    | true =>
      rw [if_neg (by decide),Gd]
      simp only [Option.bind_some,Mm,Lm x hx]
      congr 1
      cases Fc (decide (110∈hS x.Kind)) x.Name <;> cases Fb (decide (101∈hS x.Kind)) x.E <;> cases Fb (decide (102∈hS x.Kind)) x.F <;> simp
  · rw [if_pos (by simp only [Bool.or_eq_true,decide_eq_true_eq];omega),decide_eq_false hc];rfl
theorem Tt {l:List api_Stmt} (hl:l.length≤1000) (hs:∀ x∈l,Do x):Zai 1001 l=some (!l.all Cz):=by
  have key:∀ (d j n:Nat),j+d=l.length→d < n→∃ r,Zb5 1001 Zb4 l n (j:Int)=some r∧(decide (0≤r) = !(l.drop j).all Cz):=by
    intro d
    induction d with
    | zero =>
      intro j n hj hn
      obtain ⟨n,rfl⟩:∃ m,n=m+1:=⟨n - 1,by omega⟩
      rw [Zb5,if_neg (by omega),List.drop_of_length_le (by omega)]
      exact ⟨-1,rfl,rfl⟩
    | succ d ih =>
      intro j n hj hn
      obtain ⟨n,rfl⟩:∃ m,n=m+1:=⟨n - 1,by omega⟩
      have h1:j < l.length:=by omega
      rw [Zb5,if_pos (by omega),As rfl h1]
      simp only [Option.bind_some,Ys _ (hs _ (List.getElem_mem h1))]
      rw [List.drop_eq_getElem_cons h1,List.all_cons]
      cases hk:Cz l[j] with
      | false=>exact ⟨j,by simp,by simp⟩
      | true =>
        obtain ⟨r,h2,h3⟩:=ih (j+1) n (by omega) (by omega)
        rw [Be h1 (by omega)]
        exact ⟨r,by simpa using h2,by simpa using h3⟩
  obtain ⟨r,h1,h2⟩:=key l.length 0 1001 (by omega) (by omega)
  unfold Zai Zb3
  rw [show (0:Int)=((0:Nat):Int) from rfl,h1]
  simpa using h2
theorem Qp {l:List api_Stmt} (hl:l.length≤1000) (hs:∀ x∈l,Do x) (k:Option Bool):∀ (d j n:Nat),j+d=l.length→d < n→Z4h 1001 k l n (j:Int)=if (l.drop j).all Cz=true then k else some false:=by
  intro d
  induction d with
  | zero =>
    intro j n hj hn
    obtain ⟨n,rfl⟩:∃ m,n=m+1:=⟨n - 1,by omega⟩
    rw [Z4h,if_neg (by omega),List.drop_of_length_le (by omega)]
    rfl
  | succ d ih =>
    intro j n hj hn
    obtain ⟨n,rfl⟩:∃ m,n=m+1:=⟨n - 1,by omega⟩
    have h1:j < l.length:=by omega
    rw [Z4h,if_pos (by omega),As rfl h1]
    simp only [Option.bind_some,Yv _ (hs _ (List.getElem_mem h1))]
    rw [List.drop_eq_getElem_cons h1,List.all_cons]
    cases hk:Cz l[j] with
    | false=>simp
    | true =>
      rw [if_pos rfl,Be h1 (by omega),ih (j+1) n (by omega) (by omega)]
      simp
end Go.MD.LB
