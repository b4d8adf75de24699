/- Which statements may be, one by one. No condition: plain lemmas. -/
import Derived.Test.YtgdkaddhhpgeiaaGreatDoorLBI
namespace Go.MD.LB
open Go Go.MD
open Classical in
theorem dec_ex {p:Prop} {b:Bool} (h:b=true↔p):b=decide p:=by
  cases b with
  | true=>exact (decide_eq_true (h.1 rfl)).symm
  | false=>exact (decide_eq_false (fun q=>by cases h.2 q)).symm
def tabS:List Str:=[[],[114,101],[114,110],[110,101],[114,110,101,102],[110],[110],[],[],[110],[110],[101,98],[107,98],[],[101]]
def hS (k:Int):Str:=if 1≤k∧k≤14 then (tabS[k.toNat]?).getD [] else []
theorem hS_mem (k:Int):hS k∈tabS:=by
  unfold hS
  split
  · rename_i h
    have hk:k.toNat < tabS.length:=by show k.toNat < 15;omega
    rw [List.getElem?_eq_getElem hk]
    exact List.getElem_mem hk
  · exact .head _
theorem getI_tab {k:Int} (h:1≤k∧k≤14):getI tabS k=some (hS k):=by
  have hk:k.toNat < tabS.length:=by show k.toNat < 15;omega
  unfold hS
  rw [if_pos h,getI_at (j:=k.toNat) (by omega) hk,List.getElem?_eq_getElem hk]
  rfl
theorem has_eq (N:Nat) (k:Int):Z9k N k=some (hS k):=by
  unfold Z9k
  by_cases h:k < 0∨15≤k
  · rw [if_pos (by simpa using h)];unfold hS;rw [if_neg (by omega)]
  · rw [if_neg (by simpa using h), Z9s]
    simp only [Option.bind_some]
    by_cases h0:k=0
    · subst h0;rfl
    · have := getI_tab (k := k) (by omega)
      unfold tabS at this
      rw [this];rfl
theorem rhas_eq (N:Nat) (k:Int):Z38 N k=some (hS k):=by
  unfold Z38
  by_cases h:k < 1∨14 < k
  · rw [if_pos (by simpa using h)];unfold hS;rw [if_neg (by omega)]
  · rw [if_neg (by simpa using h)]
    have:=getI_tab (k:=k) (by omega)
    unfold tabS at this
    rw [this];rfl
theorem odd1_eq {k:Int} {c:UInt8} (hc:c∈[114,110,101,102,107]) (N:Nat):Z9u N [c] (hS k)=some (decide (c∈hS k)):=by
  have h:∀ s∈tabS,∀ c∈([114,110,101,102,107]:List UInt8),s.length < 4294967281∧Lib.contains s [c]=decide (c∈s):=by decide +kernel
  obtain ⟨h1,h2⟩:=h _ (hS_mem k) c hc
  unfold Z9u Z0
  rw [if_pos h1,h2];rfl
theorem among_eq {k:Int} {c:Nat} (hc:c∈[114,110,101,102,107]):Z49 1001 (hS k) (c:Int)=some (decide (UInt8.ofNat c∈hS k)):=by
  have h:∀ s∈tabS,∀ c∈([114,110,101,102,107]:List Nat),Z49 1001 s (c:Int)=some (decide (UInt8.ofNat c∈s)):=by decide +kernel
  exact h _ (hS_mem k) c hc
def textB (is:Bool) (s:Str):Bool:=if is=true then nameS s else decide (s=[])
open Classical in
noncomputable def rightE (l:List api_Node):Bool:=decide (∃ t,RightE l t)
noncomputable def nodeB (is:Bool) (l:List api_Node):Bool:=if is=true then rightE l else decide (l=[])
theorem rightE_eq {l:List api_Node} (hl:l.length≤60):Z5 1001 l=some (rightE l):=by
  obtain ⟨b,h1,h2⟩:=Right_spec hl
  rw [h1]
  congr 1
  exact dec_ex h2
theorem rrightE_eq {l:List api_Node} (hl:l.length≤60):Z2s 1001 l=some (rightE l):=by
  obtain ⟨b,h1,h2⟩:=rRight_spec hl
  rw [h1]
  congr 1
  exact dec_ex h2
theorem rightE_nil:rightE []=false:=by
  refine (dec_ex (b:=false) (p:=∃ t,RightE [] t) ⟨fun h=>(by cases h),fun ⟨t,ht⟩=>?_⟩).symm
  have e:=congrArg List.length ht.flat
  rw [T.flat_len] at e
  have:=T.size_pos t
  simp at e
  omega
noncomputable def fitsS (x:api_Stmt):Bool:=
  decide (1≤x.Kind∧x.Kind≤14∧0≤x.At∧x.At≤4000) && (if 107∈hS x.Kind then decide (1≤x.N∧x.N≤8) else decide (x.N=0)) &&
  (textB (decide (114∈hS x.Kind)) x.Reg && (textB (decide (110∈hS x.Kind)) x.Name && (nodeB (decide (101∈hS x.Kind)) x.E && nodeB (decide (102∈hS x.Kind)) x.F)))
def smallS (x:api_Stmt):Prop:=x.E.length≤60∧x.F.length≤60
theorem odd2_eq (is:Bool) (s:Str):Z9v 1001 is s=some (textB is s):=by
  unfold Z9v textB
  cases is with
  | true=>rw [if_pos rfl,if_pos rfl,Name_eq];simp
  | false=>rw [if_neg (by decide),if_neg (by decide)];simp
theorem odd3_eq (is:Bool) {l:List api_Node} (hl:l.length≤60):Z9w 1001 is l=some (nodeB is l):=by
  unfold Z9w nodeB
  cases is with
  | true=>rw [if_pos rfl,if_pos rfl,rightE_eq hl];simp
  | false=>rw [if_neg (by decide),if_neg (by decide)];simp
theorem odd_j1_eq (x:api_Stmt) (hx:smallS x) (v:Bool):Z9x 1001 x (hS x.Kind) v=some (!(decide (1≤x.Kind∧x.Kind≤14∧0≤x.At∧x.At≤4000) && v && (textB (decide (114∈hS x.Kind)) x.Reg && (textB (decide (110∈hS x.Kind)) x.Name && (nodeB (decide (101∈hS x.Kind)) x.E && nodeB (decide (102∈hS x.Kind)) x.F))))):=by
  unfold Z9x
  have hc:((((decide (1≤x.Kind)) && (decide (x.Kind < 15))) && (decide (0≤x.At))) && (decide (x.At≤4000)))=decide (1≤x.Kind∧x.Kind≤14∧0≤x.At∧x.At≤4000):=by
    rw [Bool.eq_iff_iff];simp only [Bool.and_eq_true,decide_eq_true_eq];omega
  rw [hc]
  cases hv:(decide (1≤x.Kind∧x.Kind≤14∧0≤x.At∧x.At≤4000) && v) with
  | false=>rw [if_neg (by decide)];rfl
  | true =>
    rw [if_pos rfl,odd1_eq (by decide)]
    simp only [Option.bind_some,odd2_eq]
    cases textB (decide (114∈hS x.Kind)) x.Reg with
    | false=>rfl
    | true =>
      rw [if_pos rfl,odd1_eq (by decide)]
      simp only [Option.bind_some,odd2_eq]
      cases textB (decide (110∈hS x.Kind)) x.Name with
      | false=>rfl
      | true =>
        rw [if_pos rfl,odd1_eq (by decide)]
        simp only [Option.bind_some,odd3_eq _ hx.1]
        cases nodeB (decide (101∈hS x.Kind)) x.E with
        | false=>rfl
        | true =>
          rw [if_pos rfl,odd1_eq (by decide)]
          simp only [Option.bind_some,odd3_eq _ hx.2]
          simp
theorem sodd_eq (x:api_Stmt) (hx:smallS x):Z9t 1001 x=some (!fitsS x):=by
  unfold Z9t
  rw [has_eq]
  simp only [Option.bind_some]
  rw [odd1_eq (by decide)]
  simp only [Option.bind_some]
  unfold fitsS
  by_cases h:(107:UInt8)∈hS x.Kind
  · rw [if_pos (by simpa using h),if_pos h,odd_j1_eq x hx,Bool.decide_and (1≤x.N)]
  · rw [if_neg (by simpa using h),if_neg h,odd_j1_eq x hx]
theorem fits_text {is:Bool} {s:Str}:((is != nameS s) || ((!is) && (decide (s≠[])))) = !textB is s:=by
  unfold textB
  cases is with
  | true=>simp
  | false =>
    by_cases hs:s=[]
    · subst hs;rfl
    · simp [hs]
theorem fits_node {is:Bool} {l:List api_Node}:((is != rightE l) || ((!is) && (decide (0 < (l.length:Int))))) = !nodeB is l:=by
  unfold nodeB
  cases is with
  | true=>simp
  | false =>
    by_cases hs:l=[]
    · subst hs;rw [rightE_nil];rfl
    · have h1 : 0 < l.length := List.length_pos_iff.2 hs
      simp [hs,h1]
theorem fits_j2_eq (x:api_Stmt) (v:Bool):Z4j 1001 x (hS x.Kind) v=some ((!v) && (if 107∈hS x.Kind then decide (1≤x.N∧x.N≤8) else decide (x.N=0))):=by
  unfold Z4j
  cases v with
  | true=>rfl
  | false =>
    rw [if_neg (by decide),show (107:Int)=((107:Nat):Int) from rfl,among_eq (by decide),show UInt8.ofNat 107=107 from rfl]
    simp only [Option.bind_some]
    by_cases h:(107:UInt8)∈hS x.Kind
    · rw [if_pos (by simpa using h),if_pos h,Bool.decide_and (1≤x.N)];rfl
    · rw [if_neg (by simpa using h),if_neg h];rfl
theorem fits_j1_eq (x:api_Stmt) (hx:smallS x) (r t v:Bool):Z4i 1001 x (hS x.Kind) r t v=some ((!v) && nodeB r x.E && nodeB t x.F && (if 107∈hS x.Kind then decide (1≤x.N∧x.N≤8) else decide (x.N=0))):=by
  unfold Z4i
  cases v with
  | true=>rfl
  | false =>
    rw [if_neg (by decide),rrightE_eq hx.1]
    simp only [Option.bind_some,fits_node]
    cases nodeB r x.E with
    | false=>rw [if_pos (by decide),fits_j2_eq];rfl
    | true =>
      rw [if_neg (by decide),rrightE_eq hx.2]
      simp only [Option.bind_some,fits_node,fits_j2_eq]
      simp
theorem fits_eq (x:api_Stmt) (hx:smallS x):Z4h 1001 x=some (fitsS x):=by
  unfold Z4h fitsS
  by_cases hc:1≤x.Kind∧x.Kind≤14∧0≤x.At∧x.At≤4000
  · rw [if_neg (by simp only [Bool.or_eq_true, decide_eq_true_eq]; omega), decide_eq_true hc, rhas_eq]
    simp only [Option.bind_some]
    rw [show (114:Int)=((114:Nat):Int) from rfl,show (110:Int)=((110:Nat):Int) from rfl,show (101:Int)=((101:Nat):Int) from rfl,show (102:Int)=((102:Nat):Int) from rfl,
      among_eq (by decide),among_eq (by decide),among_eq (by decide),among_eq (by decide),rName_eq]
    simp only [Option.bind_some,fits_text]
    have e1:UInt8.ofNat 114=114:=rfl
    have e2:UInt8.ofNat 110=110:=rfl
    have e3:UInt8.ofNat 101=101:=rfl
    have e4:UInt8.ofNat 102=102:=rfl
    rw [e1,e2,e3,e4]
    cases textB (decide (114∈hS x.Kind)) x.Reg with
    | false=>rw [if_pos (by decide),fits_j1_eq x hx];simp
    | true =>
      rw [if_neg (by decide),rName_eq]
      simp only [Option.bind_some,fits_text,fits_j1_eq x hx]
      congr 1
      cases textB (decide (110∈hS x.Kind)) x.Name <;> cases nodeB (decide (101∈hS x.Kind)) x.E <;> cases nodeB (decide (102∈hS x.Kind)) x.F <;> simp
  · rw [if_pos (by simp only [Bool.or_eq_true,decide_eq_true_eq];omega),decide_eq_false hc];rfl
theorem allodd_eq {l:List api_Stmt} (hl:l.length≤1000) (hs:∀ x∈l,smallS x):Z8e 1001 l=some (!l.all fitsS):=by
  have key:∀ (d j n:Nat),j+d=l.length→d < n→∃ r,Z91 1001 Z90 l n (j:Int)=some r∧(decide (0≤r) = !(l.drop j).all fitsS):=by
    intro d
    induction d with
    | zero =>
      intro j n hj hn
      obtain ⟨n,rfl⟩:∃ m,n=m+1:=⟨n - 1,by omega⟩
      rw [Z91,if_neg (by omega),List.drop_of_length_le (by omega)]
      exact ⟨-1,rfl,rfl⟩
    | succ d ih =>
      intro j n hj hn
      obtain ⟨n,rfl⟩:∃ m,n=m+1:=⟨n - 1,by omega⟩
      have h1:j < l.length:=by omega
      rw [Z91,if_pos (by omega),getI_at rfl h1]
      simp only [Option.bind_some,sodd_eq _ (hs _ (List.getElem_mem h1))]
      rw [List.drop_eq_getElem_cons h1,List.all_cons]
      cases hk:fitsS l[j] with
      | false=>exact ⟨j,by simp,by simp⟩
      | true =>
        obtain ⟨r,h2,h3⟩:=ih (j+1) n (by omega) (by omega)
        rw [wsucc h1 (by omega)]
        exact ⟨r,by simpa using h2,by simpa using h3⟩
  obtain ⟨r,h1,h2⟩:=key l.length 0 1001 (by omega) (by omega)
  unfold Z8e Z8z
  rw [show (0:Int)=((0:Nat):Int) from rfl,h1]
  simpa using h2
theorem allfits_eq {l:List api_Stmt} (hl:l.length≤1000) (hs:∀ x∈l,smallS x) (k:Option Bool):∀ (d j n:Nat),j+d=l.length→d < n→Z47 1001 k l n (j:Int)=if (l.drop j).all fitsS=true then k else some false:=by
  intro d
  induction d with
  | zero =>
    intro j n hj hn
    obtain ⟨n,rfl⟩:∃ m,n=m+1:=⟨n - 1,by omega⟩
    rw [Z47,if_neg (by omega),List.drop_of_length_le (by omega)]
    rfl
  | succ d ih =>
    intro j n hj hn
    obtain ⟨n,rfl⟩:∃ m,n=m+1:=⟨n - 1,by omega⟩
    have h1:j < l.length:=by omega
    rw [Z47,if_pos (by omega),getI_at rfl h1]
    simp only [Option.bind_some,fits_eq _ (hs _ (List.getElem_mem h1))]
    rw [List.drop_eq_getElem_cons h1,List.all_cons]
    cases hk:fitsS l[j] with
    | false=>simp
    | true =>
      rw [if_pos rfl,wsucc h1 (by omega),ih (j+1) n (by omega) (by omega)]
      simp
end Go.MD.LB
