/- What it means that Check finds nothing. No condition: plain lemmas. -/
import Derived.Test.YtgdkaddhhpgeiaaGreatDoorLBZ
namespace Go.MD.LB
open Go Go.MD
structure OKP (p:api_Prog):Prop where
  pb:PB p
  big:bigB p=false
  wild:∀ t∈allT p,wildT t=none
  dup:dupL (namesL p) []=none
  regs:∀ t∈allT p,dupR (keysP p) t.Regs=false
  names:∀ t∈allT p,∀ x∈t.Body,badS p t.Regs x=none
  claims:∀ c∈p.Claims,∀ x∈c.E,varB (A1 p) x=none
theorem out_zero {c v:Int} (hc:c≠0) {o:Option Int} {k:Option (Int×Int)}:out c o k=some (0,v)↔o=none∧k=some (0,v):=by
  cases o with
  | none=>simp [out]
  | some a=>simp [out,hc]
theorem checkS_ok {p:api_Prog} {v:Int}:checkS p=some (0,v)↔OKP p∧v=0:=by
  unfold checkS
  cases hq:progB p with
  | false =>
    rw [if_neg (by decide)]
    refine ⟨fun h=>by simp at h,fun h=>?_⟩
    have:=progB_iff.2 h.1.pb
    rw [hq] at this;cases this
  | true =>
    rw [if_pos rfl]
    cases hb:bigB p with
    | true =>
      rw [if_pos rfl]
      refine ⟨fun h=>by simp at h,fun h=>?_⟩
      have:=h.1.big
      rw [hb] at this;cases this
    | false =>
      rw [if_neg (by decide),out_zero (by decide),out_zero (by decide),out_zero (by decide),out_zero (by decide),out_zero (by decide)]
      simp only [List.findSome?_eq_none_iff]
      constructor
      · rintro ⟨h1, h2, h3, h4, h5, h6⟩
        refine ⟨⟨progB_iff.1 hq,hb,h1,h2,fun t ht=>?_,fun t ht x hx=>?_,fun c hc x hx=>?_⟩,?_⟩
        · have := h3 t ht
          unfold regT at this
          split at this
          · cases this
          · rename_i z;simpa using z
        · exact find_none (h4 t ht) x hx
        · exact find_none (h5 c hc) x hx
        · simp only [Option.some.injEq,Prod.mk.injEq] at h6;exact h6.2.symm
      · rintro ⟨h, rfl⟩
        refine ⟨h.wild,h.dup,fun t ht=>?_,fun t ht=>?_,fun c hc=>?_,rfl⟩
        · unfold regT;rw [if_neg (by rw [h.regs t ht];decide)]
        · exact List.findSome?_eq_none_iff.2 (h.names t ht)
        · exact List.findSome?_eq_none_iff.2 (h.claims c hc)
theorem OKP.apt {p:api_Prog} (h:OKP p) {t:api_Thread} (ht:t∈allT p):Apt p t.Regs:=apt_of h.dup (h.regs t ht)
theorem OKP.fits {p:api_Prog} (h:OKP p) {t:api_Thread} (ht:t∈allT p):∀ x∈t.Body,fitsS x=true:=by
  obtain ⟨_,_,b,hb⟩:=threadB_iff (h.pb.thread t ht)
  exact hb.fits
theorem namesL_fst (p:api_Prog):(namesL p).map (·.1)=(A1 p ++ A2 p) ++ (K1 p ++ p.Threads.map (·.Name)):=by
  rw [← flat_names];simp [namesL,K1,Function.comp_def]
theorem OKP.nodup {p:api_Prog} (h:OKP p):((A1 p ++ A2 p) ++ (K1 p ++ p.Threads.map (·.Name))).Nodup:=by
  rw [← namesL_fst];exact dupL_nodup _ _ h.dup
theorem badS_none {p:api_Prog} {G:List Str} (ha:Apt p G) {x:api_Stmt} (hx:fitsS x=true):badS p G x=none↔(x.Reg=[]∨x.Reg∈G)∧(x.Name=[]∨what p G x.Name∈mayK x.Kind)∧(∀ y∈x.E,varB G y=none)∧∀ y∈x.F,varB G y=none:=by
  rw [badS_eq ha,Option.or_eq_none_iff,Option.or_eq_none_iff,Option.or_eq_none_iff]
  have e1:regB G x=none↔(x.Reg=[]∨x.Reg∈G):=by
    unfold regB
    by_cases h:x.Reg=[]
    · simp [h]
    · by_cases h2:x.Reg∈G <;> simp [h,h2]
  have e2:nameB p G x=none↔(x.Name=[]∨what p G x.Name∈mayK x.Kind):=by
    unfold nameB
    by_cases h:x.Name=[]
    · simp [h]
    · by_cases h2:what p G x.Name∈mayK x.Kind <;> simp [h,h2]
  rw [e1,e2,List.findSome?_eq_none_iff,List.findSome?_eq_none_iff]
theorem use_kind {p:api_Prog} {G:List Str} (ha:Apt p G) {x:api_Stmt} (hx:fitsS x=true) (h:badS p G x=none) :
    ((x.Kind=2∨x.Kind=3∨x.Kind=4)→x.Name∈A1 p ++ A2 p)∧((x.Kind=5∨x.Kind=6)→x.Name∈A1 p)∧((x.Kind=9∨x.Kind=10)→x.Name∈K1 p):=by
  have h2:=((badS_none ha hx).1 h).2.1
  have hn:=fits_name hx
  refine ⟨fun hk=>?_,fun hk=>?_,fun hk=>?_⟩
  · have hne : x.Name ≠ [] := fun q => (hn.1 q) (by omega)
    have h3:=h2.resolve_left hne
    rw [mayK,if_neg (by omega),if_neg (by omega)] at h3
    exact what12.1 (by simpa using h3)
  · have hne : x.Name ≠ [] := fun q => (hn.1 q) (by omega)
    have h3:=h2.resolve_left hne
    rw [mayK,if_pos (by omega)] at h3
    exact what1.1 (by simpa using h3)
  · have hne : x.Name ≠ [] := fun q => (hn.1 q) (by omega)
    have h3:=h2.resolve_left hne
    rw [mayK,if_neg (by omega),if_pos (by omega)] at h3
    exact (what3 ha).1 (by simpa using h3)
end Go.MD.LB
