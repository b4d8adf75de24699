/- What it means that Check finds nothing. No condition: plain lemmas. -/
import Derived.Test.YtgdkaddhhpgeiaaGreatDoorLBZ
namespace Go.MD.LB
open Go Go.MD
structure OKP (p:api_Prog):Prop where
  pb:PB p
  big:bigB p=false
  wild:∀ t∈allT p,wildT t=none
  dup:dupL (namesL p) []=none
  regs:∀ t∈allT p,dupR (keysP p) t.Regs=false
  names:∀ t∈allT p,∀ x∈t.Body,badS p t.Regs x=none
  claims:∀ c∈p.Claims,∀ x∈c.E,varB (A1 p) x=none
theorem out_zero {c v:Int} (hc:c≠0) {o:Option Int} {k:Option (Int×Int)}:out c o k=some (0,v)↔o=none∧k=some (0,v):=by
  cases o with
  | none=>simp [out]
  | some a=>simp [out,hc]
theorem checkS_ok {p:api_Prog} {v:Int}:checkS p=some (0,v)↔OKP p∧v=0:=by
  unfold checkS
  cases hq:progB p with
  | false =>
    rw [if_neg (by decide)]
    refine ⟨fun h=>by simp at h,fun h=>?_⟩
    have:=progB_iff.2 h.1.pb
    rw [hq] at this;cases this
  | true =>
    rw [if_pos rfl]
    cases hb:bigB p with
    | true =>
      rw [if_pos rfl]
      refine ⟨fun h=>by simp at h,fun h=>?_⟩
      have:=h.1.big
      rw [hb] at this;cases this
    | false =>
      rw [if_neg (by decide),out_zero (by decide),out_zero (by decide),out_zero (by decide),out_zero (by decide),out_zero (by decide)]
      simp only [List.findSome?_eq_none_iff]
      constructor
      · rintro ⟨h1, h2, h3, h4, h5, h6⟩
        refine ⟨⟨progB_iff.1 hq,hb,h1,h2,fun t ht=>?_,fun t ht x hx=>?_,fun c hc x hx=>?_⟩,?_⟩
        · have := h3 t ht
          unfold regT at this
          split at this
          · cases this
          · rename_i z;simpa using z
        · exact find_none (h4 t ht) x hx
        · exact find_none (h5 c hc) x hx
        · simp only [Option.some.injEq,Prod.mk.injEq] at h6;exact h6.2.symm
      · rintro ⟨h, rfl⟩
        refine ⟨h.wild,h.dup,fun t ht=>?_,fun t ht=>?_,fun c hc=>?_,rfl⟩
        · unfold regT;rw [if_neg (by rw [h.regs t ht];decide)]
        · exact List.findSome?_eq_none_iff.2 (h.names t ht)
        · exact List.findSome?_eq_none_iff.2 (h.claims c hc)
theorem OKP.fits {p:api_Prog} (h:OKP p) {t:api_Thread} (ht:t∈allT p):∀ x∈t.Body,fitsS x=true:=by
  obtain ⟨_,_,b,hb⟩:=threadB_iff (h.pb.thread t ht)
  exact hb.fits
end Go.MD.LB
