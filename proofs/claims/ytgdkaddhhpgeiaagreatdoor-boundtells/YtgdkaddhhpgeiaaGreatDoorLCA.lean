/- What it means that Check finds nothing. No condition: plain lemmas. -/
import Derived.Test.YtgdkaddhhpgeiaaGreatDoorLBZ
namespace Go.MD.LB
open Go Go.MD
structure OKP (p:api_Prog):Prop where
  pb:PB p
  big:N5 p=false
  wild:∀ t∈Cq p,Ha t=none
  dup:Ev (Dv p) []=none
  regs:∀ t∈Cq p,Gy (Fi p) t.Regs=false
  names:∀ t∈Cq p,∀ x∈t.Body,Kx p t.Regs x=none
  claims:∀ c∈p.Claims,∀ x∈c.E,Ff (A1 p) x=none
theorem Hh {c v:Int} (hc:c≠0) {o:Option Int} {k:Option (Int×Int)}:out c o k=some (0,v)↔o=none∧k=some (0,v):=by
  cases o with
  | none=>simp [out]
  | some a=>simp [out,hc]
theorem Mx {p:api_Prog} {v:Int}:Hq p=some (0,v)↔OKP p∧v=0:=by
  unfold Hq
  cases hq:Hl p with
  | false =>
    rw [if_neg (by decide)]
    refine ⟨fun h=>by simp at h,fun h=>?_⟩
    have:=Hz.2 h.1.pb
    rw [hq] at this;cases this
  | true =>
    rw [if_pos rfl]
    cases hb:N5 p with
    | true =>
      rw [if_pos rfl]
      refine ⟨fun h=>by simp at h,fun h=>?_⟩
      have:=h.1.big
      rw [hb] at this;cases this
    | false =>
      rw [if_neg (by decide),Hh (by decide),Hh (by decide),Hh (by decide),Hh (by decide),Hh (by decide)]
      simp only [List.findSome?_eq_none_iff]
      constructor
      · rintro ⟨h1, h2, h3, h4, h5, h6⟩
        refine ⟨⟨Hz.1 hq,hb,h1,h2,fun t ht=>?_,fun t ht x hx=>?_,fun c hc x hx=>?_⟩,?_⟩
        · have := h3 t ht
          unfold Jn at this
          split at this
          · cases this
          · rename_i z;simpa using z
        · exact H4 (h4 t ht) x hx
        · exact H4 (h5 c hc) x hx
        · simp only [Option.some.injEq,Prod.mk.injEq] at h6;exact h6.2.symm
      · rintro ⟨h, rfl⟩
        refine ⟨h.wild,h.dup,fun t ht=>?_,fun t ht=>?_,fun c hc=>?_,rfl⟩
        · unfold Jn;rw [if_neg (by rw [h.regs t ht];decide)]
        · exact List.findSome?_eq_none_iff.2 (h.names t ht)
        · exact List.findSome?_eq_none_iff.2 (h.claims c hc)
theorem OKP.fits {p:api_Prog} (h:OKP p) {t:api_Thread} (ht:t∈Cq p):∀ x∈t.Body,Cz x=true:=by
  obtain ⟨_,_,b,hb⟩:=Ex (h.pb.thread t ht)
  exact hb.fits
end Go.MD.LB
