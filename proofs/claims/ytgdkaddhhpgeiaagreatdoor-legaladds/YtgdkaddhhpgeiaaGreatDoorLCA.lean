/- What it means that Check finds nothing. No condition: plain lemmas. -/
import Derived.Test.YtgdkaddhhpgeiaaGreatDoorLBZ
namespace Go.MD.LB
open Go Go.MD
structure OKP (p:api_Prog):Prop where
  pb:PB p
  big:Lo p=false
  wild:∀ t∈Cx p,Ia t=none
  dup:Ef (Dx p) []=none
  regs:∀ t∈Cx p,Fw (Fu p) t.Regs=false
  names:∀ t∈Cx p,∀ x∈t.Body,Pq p t.Regs x=none
  claims:∀ c∈p.Claims,∀ x∈c.E,Jq (A1 p) x=none
theorem Gr {c v:Int} (hc:c≠0) {o:Option Int} {k:Option (Int×Int)}:out c o k=some (0,v)↔o=none∧k=some (0,v):=by
  cases o with
  | none=>simp [out]
  | some a=>simp [out,hc]
theorem It {p:api_Prog} {v:Int}:Gg p=some (0,v)↔OKP p∧v=0:=by
  unfold Gg
  cases hq:Jg p with
  | false =>
    rw [if_neg (by decide)]
    refine ⟨fun h=>by simp at h,fun h=>?_⟩
    have:=Hc.2 h.1.pb
    rw [hq] at this;cases this
  | true =>
    rw [if_pos rfl]
    cases hb:Lo p with
    | true =>
      rw [if_pos rfl]
      refine ⟨fun h=>by simp at h,fun h=>?_⟩
      have:=h.1.big
      rw [hb] at this;cases this
    | false =>
      rw [if_neg (by decide),Gr (by decide),Gr (by decide),Gr (by decide),Gr (by decide),Gr (by decide)]
      simp only [List.findSome?_eq_none_iff]
      constructor
      · rintro ⟨h1, h2, h3, h4, h5, h6⟩
        refine ⟨⟨Hc.1 hq,hb,h1,h2,fun t ht=>?_,fun t ht x hx=>?_,fun c hc x hx=>?_⟩,?_⟩
        · have := h3 t ht
          unfold N8 at this
          split at this
          · cases this
          · rename_i z;simpa using z
        · exact Je (h4 t ht) x hx
        · exact Je (h5 c hc) x hx
        · simp only [Option.some.injEq,Prod.mk.injEq] at h6;exact h6.2.symm
      · rintro ⟨h, rfl⟩
        refine ⟨h.wild,h.dup,fun t ht=>?_,fun t ht=>?_,fun c hc=>?_,rfl⟩
        · unfold N8;rw [if_neg (by rw [h.regs t ht];decide)]
        · exact List.findSome?_eq_none_iff.2 (h.names t ht)
        · exact List.findSome?_eq_none_iff.2 (h.claims c hc)
theorem OKP.apt {p:api_Prog} (h:OKP p) {t:api_Thread} (ht:t∈Cx p):Apt p t.Regs:=Ub h.dup (h.regs t ht)
theorem OKP.fits {p:api_Prog} (h:OKP p) {t:api_Thread} (ht:t∈Cx p):∀ x∈t.Body,Dl x=true:=by
  obtain ⟨_,_,b,hb⟩:=Jm (h.pb.thread t ht)
  exact hb.fits
theorem Kv (p:api_Prog):(Dx p).map (·.1)=(A1 p ++ A2 p) ++ (K1 p ++ p.Threads.map (·.Name)):=by
  rw [← Dc];simp [Dx,K1,Function.comp_def]
theorem OKP.nodup {p:api_Prog} (h:OKP p):((A1 p ++ A2 p) ++ (K1 p ++ p.Threads.map (·.Name))).Nodup:=by
  rw [← Kv];exact La _ _ h.dup
theorem Mc {p:api_Prog} {G:List Str} (ha:Apt p G) {x:api_Stmt} (hx:Dl x=true):Pq p G x=none↔(x.Reg=[]∨x.Reg∈G)∧(x.Name=[]∨Gj p G x.Name∈Hy x.Kind)∧(∀ y∈x.E,Jq G y=none)∧∀ y∈x.F,Jq G y=none:=by
  rw [Wu ha,Option.or_eq_none_iff,Option.or_eq_none_iff,Option.or_eq_none_iff]
  have e1:Wx G x=none↔(x.Reg=[]∨x.Reg∈G):=by
    unfold Wx
    by_cases h:x.Reg=[]
    · simp [h]
    · by_cases h2:x.Reg∈G <;> simp [h,h2]
  have e2:Rs p G x=none↔(x.Name=[]∨Gj p G x.Name∈Hy x.Kind):=by
    unfold Rs
    by_cases h:x.Name=[]
    · simp [h]
    · by_cases h2:Gj p G x.Name∈Hy x.Kind <;> simp [h,h2]
  rw [e1,e2,List.findSome?_eq_none_iff,List.findSome?_eq_none_iff]
end Go.MD.LB
