/- Blocks that are handed in to be written. No condition: plain lemmas. -/
import Derived.Test.YtbblmeecfimnkaaGreatDoorLM
namespace Go.LM
open Go Go.LL Go.MD
theorem Jc4 {fn:Func} {t u v:Tmp} (h:fn.results=#[.tmp t,.tmp u,.tmp v]) (tmps:Array Value) (P:Program) (w:World) :
    (results fn tmps).run P w=.ok (.tuple #[tmps.getD t undef,tmps.getD u undef,tmps.getD v undef]) w:=by
  simp [results,h]
theorem Jdx {fn:Func} {t u v x:Tmp} (h:fn.results=#[.tmp t,.tmp u,.tmp v,.tmp x]) (tmps:Array Value) (P:Program) (w:World) :
    (results fn tmps).run P w=.ok (.tuple #[tmps.getD t undef,tmps.getD u undef,tmps.getD v undef,tmps.getD x undef]) w:=by
  simp [results,h]
section
variable {P:Program} {a:Act} {w:World}
theorem r3 {fn:Func} {t u s N:Nat} {F:List (Nat×Value)} {v x y:Value} {R:Value→World→Prop} (hF:Fr ⟨N,[],[]⟩ F a) (hr:fn.results=#[.tmp t,.tmp u,.tmp s]) (ht:F.lookup t=some v) (hu:F.lookup u=some x) (hs:F.lookup s=some y) (h:R (.tuple #[v,x,y]) w) :
    bodyPost P fn (fun e w'=>∃ v,e=.returned v∧R v w') .ret a w:=by
  refine bodyPost_ret (Jc4 hr _ _ _) hF.defers ⟨_,rfl,?_⟩
  have h1:=hF.slots t v ht
  have h2:=hF.slots u x hu
  have h3:=hF.slots s y hs
  simpa [h1,h2,h3] using h
theorem r4 {fn:Func} {t u s q N:Nat} {F:List (Nat×Value)} {v x y z:Value} {R:Value→World→Prop} (hF:Fr ⟨N,[],[]⟩ F a) (hr:fn.results=#[.tmp t,.tmp u,.tmp s,.tmp q]) (ht:F.lookup t=some v) (hu:F.lookup u=some x) (hs:F.lookup s=some y) (hq:F.lookup q=some z) (h:R (.tuple #[v,x,y,z]) w) :
    bodyPost P fn (fun e w'=>∃ v,e=.returned v∧R v w') .ret a w:=by
  refine bodyPost_ret (Jdx hr _ _ _) hF.defers ⟨_,rfl,?_⟩
  have h1:=hF.slots t v ht
  have h2:=hF.slots u x hu
  have h3:=hF.slots s y hs
  have h4:=hF.slots q z hq
  simpa [h1,h2,h3,h4] using h
end
section
variable {P:Program} {M:Nat→Prop} {H H':PH} {L L' K:List HA} {w w0 w':World}
theorem Gh (hH:H.le w) (hO:(sepA K).ok (hp w)) (hD:∀ b,(sepA K).fp b→H b=none):St w (sepA K).fp [H] K w:=
  .startL (fun x hx=>by simp only [List.mem_cons,List.not_mem_nil,or_false] at hx;subst hx;exact hH) hO (fun b hb x hx=>by simp only [List.mem_cons,List.not_mem_nil,or_false] at hx;subst hx;exact hD b hb)
theorem St.sep (K:List HA) (hS:St w0 M [H] (K ++ L) w):St w0 M [H] (sepA K :: L) w:=by
  obtain ⟨d1,d2,d3⟩:=List.pairwise_append.1 hS.disj
  refine ⟨hS.keep,hS.hs,fun A hA=>?_,fun A hA b hb=>?_,List.pairwise_cons.2 ⟨fun B hB b ⟨A,hA,hb⟩=>d3 A hA B hB b hb,d2⟩⟩
  · rcases List.mem_cons.1 hA with rfl | hA
    · exact Lt.2 ⟨fun A hA=>hS.ok A (List.mem_append_left _ hA),d1⟩
    · exact hS.ok A (List.mem_append_right _ hA)
  · rcases List.mem_cons.1 hA with rfl | hA
    · obtain ⟨B, hB, hb⟩ := hb
      exact hS.own B (List.mem_append_left _ hB) b hb
    · exact hS.own A (List.mem_append_right _ hA) b hb
theorem St.sepOk (hS:St w0 M [H] (sepA K :: L) w):(sepA K).ok (hp w):=hS.ok _ (.head _)
theorem St.sepDis (hS:St w0 M [H] (sepA K :: L) w):∀ b,(sepA K).fp b→H b=none:=fun b hb=>(hS.own _ (.head _) b hb).2 _ (.head _)
end
end Go.LM
namespace Go.LM
open Go Go.LL Go.MD
end Go.LM
namespace Go.LM
open Go Go.LL Go.MD
structure ExtM (w0:World) (M:Nat→Prop) (H H':PH):Prop where
  sub:∀ b o,H b=some o→H' b=some o
  new:∀ b,H' b≠none→H b≠none∨w0.heap.size≤b∨M b
section
variable {P:Program} {M:Nat→Prop} {H H' H'':PH} {L L' K:List HA} {w w0 w':World} {A A':HA}
theorem ExtM.refl (w0:World) (M:Nat→Prop) (H:PH):ExtM w0 M H H:=⟨fun _ _ h=>h,fun _ h=>.inl h⟩
theorem ExtM.trans (h:ExtM w0 M H H') (k:ExtM w0 M H' H''):ExtM w0 M H H'':=⟨fun b o hb=>k.sub b o (h.sub b o hb),fun b hb=>by
  rcases k.new b hb with h1 | h1
  · exact h.new b h1
  · exact .inr h1⟩
theorem St.extcMM (hS:St w0 M [H] (A :: L) w) (h:ExtM w A.fp H H'):ExtM w0 M H H':=⟨h.sub,fun b hb=>by
  rcases h.new b hb with h1 | h1 | h1
  · exact .inl h1
  · exact .inr (.inl (Nat.le_trans hS.keep.size h1))
  · exact .inr (hS.own A (.head _) b h1).1⟩
theorem St.frzM (hS:St w0 M [H] L w) {A:HA} (hp':Pick A L L'):∃ H':PH,A.ok H'∧ExtM w0 M H H'∧St w0 M [H'] L' w:=by
  classical
  have hA:=hp'.mem
  have hnone:∀ b,A.fp b→H b=none:=fun b hb=>(hS.own A hA b hb).2 H (.head _)
  refine ⟨fun b=>if A.fp b then w.heap[b]? else H b,?_,⟨fun b o hb=>?_,fun b hb=>?_⟩,?_⟩
  · exact A.loc _ _ (fun b hb=>by simp [hb,hp]) (hS.ok A hA)
  · have : ¬ A.fp b := fun h => by rw [hnone b h] at hb; cases hb
    simp [this,hb]
  · by_cases h : A.fp b
    · exact .inr (hS.own A hA b h).1
    · simp only [h, if_false] at hb
      exact .inl hb
  · have hd := (hp'.pairwise hS.disj)
    have h1:=hS.drop hp'
    refine ⟨h1.keep,fun h hh=>?_,h1.ok,fun B hB b hb=>⟨(h1.own B hB b hb).1,fun h hh=>?_⟩,h1.disj⟩
    · simp only [List.mem_cons, List.not_mem_nil, or_false] at hh; subst hh
      intro b o hb
      by_cases h:A.fp b
      · simpa [h] using hb
      · simp only [h, if_false] at hb
        exact hS.hs H (.head _) b o hb
    · simp only [List.mem_cons, List.not_mem_nil, or_false] at hh; subst hh
      have hn : ¬ A.fp b:=fun h=>hd.2 B hB b h hb
      simp only [hn,if_false]
      exact (h1.own B hB b hb).2 H (.head _)
theorem St.frzSM {α:Type} [Enc α] (hS:St w0 M [H] L w) {e:TypeId} {sz n cap:Nat} {oa:Option Addr} {vs:List Value} {xs:List α} (hp':Pick (sla e sz oa n cap vs) L L') (hv:Rows H vs xs) :
    ∃ H':PH,ExtM w0 M H H'∧SR H' oa xs∧n≤cap∧St w0 M [H'] L' w:=by
  obtain ⟨H',h1,h2,h3⟩:=St.frzM hS hp'
  exact ⟨H',h2,⟨vs,SlOk.rd h1,hv.mono h2.sub⟩,SlOk.capLe h1,h3⟩
theorem St.disL (hS:St w0 M [H] L w):∀ b,(sepA L).fp b→H b=none:=fun b ⟨A,hA,hb⟩=>(hS.own A hA b hb).2 _ (.head _)
theorem St.mutH (hS:St w0 M [H] (A :: L) w) (hm:Mut w A A' w') (he:ExtM w A.fp H H') (hl:H'.le w') (hd:∀ b,A'.fp b→H' b=none):St w0 M [H'] (A' :: L) w':=by
  have h1:=hS.mut hm .head
  have hdj:=(List.pairwise_cons.1 hS.disj).1
  refine ⟨h1.keep,fun h hh=>by simp only [List.mem_cons,List.not_mem_nil,or_false] at hh;subst hh;exact hl,h1.ok,fun B hB b hb=>⟨(h1.own B hB b hb).1,fun h hh=>?_⟩,h1.disj⟩
  simp only [List.mem_cons,List.not_mem_nil,or_false] at hh;subst hh
  rcases List.mem_cons.1 hB with rfl | hB
  · exact hd b hb
  · cases hx : h b with
    | none=>rfl
    | some o =>
      rcases he.new b (by rw [hx];simp) with h2 | h2 | h2
      · exact absurd ((hS.own B (.tail _ hB) b hb).2 H (.head _)) h2
      · have:=hS.fpLt (.tail _ hB) hb;omega
      · exact absurd hb (hdj B hB b h2)
end
end Go.LM
namespace Go.LM
open Go Go.LL Go.MD
theorem St.extc0 {H H':PH} {L:List HA} {w w0:World} {A:HA} (hS:St w0 Nil [H] (A :: L) w) (h:ExtM w A.fp H H'):Ext w0 H H':=⟨h.sub,fun b hb=>by
  rcases h.new b hb with h1 | h1 | h1
  · exact .inl h1
  · exact .inr (Nat.le_trans hS.keep.size h1)
  · exact .inr (((hS.own A (.head _) b h1).1).resolve_right id)⟩
end Go.LM
