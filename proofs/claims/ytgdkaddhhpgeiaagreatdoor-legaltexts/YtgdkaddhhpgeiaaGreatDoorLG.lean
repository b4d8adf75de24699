/- slices.Grow of nil, in the terms of the walk. Condition: the library's text at this dump ('Lays8.n4'). -/
import Derived.Test.YtgdkaddhhpgeiaaGreatDoorLQ
import Derived.Shelf.Spec.SlicesGrow
namespace Go.LM
open Go Go.LL Go.MD Go.Proofs Go.Shelf
theorem Jav {P:Program} {ρ:Ren} (Ly:Lays8.n4 P ρ) {z:Value} {sz bytes:Nat} {e:TypeId} {f:Nat} (he:ρ.t 25=e) (hf:ρ.f 4=f) (hinfo:(P.info? e).map (fun i=>(i.zero,i.size,i.bytes))=some (some z,sz,bytes)) (hzs:z.cells.size=sz) (hsz:0 < sz) {n:Int} {u:Unit} {w:World} (hg:Pb bytes n=some u) :
    Tot P f #[.slice none 0 0,.int .i64 n] w fun v w'=>∃ oa cap,v=.slice oa 0 cap∧Fresh w (sla e sz oa 0 cap []) w':=by
  subst he;subst hf
  obtain ⟨i,hi,hzz⟩:=Option.map_eq_some_iff.1 hinfo
  simp only [Prod.mk.injEq] at hzz
  obtain ⟨hz,rfl,rfl⟩:=hzz
  obtain ⟨h0,h1,h2⟩:0≤n∧n.toNat * i.bytes≤140737488355328∧n≤4611686018427387904:=by
    unfold Pb at hg
    split at hg
    · assumption
    · cases hg
  obtain ⟨k,rfl⟩:∃ k:Nat,n=(k:Int):=⟨n.toNat,by omega⟩
  simp only [Int.toNat_natCast] at h1
  by_cases hk:k=0
  · subst hk
    refine (Any8.slices_Grow_room Ly none 0 0 0 w (Nat.le_refl _) (by omega) (by omega) (by omega)).mono ?_
    rintro e' w' ⟨rfl,rfl⟩
    exact ⟨_,rfl,none,0,rfl,.refl _ _,⟨by simp,.inl ⟨rfl,rfl⟩⟩,fun b hb=>by simp [sl,Ci] at hb⟩
  · refine (Any8.slices_Grow_grow Ly i z hi hz hsz none 0 0 k [] w (Nat.le_refl _) (by omega) (by simpa using h1) (by omega) (by simp) (fun _ => rfl) (fun _ h => by cases h)).mono ?_
    rintro e' w' ⟨rfl,rfl⟩
    refine ⟨_,rfl,_,_,rfl,(Keep.drew _ w).trans (Keep.alloc Nil w.drew _ (Dk _ _)) (fun _ _ h=>h.elim),?_,fun b hb=>?_⟩
    · refine ⟨by simp, .inr ⟨w.heap.size, _, _, rfl, Dq w.drew _, Nat.zero_le _, grownCap_le_maxLen w _ _ _ (by unfold maxLen; omega), ?_, by simp⟩⟩
      have:=grownCap_ge w (0+k) 0 (ρ.t 25)
      simp only [Array.size_append,List.size_toArray,List.length_nil,size_zeroCells,hzs]
      rw [Nat.zero_add,← Nat.add_mul]
      congr 1
      omega
    · simp [sl,Ci] at hb;omega
end Go.LM
