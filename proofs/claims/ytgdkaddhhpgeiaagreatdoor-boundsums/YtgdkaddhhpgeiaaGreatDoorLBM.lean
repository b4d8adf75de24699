/- What is cut; joins of statements. No condition: plain lemmas. -/
import Derived.Test.YtgdkaddhhpgeiaaGreatDoorLBL
import Derived.Test.YtgdkaddhhpgeiaaGreatDoorLBF
namespace Go.MD.LB
open Go Go.MD
theorem CutN_loop (p:List api_Node):∀ (d j n:Nat) (out:List api_Node),j+d=60→d < n→out.length≤j→
    ∃ r,Z13 1001 Z12 p n out (j:Int)=some r∧r.length≤60:=by
  intro d
  induction d with
  | zero =>
    intro j n out hj hn ho
    obtain ⟨n,rfl⟩:∃ m,n=m+1:=⟨n - 1,by omega⟩
    rw [Z13,if_neg (by simp;omega)]
    exact ⟨out,rfl,by omega⟩
  | succ d ih =>
    intro j n out hj hn ho
    obtain ⟨n,rfl⟩:∃ m,n=m+1:=⟨n - 1,by omega⟩
    by_cases h1:j < p.length
    · rw [Z13, if_pos (by simp; omega), getI_at rfl h1]
      simp only [Option.bind_some]
      rw [subI_ok (by omega) (by omega) (by omega)]
      simp only [Option.bind_some]
      rw [appG_ok (by simp;omega) (by decide)]
      simp only [Option.bind_some]
      rw [wsucc (n:=60) (by omega) (by decide)]
      exact ih (j+1) n _ (by omega) (by omega) (by simp;omega)
    · rw [Z13, if_neg (by simp; omega)]
      exact ⟨out,rfl,by omega⟩
theorem CutN (p:List api_Node):∃ r,Z11 1001 p=some r∧r.length≤60:=CutN_loop p 60 0 1001 [] (by decide) (by decide) (Nat.le_refl _)
theorem CutS_loop (p:List api_Stmt):∀ (d j n:Nat) (out:List api_Stmt),j+d=50→d < n→out.length≤j→(∀ x∈out,smallS x)→
    ∃ r,Z16 1001 Z15 p n out (j:Int)=some r∧r.length≤50∧∀ x∈r,smallS x:=by
  intro d
  induction d with
  | zero =>
    intro j n out hj hn ho hs
    obtain ⟨n,rfl⟩:∃ m,n=m+1:=⟨n - 1,by omega⟩
    rw [Z16,if_neg (by simp;omega)]
    exact ⟨out,rfl,by omega,hs⟩
  | succ d ih =>
    intro j n out hj hn ho hs
    obtain ⟨n,rfl⟩:∃ m,n=m+1:=⟨n - 1,by omega⟩
    by_cases h1:j < p.length
    · rw [Z16, if_pos (by simp; omega), getI_at rfl h1]
      simp only [Option.bind_some]
      rw [subI_ok (by omega) (by omega) (by omega)]
      simp only [Option.bind_some]
      rw [subI_ok (by omega) (by omega) (by omega)]
      simp only [Option.bind_some]
      obtain ⟨e,he,hel⟩:=CutN p[j].E
      obtain ⟨g,hg,hgl⟩:=CutN p[j].F
      rw [he,hg]
      simp only [Option.bind_some]
      rw [appG_ok (by simp;omega) (by decide)]
      simp only [Option.bind_some]
      rw [wsucc (n:=50) (by omega) (by decide)]
      refine ih (j+1) n _ (by omega) (by omega) (by simp;omega) ?_
      intro x hx
      rcases List.mem_append.1 hx with hx | hx
      · exact hs x hx
      · simp only [List.mem_cons, List.not_mem_nil, or_false] at hx
        subst hx;exact ⟨hel,hgl⟩
    · rw [Z16, if_neg (by simp; omega)]
      exact ⟨out,rfl,by omega,hs⟩
theorem CutS (p:List api_Stmt):∃ r,Z14 1001 p=some r∧r.length≤50∧∀ x∈r,smallS x:=CutS_loop p 50 0 1001 [] (by decide) (by decide) (Nat.le_refl _) (fun x hx=>nomatch hx)
theorem fix_b:((Z1a 1001).bind fun r=>some r)=some true:=by rw [fixed07];rfl
theorem Steps_spec {l:List api_Stmt} (hl:l.length≤1000) (hs:∀ x∈l,smallS x):(∃ t,RB l t∧Z8 1001 l=some (t.steps:Int))∨((¬ ∃ t,RB l t)∧Z8 1001 l=some (-1)):=by
  obtain ⟨b,h1,h2,h3⟩:=SRight hl hs
  unfold Z8
  rw [h1]
  simp only [Option.bind_some]
  cases b with
  | false=>exact .inr ⟨fun h=>(by cases h3.2 h),rfl⟩
  | true =>
    obtain ⟨t,ht⟩:=h3.1 rfl
    refine .inl ⟨t,ht,?_⟩
    rw [if_pos rfl,ht.flat,steps_eq 1001 t ht.ok (by have:=ht.ok.size;omega)]
    rfl
def B.app:B→B→B
  | .nil,c=>c
  | .cons x a b r,c=>.cons x a b (r.app c)
end Go.MD.LB
