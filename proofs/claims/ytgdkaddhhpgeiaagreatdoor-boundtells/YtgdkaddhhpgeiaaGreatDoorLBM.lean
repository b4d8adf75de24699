/- What is cut; joins of statements. No condition: plain lemmas. -/
import Derived.Test.YtgdkaddhhpgeiaaGreatDoorLBL
import Derived.Test.YtgdkaddhhpgeiaaGreatDoorLBF
namespace Go.MD.LB
open Go Go.MD
theorem Uj (p:List api_Node):∀ (d j n:Nat) (out:List api_Node),j+d=60→d < n→out.length≤j→
    ∃ r,Z13 1001 Z12 p n out (j:Int)=some r∧r.length≤60:=by
  intro d
  induction d with
  | zero =>
    intro j n out hj hn ho
    obtain ⟨n,rfl⟩:∃ m,n=m+1:=⟨n - 1,by omega⟩
    rw [Z13,if_neg (by simp;omega)]
    exact ⟨out,rfl,by omega⟩
  | succ d ih =>
    intro j n out hj hn ho
    obtain ⟨n,rfl⟩:∃ m,n=m+1:=⟨n - 1,by omega⟩
    by_cases h1:j < p.length
    · rw [Z13, if_pos (by simp; omega), As rfl h1]
      simp only [Option.bind_some]
      rw [Fu (by omega) (by omega) (by omega)]
      simp only [Option.bind_some]
      rw [Cg (by simp;omega) (by decide)]
      simp only [Option.bind_some]
      rw [Be (n:=60) (by omega) (by decide)]
      exact ih (j+1) n _ (by omega) (by omega) (by simp;omega)
    · rw [Z13, if_neg (by simp; omega)]
      exact ⟨out,rfl,by omega⟩
theorem JaB (p:List api_Node):∃ r,Z11 1001 p=some r∧r.length≤60:=Uj p 60 0 1001 [] (by decide) (by decide) (Nat.le_refl _)
theorem Ui (p:List api_Stmt):∀ (d j n:Nat) (out:List api_Stmt),j+d=50→d < n→out.length≤j→(∀ x∈out,Do x)→
    ∃ r,Z16 1001 Z15 p n out (j:Int)=some r∧r.length≤50∧∀ x∈r,Do x:=by
  intro d
  induction d with
  | zero =>
    intro j n out hj hn ho hs
    obtain ⟨n,rfl⟩:∃ m,n=m+1:=⟨n - 1,by omega⟩
    rw [Z16,if_neg (by simp;omega)]
    exact ⟨out,rfl,by omega,hs⟩
  | succ d ih =>
    intro j n out hj hn ho hs
    obtain ⟨n,rfl⟩:∃ m,n=m+1:=⟨n - 1,by omega⟩
    by_cases h1:j < p.length
    · rw [Z16, if_pos (by simp; omega), As rfl h1]
      simp only [Option.bind_some]
      rw [Fu (by omega) (by omega) (by omega)]
      simp only [Option.bind_some]
      rw [Fu (by omega) (by omega) (by omega)]
      simp only [Option.bind_some]
      obtain ⟨e,he,hel⟩:=JaB p[j].E
      obtain ⟨g,hg,hgl⟩:=JaB p[j].F
      rw [he,hg]
      simp only [Option.bind_some]
      rw [Cg (by simp;omega) (by decide)]
      simp only [Option.bind_some]
      rw [Be (n:=50) (by omega) (by decide)]
      refine ih (j+1) n _ (by omega) (by omega) (by simp;omega) ?_
      intro x hx
      rcases List.mem_append.1 hx with hx | hx
      · exact hs x hx
      · simp only [List.mem_cons, List.not_mem_nil, or_false] at hx
        subst hx;exact ⟨hel,hgl⟩
    · rw [Z16, if_neg (by simp; omega)]
      exact ⟨out,rfl,by omega,hs⟩
theorem JcK (p:List api_Stmt):∃ r,Z14 1001 p=some r∧r.length≤50∧∀ x∈r,Do x:=Ui p 50 0 1001 [] (by decide) (by decide) (Nat.le_refl _) (fun x hx=>nomatch hx)
theorem Jcz:((Z1r 1001).bind fun r=>some r)=some true:=by rw [Jae];rfl
def B.app:B→B→B
  | .nil,c=>c
  | .cons x a b r,c=>.cons x a b (r.app c)
theorem B.app_flat:∀ b c:B,(b.app c).flat=b.flat ++ c.flat
  | .nil,c=>rfl
  | .cons x a b r,c=>by simp [B.app,B.flat,r.app_flat c]
theorem B.app_good {p:Nat} {c:B} (hc:c.good p):∀ b:B,b.good p→(b.app c).good p
  | .nil,_=>hc
  | .cons _ _ _ r,⟨h1,h2,h3,h4,h5,h6,h7,h8⟩=>⟨h1,h2,h3,h4,h5,h6,h7,B.app_good hc r h8⟩
end Go.MD.LB
