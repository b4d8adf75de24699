/- What is cut; joins of statements. No condition: plain lemmas. -/
import Derived.Test.YtgdkaddhhpgeiaaGreatDoorLBL
import Derived.Test.YtgdkaddhhpgeiaaGreatDoorLBF
namespace Go.MD.LB
open Go Go.MD
theorem Sj (p:List api_Node):∀ (d j n:Nat) (out:List api_Node),j+d=60→d < n→out.length≤j→
    ∃ r,Zi 1001 Zh p n out (j:Int)=some r∧r.length≤60:=by
  intro d
  induction d with
  | zero =>
    intro j n out hj hn ho
    obtain ⟨n,rfl⟩:∃ m,n=m+1:=⟨n - 1,by omega⟩
    rw [Zi,if_neg (by simp;omega)]
    exact ⟨out,rfl,by omega⟩
  | succ d ih =>
    intro j n out hj hn ho
    obtain ⟨n,rfl⟩:∃ m,n=m+1:=⟨n - 1,by omega⟩
    by_cases h1:j < p.length
    · rw [Zi, if_pos (by simp; omega), As rfl h1]
      simp only [Option.bind_some]
      rw [Fl (by omega) (by omega) (by omega)]
      simp only [Option.bind_some]
      rw [Cg (by simp;omega) (by decide)]
      simp only [Option.bind_some]
      rw [Bf (n:=60) (by omega) (by decide)]
      exact ih (j+1) n _ (by omega) (by omega) (by simp;omega)
    · rw [Zi, if_neg (by simp; omega)]
      exact ⟨out,rfl,by omega⟩
theorem Jao (p:List api_Node):∃ r,Zg 1001 p=some r∧r.length≤60:=Sj p 60 0 1001 [] (by decide) (by decide) (Nat.le_refl _)
theorem Sx (p:List api_Stmt):∀ (d j n:Nat) (out:List api_Stmt),j+d=50→d < n→out.length≤j→(∀ x∈out,Dn x)→
    ∃ r,Zl 1001 Zk p n out (j:Int)=some r∧r.length≤50∧∀ x∈r,Dn x:=by
  intro d
  induction d with
  | zero =>
    intro j n out hj hn ho hs
    obtain ⟨n,rfl⟩:∃ m,n=m+1:=⟨n - 1,by omega⟩
    rw [Zl,if_neg (by simp;omega)]
    exact ⟨out,rfl,by omega,hs⟩
  | succ d ih =>
    intro j n out hj hn ho hs
    obtain ⟨n,rfl⟩:∃ m,n=m+1:=⟨n - 1,by omega⟩
    by_cases h1:j < p.length
    · rw [Zl, if_pos (by simp; omega), As rfl h1]
      simp only [Option.bind_some]
      rw [Fl (by omega) (by omega) (by omega)]
      simp only [Option.bind_some]
      rw [Fl (by omega) (by omega) (by omega)]
      simp only [Option.bind_some]
      obtain ⟨e,he,hel⟩:=Jao p[j].E
      obtain ⟨g,hg,hgl⟩:=Jao p[j].F
      rw [he,hg]
      simp only [Option.bind_some]
      rw [Cg (by simp;omega) (by decide)]
      simp only [Option.bind_some]
      rw [Bf (n:=50) (by omega) (by decide)]
      refine ih (j+1) n _ (by omega) (by omega) (by simp;omega) ?_
      intro x hx
      rcases List.mem_append.1 hx with hx | hx
      · exact hs x hx
      · simp only [List.mem_cons, List.not_mem_nil, or_false] at hx
        subst hx;exact ⟨hel,hgl⟩
    · rw [Zl, if_neg (by simp; omega)]
      exact ⟨out,rfl,by omega,hs⟩
theorem JbZ (p:List api_Stmt):∃ r,Zj 1001 p=some r∧r.length≤50∧∀ x∈r,Dn x:=Sx p 50 0 1001 [] (by decide) (by decide) (Nat.le_refl _) (fun x hx=>nomatch hx)
def B.app:B→B→B
  | .nil,c=>c
  | .cons x a b r,c=>.cons x a b (r.app c)
theorem B.app_flat:∀ b c:B,(b.app c).flat=b.flat ++ c.flat
  | .nil,c=>rfl
  | .cons x a b r,c=>by simp [B.app,B.flat,r.app_flat c]
theorem B.app_good {p:Nat} {c:B} (hc:c.good p):∀ b:B,b.good p→(b.app c).good p
  | .nil,_=>hc
  | .cons _ _ _ r,⟨h1,h2,h3,h4,h5,h6,h7,h8⟩=>⟨h1,h2,h3,h4,h5,h6,h7,B.app_good hc r h8⟩
end Go.MD.LB
