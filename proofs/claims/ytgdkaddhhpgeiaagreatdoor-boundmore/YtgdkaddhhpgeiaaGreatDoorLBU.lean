/- Cells, lines, locks. No condition: plain lemmas. -/
import Derived.Test.YtgdkaddhhpgeiaaGreatDoorLBS
namespace Go.MD.LB
open Go Go.MD
def flatC (p:api_Prog):List api_Cell:=p.Lines.flatten ++ p.Vols
theorem lineC_fst:∀ (l:List (List api_Cell)) (i:Nat),(lineC l i).map (·.1)=l.flatten
  | [],_=>rfl
  | l :: r,i=>by simp [lineC,lineC_fst r (i+1),Function.comp_def]
theorem volC_fst:∀ (l:List api_Cell) (i:Nat),(volC l i).map (·.1)=l
  | [],_=>rfl
  | c :: r,i=>by simp [volC,volC_fst r (i+1)]
theorem allC_fst (p:api_Prog):(allC p).map (·.1)=flatC p:=by simp [allC,flatC,lineC_fst,volC_fst]
theorem flat_le:∀ (l:List (List api_Cell)),(∀ x∈l,x.length≤8)→l.flatten.length≤8 * l.length
  | [],_=>Nat.zero_le _
  | x :: r, h => by
    have:=flat_le r (fun y hy=>h y (.tail _ hy))
    have:=h x (.head _)
    simp only [List.flatten_cons,List.length_append,List.length_cons]
    omega
theorem flatC_le {p:api_Prog} (hp:SmallP p):(flatC p).length≤56:=by
  have h1:=flat_le p.Lines hp.line
  have h2:=hp.lines
  have h3:=hp.vols
  simp only [flatC,List.length_append]
  omega
end Go.MD.LB
