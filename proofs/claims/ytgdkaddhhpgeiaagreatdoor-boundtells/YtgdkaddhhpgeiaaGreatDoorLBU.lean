/- Cells, lines, locks. No condition: plain lemmas. -/
import Derived.Test.YtgdkaddhhpgeiaaGreatDoorLBS
namespace Go.MD.LB
open Go Go.MD
def Ce (p:api_Prog):List api_Cell:=p.Lines.flatten ++ p.Vols
theorem Mz:∀ (l:List (List api_Cell)) (i:Nat),(Jy l i).map (·.1)=l.flatten
  | [],_=>rfl
  | l :: r,i=>by simp [Jy,Mz r (i+1),Function.comp_def]
theorem Ou:∀ (l:List api_Cell) (i:Nat),(Pz l i).map (·.1)=l
  | [],_=>rfl
  | c :: r,i=>by simp [Pz,Ou r (i+1)]
theorem Xp (p:api_Prog):(Qc p).map (·.1)=Ce p:=by simp [Qc,Ce,Mz,Ou]
theorem S2:∀ (l:List (List api_Cell)),(∀ x∈l,x.length≤8)→l.flatten.length≤8 * l.length
  | [],_=>Nat.zero_le _
  | x :: r, h => by
    have:=S2 r (fun y hy=>h y (.tail _ hy))
    have:=h x (.head _)
    simp only [List.flatten_cons,List.length_append,List.length_cons]
    omega
theorem Eb {p:api_Prog} (hp:SmallP p):(Ce p).length≤56:=by
  have h1:=S2 p.Lines hp.line
  have h2:=hp.lines
  have h3:=hp.vols
  simp only [Ce,List.length_append]
  omega
end Go.MD.LB
