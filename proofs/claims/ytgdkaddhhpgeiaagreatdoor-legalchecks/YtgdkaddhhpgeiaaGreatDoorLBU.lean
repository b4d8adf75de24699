/- Cells, lines, locks. No condition: plain lemmas. -/
import Derived.Test.YtgdkaddhhpgeiaaGreatDoorLBS
namespace Go.MD.LB
open Go Go.MD
theorem We:Z13 1001=some true:=by decide +kernel
theorem Yq:((Z13 1001).bind fun r=>some r)=some true:=by rw [We];rfl
def Cc (p:api_Prog):List api_Cell:=p.Lines.flatten ++ p.Vols
theorem Mf:∀ (l:List (List api_Cell)) (i:Nat),(Ju l i).map (·.1)=l.flatten
  | [],_=>rfl
  | l :: r,i=>by simp [Ju,Mf r (i+1),Function.comp_def]
theorem Pl:∀ (l:List api_Cell) (i:Nat),(Ou l i).map (·.1)=l
  | [],_=>rfl
  | c :: r,i=>by simp [Ou,Pl r (i+1)]
theorem Tt (p:api_Prog):(Ol p).map (·.1)=Cc p:=by simp [Ol,Cc,Mf,Pl]
theorem Rc:∀ (l:List (List api_Cell)),(∀ x∈l,x.length≤8)→l.flatten.length≤8 * l.length
  | [],_=>Nat.zero_le _
  | x :: r, h => by
    have:=Rc r (fun y hy=>h y (.tail _ hy))
    have:=h x (.head _)
    simp only [List.flatten_cons,List.length_append,List.length_cons]
    omega
theorem Eb {p:api_Prog} (hp:SmallP p):(Cc p).length≤56:=by
  have h1:=Rc p.Lines hp.line
  have h2:=hp.lines
  have h3:=hp.vols
  simp only [Cc,List.length_append]
  omega
end Go.MD.LB
