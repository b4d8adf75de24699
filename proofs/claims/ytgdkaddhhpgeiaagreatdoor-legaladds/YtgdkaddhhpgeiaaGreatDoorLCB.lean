/- LegalNames: the plain law. No condition: plain lemmas. -/
import Derived.Test.YtgdkaddhhpgeiaaGreatDoorLCA
namespace Go.MD.LB
open Go Go.MD
theorem Ny {l:List Str} {s:Str} (h:s ∉ l):∀ k:Nat,Fg l s k = -1:=by
  induction l with
  | nil=>intro k;rfl
  | cons x r ih =>
    intro k
    rw [List.mem_cons,not_or] at h
    rw [Fg,if_neg (fun q=>h.1 q.symm),ih h.2]
theorem N0 {l:List Str} {s:Str} (h:s∈l):0≤Fg l s 0∧Fg l s 0 < (l.length:Int):=by
  have:=(Jh l s 0).2 h
  omega
end Go.MD.LB
