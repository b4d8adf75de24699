/- What came in at the seat bin, and what its library reads. No condition: plain lemmas. -/
import Derived.Test.YtbblmeecfimnkaaDoorLO
import Derived.Test.YtbblmeecfimnkaaDoorLW
import Derived.Test.YtbblmeecfimnkaaDoorBNB
import Derived.Test.YtbblmeecfimnkaaDoorBNK
import Derived.Test.YtbblmeecfimnkaaDoorRows
import Derived.LaidLaws
import Derived.Lay
import Derived.Shelf.Vars
namespace Go.LM.BIN
open Go Go.LL Go.MD Go.LM Go.MD.BIN Go.Proofs Go.ChangeShapes Go.WideShapes Go.ChangeAt Go.RowKit Go.WideElems
theorem own:ownKnob Tryd.prog.godebug=none:=by kernel_rfl
theorem laid:laidOutB Tryd.prog=true:=by kernel_rfl
def laidL : List (String × DataW Unit) := [("math/bits.deBruijn32tab", Go.Proofs.YtbblmeecfimnkaaDoor.Rows.laid_math_bits_deBruijn32tab), ("math/bits.deBruijn64tab", Go.Proofs.YtbblmeecfimnkaaDoor.Rows.laid_math_bits_deBruijn64tab), ("internal/strconv.uint64pow10", Go.Proofs.YtbblmeecfimnkaaDoor.Rows.laid_internal_strconv_uint64pow10), ("unicode.White_Space", Go.Proofs.YtbblmeecfimnkaaDoor.Rows.laid_unicode_White_Space), ("strings.asciiSpace", Go.Proofs.YtbblmeecfimnkaaDoor.Rows.laid_strings_asciiSpace)]
theorem tabP_eq:(Go.Proofs.YtbblmeecfimnkaaDoor.Rows.laid_internal_strconv_uint64pow10:DataW Unit)=Lib.tabData .u64 Lib.pow10Tab:=by rfl
theorem tabA_eq:(Go.Proofs.YtbblmeecfimnkaaDoor.Rows.laid_strings_asciiSpace:DataW Unit)=Lib.tabData .u8 Lib.asciiSpaceTab:=by kernel_rfl
theorem globP : Tryd.prog.globalNamed "internal/strconv.uint64pow10" = some 2 := by kernel_rfl
theorem globA : Tryd.prog.globalNamed "strings.asciiSpace" = some 0 := by kernel_rfl
theorem tab_of_laid {W:World} (h:laidMet Tryd.prog laidL W):Tab (hp W):=by
  have h1:=h.tail.tail
  have h3:=h1.tail.tail
  rw [tabP_eq] at h1
  rw [tabA_eq] at h3
  have h2:=Lib.tabIs_of_head (g:=2) (t:=153) (e:=143) (n:=20) globP (by kernel_rfl) (by kernel_rfl) (by kernel_rfl) (by kernel_rfl) (by kernel_rfl) h1
  have h4:=Lib.tabIs_of_head (g:=0) (t:=96) (e:=5) (n:=256) globA (by kernel_rfl) (by kernel_rfl) (by kernel_rfl) (by kernel_rfl) (by kernel_rfl) h3
  intro w hle
  constructor
  · unfold Lib.TabIs World.var? at h2 ⊢
    rw [globP] at h2 ⊢
    simp only [Option.bind_some] at h2 ⊢
    split at h2
    · rename_i cs t fr hc
      rw [show w.heap[2]? = some (.cells cs t fr) from hle 2 _ hc]
      exact h2
    · cases h2
  · unfold Lib.TabIs World.var? at h4 ⊢
    rw [globA] at h4 ⊢
    simp only [Option.bind_some] at h4 ⊢
    split at h4
    · rename_i cs t fr hc
      rw [show w.heap[0]? = some (.cells cs t fr) from hle 0 _ hc]
      exact h4
    · cases h4
noncomputable def laidWorld (os:Os):World:=World.laidAll Tryd.prog os laidL
theorem laid_met (os:Os) (args:Array Value):laidMet Tryd.prog laidL ((laidWorld os).forCall (fun _ _=>0) ⟨#[],args,[]⟩).memory:=
  laidMet_laidAll args (by kernel_rfl) (by kernel_rfl)
end Go.LM.BIN
