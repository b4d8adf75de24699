/-
  DERIVED. GIVEN WITH THE SEED: THE CARDS: each row of YtbblmeecfimnkaaDoorRows.lean that lists a variable, with what it lists TIED to the program's text (the seventh form; the later family's looks); each row that meets fmt, with fmt's text TOLD by the authors' own Lean function (tested against real Go, not proved from fmt's source: count such statements apart). THE CARD IS WHAT COUNTS. Prove the row's statement (the work); the ties are given (YtbblmeecfimnkaaDoorTie.lean); close each card by the builder's one call (the guide's Derived/Test/ToyasCard.lean, 'card_holds'). Laid BY PROGRAM, IN A SANDBOX (cutbox-door.mjs). By AI agents, Wed Nov 11 2026. No macro, syntax, notation, axiom, sorry.
-/
import Derived.Test.YtbblmeecfimnkaaDoorRows
import GoSem.ClaimSeven
namespace Go.Proofs.YtbblmeecfimnkaaDoor
namespace Rows

/-- THE TIED CARD OF 'leadlinelaw10.BinaryNumbers'. -/
def binaryNumbersCard : Claim7 := { stood := { row := binaryNumbersRow, standIns := [], harness := (true, "e835cfcd26dac6d3279715a73cd3d91849515b1152ff759fbdcd59a04b6ca733"), looks := false }, kinds := [], alts := [], laidByText := true, laidKinds := [.data, .data, .data, .listed, .data], laidTests := true, laidLooks := .later }
def BinaryNumbersCardSaid : Prop := Claim7.holds Tryd.pinned (.plain (OpenSpec.ofChange binaryNumbersSpec)) binaryNumbersCard

/-- THE TIED CARD OF 'leadlinelaw10.BinaryRows'. -/
def binaryRowsCard : Claim7 := { stood := { row := binaryRowsRow, standIns := [], harness := (true, "e835cfcd26dac6d3279715a73cd3d91849515b1152ff759fbdcd59a04b6ca733"), looks := false }, kinds := [], alts := [], laidByText := true, laidKinds := [.data, .data, .data, .listed, .data], laidTests := true, laidLooks := .later }
def BinaryRowsCardSaid : Prop := Claim7.holds Tryd.pinned (.plain (OpenSpec.ofChange binaryRowsSpec)) binaryRowsCard

/-- THE TIED CARD OF 'leadlinelaw10.BinaryLines'. -/
def binaryLinesCard : Claim7 := { stood := { row := binaryLinesRow, standIns := [], harness := (true, "e835cfcd26dac6d3279715a73cd3d91849515b1152ff759fbdcd59a04b6ca733"), looks := false }, kinds := [], alts := [], laidByText := true, laidKinds := [.data, .data, .data, .listed, .data], laidTests := true, laidLooks := .later }
def BinaryLinesCardSaid : Prop := Claim7.holds Tryd.pinned (.plain (OpenSpec.ofChange binaryLinesSpec)) binaryLinesCard

/-- THE SECOND FORM's CARD OF 'leadlinelaw10.BinaryNumbers'. -/
def binaryNumbersUptoCard : Claim7 := { stood := { row := binaryNumbersUptoRow, standIns := [], harness := (true, "e835cfcd26dac6d3279715a73cd3d91849515b1152ff759fbdcd59a04b6ca733"), looks := false }, kinds := [], alts := [], laidByText := true, laidKinds := [.data, .data, .data, .listed, .data], laidTests := true, laidLooks := .later }
def BinaryNumbersUptoCardSaid : Prop := Claim7.holds Tryd.pinned (.plain (OpenSpec.upto binaryNumbersSpec)) binaryNumbersUptoCard

/-- THE SECOND FORM's CARD OF 'leadlinelaw10.BinaryRows'. -/
def binaryRowsUptoCard : Claim7 := { stood := { row := binaryRowsUptoRow, standIns := [], harness := (true, "e835cfcd26dac6d3279715a73cd3d91849515b1152ff759fbdcd59a04b6ca733"), looks := false }, kinds := [], alts := [], laidByText := true, laidKinds := [.data, .data, .data, .listed, .data], laidTests := true, laidLooks := .later }
def BinaryRowsUptoCardSaid : Prop := Claim7.holds Tryd.pinned (.plain (OpenSpec.upto binaryRowsSpec)) binaryRowsUptoCard

/-- THE SECOND FORM's CARD OF 'leadlinelaw10.BinaryLines'. -/
def binaryLinesUptoCard : Claim7 := { stood := { row := binaryLinesUptoRow, standIns := [], harness := (true, "e835cfcd26dac6d3279715a73cd3d91849515b1152ff759fbdcd59a04b6ca733"), looks := false }, kinds := [], alts := [], laidByText := true, laidKinds := [.data, .data, .data, .listed, .data], laidTests := true, laidLooks := .later }
def BinaryLinesUptoCardSaid : Prop := Claim7.holds Tryd.pinned (.plain (OpenSpec.upto binaryLinesSpec)) binaryLinesUptoCard
end Rows
end Go.Proofs.YtbblmeecfimnkaaDoor
