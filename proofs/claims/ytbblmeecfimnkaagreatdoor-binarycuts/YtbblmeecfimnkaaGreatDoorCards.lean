/-
  DERIVED. GIVEN WITH THE SEED: THE CARDS: each row of YtbblmeecfimnkaaGreatDoorRows.lean that lists a variable, with what it lists TIED to the program's text (the seventh form; the later family's looks); each row that meets fmt, with fmt's text TOLD by the authors' own Lean function (tested against real Go, not proved from fmt's source: count such statements apart). THE CARD IS WHAT COUNTS. Prove the row's statement (the work); the ties are given (YtbblmeecfimnkaaGreatDoorTie.lean); close each card by the builder's one call (the guide's Derived/Test/ToyasCard.lean, 'card_holds'). Laid BY PROGRAM, IN A SANDBOX (cutbox-door.mjs). By AI agents, Wed Nov 11 2026. No macro, syntax, notation, axiom, sorry.
-/
import Derived.Test.YtbblmeecfimnkaaGreatDoorRows
import GoSem.ClaimSeven
namespace Go.Proofs.YtbblmeecfimnkaaGreatDoor
namespace Rows

/-- THE TIED CARD OF 'leadlinelaw10.BinaryTexts'. -/
def binaryTextsCard : Claim7 := { stood := { row := binaryTextsRow, standIns := [], harness := (true, "f050889bb5c5a1bff77a01ebd950b6e25656976d3b7847338b90518bacc2b2e9"), looks := false }, kinds := [], alts := [], laidByText := true, laidKinds := [.data, .data, .data, .listed, .data], laidTests := true, laidLooks := .later }
def BinaryTextsCardSaid : Prop := Claim7.holds Tryz.pinned (.plain (OpenSpec.ofChange binaryTextsSpec)) binaryTextsCard

/-- THE TIED CARD OF 'leadlinelaw10.BinaryShows'. -/
def binaryShowsCard : Claim7 := { stood := { row := binaryShowsRow, standIns := [], harness := (true, "f050889bb5c5a1bff77a01ebd950b6e25656976d3b7847338b90518bacc2b2e9"), looks := false }, kinds := [], alts := [], laidByText := true, laidKinds := [.data, .data, .data, .listed, .data], laidTests := true, laidLooks := .later }
def BinaryShowsCardSaid : Prop := Claim7.holds Tryz.pinned (.plain (OpenSpec.ofChange binaryShowsSpec)) binaryShowsCard

/-- THE TIED CARD OF 'leadlinelaw10.BinaryBack'. -/
def binaryBackCard : Claim7 := { stood := { row := binaryBackRow, standIns := [], harness := (true, "f050889bb5c5a1bff77a01ebd950b6e25656976d3b7847338b90518bacc2b2e9"), looks := false }, kinds := [], alts := [], laidByText := true, laidKinds := [.data, .data, .data, .listed, .data], laidTests := true, laidLooks := .later }
def BinaryBackCardSaid : Prop := Claim7.holds Tryz.pinned (.plain (OpenSpec.ofChange binaryBackSpec)) binaryBackCard

/-- THE TIED CARD OF 'leadlinelaw10.BinaryCuts'. -/
def binaryCutsCard : Claim7 := { stood := { row := binaryCutsRow, standIns := [], harness := (true, "f050889bb5c5a1bff77a01ebd950b6e25656976d3b7847338b90518bacc2b2e9"), looks := false }, kinds := [], alts := [], laidByText := true, laidKinds := [.data, .data, .data, .listed, .data], laidTests := true, laidLooks := .later }
def BinaryCutsCardSaid : Prop := Claim7.holds Tryz.pinned (.plain (OpenSpec.ofChange binaryCutsSpec)) binaryCutsCard

/-- THE SECOND FORM's CARD OF 'leadlinelaw10.BinaryTexts'. -/
def binaryTextsUptoCard : Claim7 := { stood := { row := binaryTextsUptoRow, standIns := [], harness := (true, "f050889bb5c5a1bff77a01ebd950b6e25656976d3b7847338b90518bacc2b2e9"), looks := false }, kinds := [], alts := [], laidByText := true, laidKinds := [.data, .data, .data, .listed, .data], laidTests := true, laidLooks := .later }
def BinaryTextsUptoCardSaid : Prop := Claim7.holds Tryz.pinned (.plain (OpenSpec.upto binaryTextsSpec)) binaryTextsUptoCard

/-- THE SECOND FORM's CARD OF 'leadlinelaw10.BinaryShows'. -/
def binaryShowsUptoCard : Claim7 := { stood := { row := binaryShowsUptoRow, standIns := [], harness := (true, "f050889bb5c5a1bff77a01ebd950b6e25656976d3b7847338b90518bacc2b2e9"), looks := false }, kinds := [], alts := [], laidByText := true, laidKinds := [.data, .data, .data, .listed, .data], laidTests := true, laidLooks := .later }
def BinaryShowsUptoCardSaid : Prop := Claim7.holds Tryz.pinned (.plain (OpenSpec.upto binaryShowsSpec)) binaryShowsUptoCard

/-- THE SECOND FORM's CARD OF 'leadlinelaw10.BinaryBack'. -/
def binaryBackUptoCard : Claim7 := { stood := { row := binaryBackUptoRow, standIns := [], harness := (true, "f050889bb5c5a1bff77a01ebd950b6e25656976d3b7847338b90518bacc2b2e9"), looks := false }, kinds := [], alts := [], laidByText := true, laidKinds := [.data, .data, .data, .listed, .data], laidTests := true, laidLooks := .later }
def BinaryBackUptoCardSaid : Prop := Claim7.holds Tryz.pinned (.plain (OpenSpec.upto binaryBackSpec)) binaryBackUptoCard

/-- THE SECOND FORM's CARD OF 'leadlinelaw10.BinaryCuts'. -/
def binaryCutsUptoCard : Claim7 := { stood := { row := binaryCutsUptoRow, standIns := [], harness := (true, "f050889bb5c5a1bff77a01ebd950b6e25656976d3b7847338b90518bacc2b2e9"), looks := false }, kinds := [], alts := [], laidByText := true, laidKinds := [.data, .data, .data, .listed, .data], laidTests := true, laidLooks := .later }
def BinaryCutsUptoCardSaid : Prop := Claim7.holds Tryz.pinned (.plain (OpenSpec.upto binaryCutsSpec)) binaryCutsUptoCard
end Rows
end Go.Proofs.YtbblmeecfimnkaaGreatDoor
