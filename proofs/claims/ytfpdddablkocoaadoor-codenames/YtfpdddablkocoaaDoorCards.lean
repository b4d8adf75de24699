/-
  DERIVED. GIVEN WITH THE SEED: THE CARDS: each row of YtfpdddablkocoaaDoorRows.lean that lists a variable, with what it lists TIED to the program's text (the seventh form; the later family's looks); each row that meets fmt, with fmt's text TOLD by the authors' own Lean function (tested against real Go, not proved from fmt's source: count such statements apart). THE CARD IS WHAT COUNTS. Prove the row's statement (the work); the ties are given (YtfpdddablkocoaaDoorTie.lean); close each card by the builder's one call (the guide's Derived/Test/ToyasCard.lean, 'card_holds'). Laid BY PROGRAM, IN A SANDBOX (cutbox-door.mjs). By AI agents, Wed Nov 11 2026. No macro, syntax, notation, axiom, sorry.
-/
import Derived.Test.YtfpdddablkocoaaDoorRows
import GoSem.ClaimSeven
namespace Go.Proofs.YtfpdddablkocoaaDoor
namespace Rows

/-- THE TIED CARD OF 'leadlinelaw08.CodeMakes'. -/
def codeMakesCard : Claim7 := { stood := { row := codeMakesRow, standIns := [], harness := (true, "918a64bd7c0699432789580a7d772d285291da6056c4c0509c4adc5531699525"), looks := false }, kinds := [], alts := [], laidByText := true, laidKinds := [.data, .pinned], laidTests := true, laidLooks := .later }
def CodeMakesCardSaid : Prop := Claim7.holds Tryd.pinned (.plain (OpenSpec.ofChange codeMakesSpec)) codeMakesCard

/-- THE TIED CARD OF 'leadlinelaw08.CodeValues'. -/
def codeValuesCard : Claim7 := { stood := { row := codeValuesRow, standIns := [], harness := (true, "918a64bd7c0699432789580a7d772d285291da6056c4c0509c4adc5531699525"), looks := false }, kinds := [], alts := [], laidByText := true, laidKinds := [.data, .pinned], laidTests := true, laidLooks := .later }
def CodeValuesCardSaid : Prop := Claim7.holds Tryd.pinned (.plain (OpenSpec.ofChange codeValuesSpec)) codeValuesCard

/-- THE TIED CARD OF 'leadlinelaw08.CodeSame'. -/
def codeSameCard : Claim7 := { stood := { row := codeSameRow, standIns := [], harness := (true, "918a64bd7c0699432789580a7d772d285291da6056c4c0509c4adc5531699525"), looks := false }, kinds := [], alts := [], laidByText := true, laidKinds := [.data, .pinned], laidTests := true, laidLooks := .later }
def CodeSameCardSaid : Prop := Claim7.holds Tryd.pinned (.plain (OpenSpec.ofChange codeSameSpec)) codeSameCard

/-- THE TIED CARD OF 'leadlinelaw08.CodeJoins'. -/
def codeJoinsCard : Claim7 := { stood := { row := codeJoinsRow, standIns := [], harness := (true, "918a64bd7c0699432789580a7d772d285291da6056c4c0509c4adc5531699525"), looks := false }, kinds := [], alts := [], laidByText := true, laidKinds := [.data, .pinned], laidTests := true, laidLooks := .later }
def CodeJoinsCardSaid : Prop := Claim7.holds Tryd.pinned (.plain (OpenSpec.ofChange codeJoinsSpec)) codeJoinsCard

/-- THE TIED CARD OF 'leadlinelaw08.CodeNames'. -/
def codeNamesCard : Claim7 := { stood := { row := codeNamesRow, standIns := [], harness := (true, "918a64bd7c0699432789580a7d772d285291da6056c4c0509c4adc5531699525"), looks := false }, kinds := [], alts := [], laidByText := true, laidKinds := [.data, .pinned], laidTests := true, laidLooks := .later }
def CodeNamesCardSaid : Prop := Claim7.holds Tryd.pinned (.plain (OpenSpec.ofChange codeNamesSpec)) codeNamesCard

/-- THE TIED CARD OF 'leadlinelaw08.CodeParts'. -/
def codePartsCard : Claim7 := { stood := { row := codePartsRow, standIns := [], harness := (true, "918a64bd7c0699432789580a7d772d285291da6056c4c0509c4adc5531699525"), looks := false }, kinds := [], alts := [], laidByText := true, laidKinds := [.data, .pinned], laidTests := true, laidLooks := .later }
def CodePartsCardSaid : Prop := Claim7.holds Tryd.pinned (.plain (OpenSpec.ofChange codePartsSpec)) codePartsCard

/-- THE SECOND FORM's CARD OF 'leadlinelaw08.CodeMakes'. -/
def codeMakesUptoCard : Claim7 := { stood := { row := codeMakesUptoRow, standIns := [], harness := (true, "918a64bd7c0699432789580a7d772d285291da6056c4c0509c4adc5531699525"), looks := false }, kinds := [], alts := [], laidByText := true, laidKinds := [.data, .pinned], laidTests := true, laidLooks := .later }
def CodeMakesUptoCardSaid : Prop := Claim7.holds Tryd.pinned (.plain (OpenSpec.upto codeMakesSpec)) codeMakesUptoCard

/-- THE SECOND FORM's CARD OF 'leadlinelaw08.CodeValues'. -/
def codeValuesUptoCard : Claim7 := { stood := { row := codeValuesUptoRow, standIns := [], harness := (true, "918a64bd7c0699432789580a7d772d285291da6056c4c0509c4adc5531699525"), looks := false }, kinds := [], alts := [], laidByText := true, laidKinds := [.data, .pinned], laidTests := true, laidLooks := .later }
def CodeValuesUptoCardSaid : Prop := Claim7.holds Tryd.pinned (.plain (OpenSpec.upto codeValuesSpec)) codeValuesUptoCard

/-- THE SECOND FORM's CARD OF 'leadlinelaw08.CodeSame'. -/
def codeSameUptoCard : Claim7 := { stood := { row := codeSameUptoRow, standIns := [], harness := (true, "918a64bd7c0699432789580a7d772d285291da6056c4c0509c4adc5531699525"), looks := false }, kinds := [], alts := [], laidByText := true, laidKinds := [.data, .pinned], laidTests := true, laidLooks := .later }
def CodeSameUptoCardSaid : Prop := Claim7.holds Tryd.pinned (.plain (OpenSpec.upto codeSameSpec)) codeSameUptoCard

/-- THE SECOND FORM's CARD OF 'leadlinelaw08.CodeJoins'. -/
def codeJoinsUptoCard : Claim7 := { stood := { row := codeJoinsUptoRow, standIns := [], harness := (true, "918a64bd7c0699432789580a7d772d285291da6056c4c0509c4adc5531699525"), looks := false }, kinds := [], alts := [], laidByText := true, laidKinds := [.data, .pinned], laidTests := true, laidLooks := .later }
def CodeJoinsUptoCardSaid : Prop := Claim7.holds Tryd.pinned (.plain (OpenSpec.upto codeJoinsSpec)) codeJoinsUptoCard

/-- THE SECOND FORM's CARD OF 'leadlinelaw08.CodeNames'. -/
def codeNamesUptoCard : Claim7 := { stood := { row := codeNamesUptoRow, standIns := [], harness := (true, "918a64bd7c0699432789580a7d772d285291da6056c4c0509c4adc5531699525"), looks := false }, kinds := [], alts := [], laidByText := true, laidKinds := [.data, .pinned], laidTests := true, laidLooks := .later }
def CodeNamesUptoCardSaid : Prop := Claim7.holds Tryd.pinned (.plain (OpenSpec.upto codeNamesSpec)) codeNamesUptoCard

/-- THE SECOND FORM's CARD OF 'leadlinelaw08.CodeParts'. -/
def codePartsUptoCard : Claim7 := { stood := { row := codePartsUptoRow, standIns := [], harness := (true, "918a64bd7c0699432789580a7d772d285291da6056c4c0509c4adc5531699525"), looks := false }, kinds := [], alts := [], laidByText := true, laidKinds := [.data, .pinned], laidTests := true, laidLooks := .later }
def CodePartsUptoCardSaid : Prop := Claim7.holds Tryd.pinned (.plain (OpenSpec.upto codePartsSpec)) codePartsUptoCard
end Rows
end Go.Proofs.YtfpdddablkocoaaDoor
