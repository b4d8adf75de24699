/-
  DERIVED. GIVEN WITH THE SEED: THE CARDS: each row of YtgdkaddhhpgeiaaGreatDoorRows.lean that lists a variable, with what it lists TIED to the program's text (the seventh form; the later family's looks); each row that meets fmt, with fmt's text TOLD by the authors' own Lean function (tested against real Go, not proved from fmt's source: count such statements apart). THE CARD IS WHAT COUNTS. Prove the row's statement (the work); the ties are given (YtgdkaddhhpgeiaaGreatDoorTie.lean); close each card by the builder's one call (the guide's Derived/Test/ToyasCard.lean, 'card_holds'). Laid BY PROGRAM, IN A SANDBOX (cutbox-door.mjs). By AI agents, Wed Nov 11 2026. No macro, syntax, notation, axiom, sorry.
-/
import Derived.Test.YtgdkaddhhpgeiaaGreatDoorRows
import GoSem.ClaimSeven
namespace Go.Proofs.YtgdkaddhhpgeiaaGreatDoor
namespace Rows

/-- THE TIED CARD OF 'leadlinelaw06.LegalChecks'. -/
def legalChecksCard : Claim7 := { stood := { row := legalChecksRow, standIns := [], harness := (true, "1f3c0be696b2d2e3f5d48e3ba946ccefe10248cb62d06eef4dfdbcc32f34794d"), looks := false }, kinds := [], alts := [], laidByText := true, laidKinds := [.data, .pinned], laidTests := true, laidLooks := .later }
def LegalChecksCardSaid : Prop := Claim7.holds Tryz.pinned (.plain (OpenSpec.ofChange legalChecksSpec)) legalChecksCard

/-- THE TIED CARD OF 'leadlinelaw06.LegalTexts'. -/
def legalTextsCard : Claim7 := { stood := { row := legalTextsRow, standIns := [], harness := (true, "1f3c0be696b2d2e3f5d48e3ba946ccefe10248cb62d06eef4dfdbcc32f34794d"), looks := false }, kinds := [], alts := [], laidByText := true, laidKinds := [.data, .pinned], laidTests := true, laidLooks := .later }
def LegalTextsCardSaid : Prop := Claim7.holds Tryz.pinned (.plain (OpenSpec.ofChange legalTextsSpec)) legalTextsCard

/-- THE TIED CARD OF 'leadlinelaw06.LegalTells'. -/
def legalTellsCard : Claim7 := { stood := { row := legalTellsRow, standIns := [], harness := (true, "1f3c0be696b2d2e3f5d48e3ba946ccefe10248cb62d06eef4dfdbcc32f34794d"), looks := false }, kinds := [], alts := [], laidByText := true, laidKinds := [.data, .pinned], laidTests := true, laidLooks := .later }
def LegalTellsCardSaid : Prop := Claim7.holds Tryz.pinned (.plain (OpenSpec.ofChange legalTellsSpec)) legalTellsCard

/-- THE TIED CARD OF 'leadlinelaw06.LegalNames'. -/
def legalNamesCard : Claim7 := { stood := { row := legalNamesRow, standIns := [], harness := (true, "1f3c0be696b2d2e3f5d48e3ba946ccefe10248cb62d06eef4dfdbcc32f34794d"), looks := false }, kinds := [], alts := [], laidByText := true, laidKinds := [.data, .pinned], laidTests := true, laidLooks := .later }
def LegalNamesCardSaid : Prop := Claim7.holds Tryz.pinned (.plain (OpenSpec.ofChange legalNamesSpec)) legalNamesCard

/-- THE TIED CARD OF 'leadlinelaw06.LegalLines'. -/
def legalLinesCard : Claim7 := { stood := { row := legalLinesRow, standIns := [], harness := (true, "1f3c0be696b2d2e3f5d48e3ba946ccefe10248cb62d06eef4dfdbcc32f34794d"), looks := false }, kinds := [], alts := [], laidByText := true, laidKinds := [.data, .pinned], laidTests := true, laidLooks := .later }
def LegalLinesCardSaid : Prop := Claim7.holds Tryz.pinned (.plain (OpenSpec.ofChange legalLinesSpec)) legalLinesCard

/-- THE TIED CARD OF 'leadlinelaw06.LegalAdds'. -/
def legalAddsCard : Claim7 := { stood := { row := legalAddsRow, standIns := [], harness := (true, "1f3c0be696b2d2e3f5d48e3ba946ccefe10248cb62d06eef4dfdbcc32f34794d"), looks := false }, kinds := [], alts := [], laidByText := true, laidKinds := [.data, .pinned], laidTests := true, laidLooks := .later }
def LegalAddsCardSaid : Prop := Claim7.holds Tryz.pinned (.plain (OpenSpec.ofChange legalAddsSpec)) legalAddsCard

/-- THE TIED CARD OF 'leadlinelaw07.BoundTells'. -/
def boundTellsCard : Claim7 := { stood := { row := boundTellsRow, standIns := [], harness := (true, "1f3c0be696b2d2e3f5d48e3ba946ccefe10248cb62d06eef4dfdbcc32f34794d"), looks := false }, kinds := [], alts := [], laidByText := true, laidKinds := [.data, .pinned], laidTests := true, laidLooks := .later }
def BoundTellsCardSaid : Prop := Claim7.holds Tryz.pinned (.plain (OpenSpec.ofChange boundTellsSpec)) boundTellsCard

/-- THE TIED CARD OF 'leadlinelaw07.BoundSums'. -/
def boundSumsCard : Claim7 := { stood := { row := boundSumsRow, standIns := [], harness := (true, "1f3c0be696b2d2e3f5d48e3ba946ccefe10248cb62d06eef4dfdbcc32f34794d"), looks := false }, kinds := [], alts := [], laidByText := true, laidKinds := [.data, .pinned], laidTests := true, laidLooks := .later }
def BoundSumsCardSaid : Prop := Claim7.holds Tryz.pinned (.plain (OpenSpec.ofChange boundSumsSpec)) boundSumsCard

/-- THE TIED CARD OF 'leadlinelaw07.BoundRuns'. -/
def boundRunsCard : Claim7 := { stood := { row := boundRunsRow, standIns := [], harness := (true, "1f3c0be696b2d2e3f5d48e3ba946ccefe10248cb62d06eef4dfdbcc32f34794d"), looks := false }, kinds := [], alts := [], laidByText := true, laidKinds := [.data, .pinned], laidTests := true, laidLooks := .later }
def BoundRunsCardSaid : Prop := Claim7.holds Tryz.pinned (.plain (OpenSpec.ofChange boundRunsSpec)) boundRunsCard

/-- THE TIED CARD OF 'leadlinelaw07.BoundMore'. -/
def boundMoreCard : Claim7 := { stood := { row := boundMoreRow, standIns := [], harness := (true, "1f3c0be696b2d2e3f5d48e3ba946ccefe10248cb62d06eef4dfdbcc32f34794d"), looks := false }, kinds := [], alts := [], laidByText := true, laidKinds := [.data, .pinned], laidTests := true, laidLooks := .later }
def BoundMoreCardSaid : Prop := Claim7.holds Tryz.pinned (.plain (OpenSpec.ofChange boundMoreSpec)) boundMoreCard

/-- THE TIED CARD OF 'leadlinelaw07.BoundJoins'. -/
def boundJoinsCard : Claim7 := { stood := { row := boundJoinsRow, standIns := [], harness := (true, "1f3c0be696b2d2e3f5d48e3ba946ccefe10248cb62d06eef4dfdbcc32f34794d"), looks := false }, kinds := [], alts := [], laidByText := true, laidKinds := [.data, .pinned], laidTests := true, laidLooks := .later }
def BoundJoinsCardSaid : Prop := Claim7.holds Tryz.pinned (.plain (OpenSpec.ofChange boundJoinsSpec)) boundJoinsCard

/-- THE TIED CARD OF 'leadlinelaw07.BoundFirst'. -/
def boundFirstCard : Claim7 := { stood := { row := boundFirstRow, standIns := [], harness := (true, "1f3c0be696b2d2e3f5d48e3ba946ccefe10248cb62d06eef4dfdbcc32f34794d"), looks := false }, kinds := [], alts := [], laidByText := true, laidKinds := [.data, .pinned], laidTests := true, laidLooks := .later }
def BoundFirstCardSaid : Prop := Claim7.holds Tryz.pinned (.plain (OpenSpec.ofChange boundFirstSpec)) boundFirstCard

/-- THE SECOND FORM's CARD OF 'leadlinelaw06.LegalChecks'. -/
def legalChecksUptoCard : Claim7 := { stood := { row := legalChecksUptoRow, standIns := [], harness := (true, "1f3c0be696b2d2e3f5d48e3ba946ccefe10248cb62d06eef4dfdbcc32f34794d"), looks := false }, kinds := [], alts := [], laidByText := true, laidKinds := [.data, .pinned], laidTests := true, laidLooks := .later }
def LegalChecksUptoCardSaid : Prop := Claim7.holds Tryz.pinned (.plain (OpenSpec.upto legalChecksSpec)) legalChecksUptoCard

/-- THE SECOND FORM's CARD OF 'leadlinelaw06.LegalTexts'. -/
def legalTextsUptoCard : Claim7 := { stood := { row := legalTextsUptoRow, standIns := [], harness := (true, "1f3c0be696b2d2e3f5d48e3ba946ccefe10248cb62d06eef4dfdbcc32f34794d"), looks := false }, kinds := [], alts := [], laidByText := true, laidKinds := [.data, .pinned], laidTests := true, laidLooks := .later }
def LegalTextsUptoCardSaid : Prop := Claim7.holds Tryz.pinned (.plain (OpenSpec.upto legalTextsSpec)) legalTextsUptoCard

/-- THE SECOND FORM's CARD OF 'leadlinelaw06.LegalTells'. -/
def legalTellsUptoCard : Claim7 := { stood := { row := legalTellsUptoRow, standIns := [], harness := (true, "1f3c0be696b2d2e3f5d48e3ba946ccefe10248cb62d06eef4dfdbcc32f34794d"), looks := false }, kinds := [], alts := [], laidByText := true, laidKinds := [.data, .pinned], laidTests := true, laidLooks := .later }
def LegalTellsUptoCardSaid : Prop := Claim7.holds Tryz.pinned (.plain (OpenSpec.upto legalTellsSpec)) legalTellsUptoCard

/-- THE SECOND FORM's CARD OF 'leadlinelaw06.LegalNames'. -/
def legalNamesUptoCard : Claim7 := { stood := { row := legalNamesUptoRow, standIns := [], harness := (true, "1f3c0be696b2d2e3f5d48e3ba946ccefe10248cb62d06eef4dfdbcc32f34794d"), looks := false }, kinds := [], alts := [], laidByText := true, laidKinds := [.data, .pinned], laidTests := true, laidLooks := .later }
def LegalNamesUptoCardSaid : Prop := Claim7.holds Tryz.pinned (.plain (OpenSpec.upto legalNamesSpec)) legalNamesUptoCard

/-- THE SECOND FORM's CARD OF 'leadlinelaw06.LegalLines'. -/
def legalLinesUptoCard : Claim7 := { stood := { row := legalLinesUptoRow, standIns := [], harness := (true, "1f3c0be696b2d2e3f5d48e3ba946ccefe10248cb62d06eef4dfdbcc32f34794d"), looks := false }, kinds := [], alts := [], laidByText := true, laidKinds := [.data, .pinned], laidTests := true, laidLooks := .later }
def LegalLinesUptoCardSaid : Prop := Claim7.holds Tryz.pinned (.plain (OpenSpec.upto legalLinesSpec)) legalLinesUptoCard

/-- THE SECOND FORM's CARD OF 'leadlinelaw06.LegalAdds'. -/
def legalAddsUptoCard : Claim7 := { stood := { row := legalAddsUptoRow, standIns := [], harness := (true, "1f3c0be696b2d2e3f5d48e3ba946ccefe10248cb62d06eef4dfdbcc32f34794d"), looks := false }, kinds := [], alts := [], laidByText := true, laidKinds := [.data, .pinned], laidTests := true, laidLooks := .later }
def LegalAddsUptoCardSaid : Prop := Claim7.holds Tryz.pinned (.plain (OpenSpec.upto legalAddsSpec)) legalAddsUptoCard

/-- THE SECOND FORM's CARD OF 'leadlinelaw07.BoundTells'. -/
def boundTellsUptoCard : Claim7 := { stood := { row := boundTellsUptoRow, standIns := [], harness := (true, "1f3c0be696b2d2e3f5d48e3ba946ccefe10248cb62d06eef4dfdbcc32f34794d"), looks := false }, kinds := [], alts := [], laidByText := true, laidKinds := [.data, .pinned], laidTests := true, laidLooks := .later }
def BoundTellsUptoCardSaid : Prop := Claim7.holds Tryz.pinned (.plain (OpenSpec.upto boundTellsSpec)) boundTellsUptoCard

/-- THE SECOND FORM's CARD OF 'leadlinelaw07.BoundSums'. -/
def boundSumsUptoCard : Claim7 := { stood := { row := boundSumsUptoRow, standIns := [], harness := (true, "1f3c0be696b2d2e3f5d48e3ba946ccefe10248cb62d06eef4dfdbcc32f34794d"), looks := false }, kinds := [], alts := [], laidByText := true, laidKinds := [.data, .pinned], laidTests := true, laidLooks := .later }
def BoundSumsUptoCardSaid : Prop := Claim7.holds Tryz.pinned (.plain (OpenSpec.upto boundSumsSpec)) boundSumsUptoCard

/-- THE SECOND FORM's CARD OF 'leadlinelaw07.BoundRuns'. -/
def boundRunsUptoCard : Claim7 := { stood := { row := boundRunsUptoRow, standIns := [], harness := (true, "1f3c0be696b2d2e3f5d48e3ba946ccefe10248cb62d06eef4dfdbcc32f34794d"), looks := false }, kinds := [], alts := [], laidByText := true, laidKinds := [.data, .pinned], laidTests := true, laidLooks := .later }
def BoundRunsUptoCardSaid : Prop := Claim7.holds Tryz.pinned (.plain (OpenSpec.upto boundRunsSpec)) boundRunsUptoCard

/-- THE SECOND FORM's CARD OF 'leadlinelaw07.BoundMore'. -/
def boundMoreUptoCard : Claim7 := { stood := { row := boundMoreUptoRow, standIns := [], harness := (true, "1f3c0be696b2d2e3f5d48e3ba946ccefe10248cb62d06eef4dfdbcc32f34794d"), looks := false }, kinds := [], alts := [], laidByText := true, laidKinds := [.data, .pinned], laidTests := true, laidLooks := .later }
def BoundMoreUptoCardSaid : Prop := Claim7.holds Tryz.pinned (.plain (OpenSpec.upto boundMoreSpec)) boundMoreUptoCard

/-- THE SECOND FORM's CARD OF 'leadlinelaw07.BoundJoins'. -/
def boundJoinsUptoCard : Claim7 := { stood := { row := boundJoinsUptoRow, standIns := [], harness := (true, "1f3c0be696b2d2e3f5d48e3ba946ccefe10248cb62d06eef4dfdbcc32f34794d"), looks := false }, kinds := [], alts := [], laidByText := true, laidKinds := [.data, .pinned], laidTests := true, laidLooks := .later }
def BoundJoinsUptoCardSaid : Prop := Claim7.holds Tryz.pinned (.plain (OpenSpec.upto boundJoinsSpec)) boundJoinsUptoCard

/-- THE SECOND FORM's CARD OF 'leadlinelaw07.BoundFirst'. -/
def boundFirstUptoCard : Claim7 := { stood := { row := boundFirstUptoRow, standIns := [], harness := (true, "1f3c0be696b2d2e3f5d48e3ba946ccefe10248cb62d06eef4dfdbcc32f34794d"), looks := false }, kinds := [], alts := [], laidByText := true, laidKinds := [.data, .pinned], laidTests := true, laidLooks := .later }
def BoundFirstUptoCardSaid : Prop := Claim7.holds Tryz.pinned (.plain (OpenSpec.upto boundFirstSpec)) boundFirstUptoCard
end Rows
end Go.Proofs.YtgdkaddhhpgeiaaGreatDoor
