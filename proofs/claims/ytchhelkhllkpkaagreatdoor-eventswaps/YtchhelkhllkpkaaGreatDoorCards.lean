/-
  DERIVED. GIVEN WITH THE SEED: THE CARDS: each row of YtchhelkhllkpkaaGreatDoorRows.lean that lists a variable, with what it lists TIED to the program's text (the seventh form; the later family's looks); each row that meets fmt, with fmt's text TOLD by the authors' own Lean function (tested against real Go, not proved from fmt's source: count such statements apart). THE CARD IS WHAT COUNTS. Prove the row's statement (the work); the ties are given (YtchhelkhllkpkaaGreatDoorTie.lean); close each card by the builder's one call (the guide's Derived/Test/ToyasCard.lean, 'card_holds'). Laid BY PROGRAM, IN A SANDBOX (cutbox-door.mjs). By AI agents, Wed Nov 11 2026. No macro, syntax, notation, axiom, sorry.
-/
import Derived.Test.YtchhelkhllkpkaaGreatDoorRows
import GoSem.ClaimSeven
namespace Go.Proofs.YtchhelkhllkpkaaGreatDoor
namespace Rows

/-- THE TIED CARD OF 'leadlinelaw15.EventSwaps'. -/
def eventSwapsCard : Claim7 := { stood := { row := eventSwapsRow, standIns := [], harness := (true, "3f64a41a13970b61bafed8944193ae8ef60a90584d8bab9feb5007f968bd928a"), looks := false }, kinds := [], alts := [], laidByText := true, laidKinds := [.data, .data, .data], laidTests := true, laidLooks := .later }
def EventSwapsCardSaid : Prop := Claim7.holds Tryz.pinned (.plain (OpenSpec.ofChange eventSwapsSpec)) eventSwapsCard

/-- THE SECOND FORM's CARD OF 'leadlinelaw15.EventSwaps'. -/
def eventSwapsUptoCard : Claim7 := { stood := { row := eventSwapsUptoRow, standIns := [], harness := (true, "3f64a41a13970b61bafed8944193ae8ef60a90584d8bab9feb5007f968bd928a"), looks := false }, kinds := [], alts := [], laidByText := true, laidKinds := [.data, .data, .data], laidTests := true, laidLooks := .later }
def EventSwapsUptoCardSaid : Prop := Claim7.holds Tryz.pinned (.plain (OpenSpec.upto eventSwapsSpec)) eventSwapsUptoCard
end Rows
end Go.Proofs.YtchhelkhllkpkaaGreatDoor
