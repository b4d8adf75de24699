/-
  DERIVED. GIVEN WITH THE SEED: THE CARDS: each row of YtimaeihmnipfgaaDoorRows.lean that lists a variable, with what it lists TIED to the program's text (the seventh form; the later family's looks); each row that meets fmt, with fmt's text TOLD by the authors' own Lean function (tested against real Go, not proved from fmt's source: count such statements apart). THE CARD IS WHAT COUNTS. Prove the row's statement (the work); the ties are given (YtimaeihmnipfgaaDoorTie.lean); close each card by the builder's one call (the guide's Derived/Test/ToyasCard.lean, 'card_holds'). Laid BY PROGRAM, IN A SANDBOX (cutbox-door.mjs). By AI agents, Wed Nov 11 2026. No macro, syntax, notation, axiom, sorry.
-/
import Derived.Test.YtimaeihmnipfgaaDoorRows
import GoSem.ClaimSeven
namespace Go.Proofs.YtimaeihmnipfgaaDoor
namespace Rows

/-- THE TIED CARD OF 'leadlinelaw15.EventTells'. -/
def eventTellsCard : Claim7 := { stood := { row := eventTellsRow, standIns := [], harness := (true, "3bc9197959a3d3e5487da680d864503abf948f33ef18deecf59d4afa37d77b30"), looks := false }, kinds := [], alts := [], laidByText := true, laidKinds := [.data, .data, .data], laidTests := true, laidLooks := .later }
def EventTellsCardSaid : Prop := Claim7.holds Tryd.pinned (.plain (OpenSpec.ofChange eventTellsSpec)) eventTellsCard

/-- THE TIED CARD OF 'leadlinelaw15.EventBoth'. -/
def eventBothCard : Claim7 := { stood := { row := eventBothRow, standIns := [], harness := (true, "3bc9197959a3d3e5487da680d864503abf948f33ef18deecf59d4afa37d77b30"), looks := false }, kinds := [], alts := [], laidByText := true, laidKinds := [.data, .data, .data], laidTests := true, laidLooks := .later }
def EventBothCardSaid : Prop := Claim7.holds Tryd.pinned (.plain (OpenSpec.ofChange eventBothSpec)) eventBothCard

/-- THE TIED CARD OF 'leadlinelaw15.EventShows'. -/
def eventShowsCard : Claim7 := { stood := { row := eventShowsRow, standIns := [], harness := (true, "3bc9197959a3d3e5487da680d864503abf948f33ef18deecf59d4afa37d77b30"), looks := false }, kinds := [], alts := [], laidByText := true, laidKinds := [.data, .data, .data], laidTests := true, laidLooks := .later }
def EventShowsCardSaid : Prop := Claim7.holds Tryd.pinned (.plain (OpenSpec.ofChange eventShowsSpec)) eventShowsCard

/-- THE TIED CARD OF 'leadlinelaw15.EventUses'. -/
def eventUsesCard : Claim7 := { stood := { row := eventUsesRow, standIns := [], harness := (true, "3bc9197959a3d3e5487da680d864503abf948f33ef18deecf59d4afa37d77b30"), looks := false }, kinds := [], alts := [], laidByText := true, laidKinds := [.data, .data, .data], laidTests := true, laidLooks := .later }
def EventUsesCardSaid : Prop := Claim7.holds Tryd.pinned (.plain (OpenSpec.ofChange eventUsesSpec)) eventUsesCard

/-- THE TIED CARD OF 'leadlinelaw17.TraceTells'. -/
def traceTellsCard : Claim7 := { stood := { row := traceTellsRow, standIns := [], harness := (true, "3bc9197959a3d3e5487da680d864503abf948f33ef18deecf59d4afa37d77b30"), looks := false }, kinds := [], alts := [], laidByText := true, laidKinds := [.data, .data, .data], laidTests := true, laidLooks := .later }
def TraceTellsCardSaid : Prop := Claim7.holds Tryd.pinned (.plain (OpenSpec.ofChange traceTellsSpec)) traceTellsCard

/-- THE TIED CARD OF 'leadlinelaw17.TraceSame'. -/
def traceSameCard : Claim7 := { stood := { row := traceSameRow, standIns := [], harness := (true, "3bc9197959a3d3e5487da680d864503abf948f33ef18deecf59d4afa37d77b30"), looks := false }, kinds := [], alts := [], laidByText := true, laidKinds := [.data, .data, .data], laidTests := true, laidLooks := .later }
def TraceSameCardSaid : Prop := Claim7.holds Tryd.pinned (.plain (OpenSpec.ofChange traceSameSpec)) traceSameCard

/-- THE TIED CARD OF 'leadlinelaw17.TraceOrder'. -/
def traceOrderCard : Claim7 := { stood := { row := traceOrderRow, standIns := [], harness := (true, "3bc9197959a3d3e5487da680d864503abf948f33ef18deecf59d4afa37d77b30"), looks := false }, kinds := [], alts := [], laidByText := true, laidKinds := [.data, .data, .data], laidTests := true, laidLooks := .later }
def TraceOrderCardSaid : Prop := Claim7.holds Tryd.pinned (.plain (OpenSpec.ofChange traceOrderSpec)) traceOrderCard

/-- THE TIED CARD OF 'leadlinelaw17.TraceSteps'. -/
def traceStepsCard : Claim7 := { stood := { row := traceStepsRow, standIns := [], harness := (true, "3bc9197959a3d3e5487da680d864503abf948f33ef18deecf59d4afa37d77b30"), looks := false }, kinds := [], alts := [], laidByText := true, laidKinds := [.data, .data, .data], laidTests := true, laidLooks := .later }
def TraceStepsCardSaid : Prop := Claim7.holds Tryd.pinned (.plain (OpenSpec.ofChange traceStepsSpec)) traceStepsCard

/-- THE TIED CARD OF 'leadlinelaw17.TraceJoins'. -/
def traceJoinsCard : Claim7 := { stood := { row := traceJoinsRow, standIns := [], harness := (true, "3bc9197959a3d3e5487da680d864503abf948f33ef18deecf59d4afa37d77b30"), looks := false }, kinds := [], alts := [], laidByText := true, laidKinds := [.data, .data, .data], laidTests := true, laidLooks := .later }
def TraceJoinsCardSaid : Prop := Claim7.holds Tryd.pinned (.plain (OpenSpec.ofChange traceJoinsSpec)) traceJoinsCard

/-- THE TIED CARD OF 'leadlinelaw17.TraceThreads'. -/
def traceThreadsCard : Claim7 := { stood := { row := traceThreadsRow, standIns := [], harness := (true, "3bc9197959a3d3e5487da680d864503abf948f33ef18deecf59d4afa37d77b30"), looks := false }, kinds := [], alts := [], laidByText := true, laidKinds := [.data, .data, .data], laidTests := true, laidLooks := .later }
def TraceThreadsCardSaid : Prop := Claim7.holds Tryd.pinned (.plain (OpenSpec.ofChange traceThreadsSpec)) traceThreadsCard

/-- THE SECOND FORM's CARD OF 'leadlinelaw15.EventTells'. -/
def eventTellsUptoCard : Claim7 := { stood := { row := eventTellsUptoRow, standIns := [], harness := (true, "3bc9197959a3d3e5487da680d864503abf948f33ef18deecf59d4afa37d77b30"), looks := false }, kinds := [], alts := [], laidByText := true, laidKinds := [.data, .data, .data], laidTests := true, laidLooks := .later }
def EventTellsUptoCardSaid : Prop := Claim7.holds Tryd.pinned (.plain (OpenSpec.upto eventTellsSpec)) eventTellsUptoCard

/-- THE SECOND FORM's CARD OF 'leadlinelaw15.EventBoth'. -/
def eventBothUptoCard : Claim7 := { stood := { row := eventBothUptoRow, standIns := [], harness := (true, "3bc9197959a3d3e5487da680d864503abf948f33ef18deecf59d4afa37d77b30"), looks := false }, kinds := [], alts := [], laidByText := true, laidKinds := [.data, .data, .data], laidTests := true, laidLooks := .later }
def EventBothUptoCardSaid : Prop := Claim7.holds Tryd.pinned (.plain (OpenSpec.upto eventBothSpec)) eventBothUptoCard

/-- THE SECOND FORM's CARD OF 'leadlinelaw15.EventShows'. -/
def eventShowsUptoCard : Claim7 := { stood := { row := eventShowsUptoRow, standIns := [], harness := (true, "3bc9197959a3d3e5487da680d864503abf948f33ef18deecf59d4afa37d77b30"), looks := false }, kinds := [], alts := [], laidByText := true, laidKinds := [.data, .data, .data], laidTests := true, laidLooks := .later }
def EventShowsUptoCardSaid : Prop := Claim7.holds Tryd.pinned (.plain (OpenSpec.upto eventShowsSpec)) eventShowsUptoCard

/-- THE SECOND FORM's CARD OF 'leadlinelaw15.EventUses'. -/
def eventUsesUptoCard : Claim7 := { stood := { row := eventUsesUptoRow, standIns := [], harness := (true, "3bc9197959a3d3e5487da680d864503abf948f33ef18deecf59d4afa37d77b30"), looks := false }, kinds := [], alts := [], laidByText := true, laidKinds := [.data, .data, .data], laidTests := true, laidLooks := .later }
def EventUsesUptoCardSaid : Prop := Claim7.holds Tryd.pinned (.plain (OpenSpec.upto eventUsesSpec)) eventUsesUptoCard

/-- THE SECOND FORM's CARD OF 'leadlinelaw17.TraceTells'. -/
def traceTellsUptoCard : Claim7 := { stood := { row := traceTellsUptoRow, standIns := [], harness := (true, "3bc9197959a3d3e5487da680d864503abf948f33ef18deecf59d4afa37d77b30"), looks := false }, kinds := [], alts := [], laidByText := true, laidKinds := [.data, .data, .data], laidTests := true, laidLooks := .later }
def TraceTellsUptoCardSaid : Prop := Claim7.holds Tryd.pinned (.plain (OpenSpec.upto traceTellsSpec)) traceTellsUptoCard

/-- THE SECOND FORM's CARD OF 'leadlinelaw17.TraceSame'. -/
def traceSameUptoCard : Claim7 := { stood := { row := traceSameUptoRow, standIns := [], harness := (true, "3bc9197959a3d3e5487da680d864503abf948f33ef18deecf59d4afa37d77b30"), looks := false }, kinds := [], alts := [], laidByText := true, laidKinds := [.data, .data, .data], laidTests := true, laidLooks := .later }
def TraceSameUptoCardSaid : Prop := Claim7.holds Tryd.pinned (.plain (OpenSpec.upto traceSameSpec)) traceSameUptoCard

/-- THE SECOND FORM's CARD OF 'leadlinelaw17.TraceOrder'. -/
def traceOrderUptoCard : Claim7 := { stood := { row := traceOrderUptoRow, standIns := [], harness := (true, "3bc9197959a3d3e5487da680d864503abf948f33ef18deecf59d4afa37d77b30"), looks := false }, kinds := [], alts := [], laidByText := true, laidKinds := [.data, .data, .data], laidTests := true, laidLooks := .later }
def TraceOrderUptoCardSaid : Prop := Claim7.holds Tryd.pinned (.plain (OpenSpec.upto traceOrderSpec)) traceOrderUptoCard

/-- THE SECOND FORM's CARD OF 'leadlinelaw17.TraceSteps'. -/
def traceStepsUptoCard : Claim7 := { stood := { row := traceStepsUptoRow, standIns := [], harness := (true, "3bc9197959a3d3e5487da680d864503abf948f33ef18deecf59d4afa37d77b30"), looks := false }, kinds := [], alts := [], laidByText := true, laidKinds := [.data, .data, .data], laidTests := true, laidLooks := .later }
def TraceStepsUptoCardSaid : Prop := Claim7.holds Tryd.pinned (.plain (OpenSpec.upto traceStepsSpec)) traceStepsUptoCard

/-- THE SECOND FORM's CARD OF 'leadlinelaw17.TraceJoins'. -/
def traceJoinsUptoCard : Claim7 := { stood := { row := traceJoinsUptoRow, standIns := [], harness := (true, "3bc9197959a3d3e5487da680d864503abf948f33ef18deecf59d4afa37d77b30"), looks := false }, kinds := [], alts := [], laidByText := true, laidKinds := [.data, .data, .data], laidTests := true, laidLooks := .later }
def TraceJoinsUptoCardSaid : Prop := Claim7.holds Tryd.pinned (.plain (OpenSpec.upto traceJoinsSpec)) traceJoinsUptoCard

/-- THE SECOND FORM's CARD OF 'leadlinelaw17.TraceThreads'. -/
def traceThreadsUptoCard : Claim7 := { stood := { row := traceThreadsUptoRow, standIns := [], harness := (true, "3bc9197959a3d3e5487da680d864503abf948f33ef18deecf59d4afa37d77b30"), looks := false }, kinds := [], alts := [], laidByText := true, laidKinds := [.data, .data, .data], laidTests := true, laidLooks := .later }
def TraceThreadsUptoCardSaid : Prop := Claim7.holds Tryd.pinned (.plain (OpenSpec.upto traceThreadsSpec)) traceThreadsUptoCard
end Rows
end Go.Proofs.YtimaeihmnipfgaaDoor
