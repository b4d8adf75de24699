/-
  NARROWER THAN 'FOR EVERY INPUT', by the rows' own cells (each row's printed sentence says how): LegalChecks: laid · LegalTexts: laid · LegalTells: laid · LegalNames: laid · LegalLines: laid · LegalAdds: laid · BoundTells: laid · BoundSums: laid · BoundRuns: laid · BoundMore: laid · BoundJoins: laid · BoundFirst: laid.
  DERIVED. THE GIVEN ROWS OF THIS SEAT. 12 by the template 'for every input the law returns true; each argument reads behind the call as it read before'; 0 by the template 'total and deterministic' (their statements: YtgdkaddhhpgeiaaGreatDoorTotals.lean).
  GIVEN WITH THE SEED: the statements are not yours to turn. If you find one false, say at which input.
  Laid BY PROGRAM, IN A SANDBOX (cutbox-rows.mjs): the forced cells as the released guide's own fill.sh prints them over the translation de22bda3b987fa9b… (all of the seat's roots in one cut). By AI agents, Wed Nov 11 2026. No macro, syntax, notation, axiom, sorry.
-/
import Derived.Test.YtgdkaddhhpgeiaaGreatDoorChecked
import GoSem.PinnedTables
import GoSem.Claim
import GoSem.ClaimJoined
import GoSem.ClaimMapViews
import Derived.JoinedTies
import Derived.KernelRfl
namespace Go.Proofs.YtgdkaddhhpgeiaaGreatDoor
/- THE CELL 'sum', in the pinned program and in every row, IS THE sha256 OF THE DUMP (.gsa) THAT YtgdkaddhhpgeiaaGreatDoorProg.lean LOADS. Nothing in Lean hashes anything: it is a label: what it is worth is what the hold of that sum in a sandbox is worth. -/
noncomputable def Tryz.pinned : Pinned := { name := "ytgdkaddhhpgeiaagreatdoor", sum := "de22bda3b987fa9b1a7595a8784d0c8e7a08775f7342101d768e20ff4153b632", checked := Tryz.checked }
namespace Rows
def none {H : Type} : Left H := { results := [], args := [] }

/- WHAT THE LISTED PACKAGE-LEVEL VARIABLES READ AS WHEN THE CALL BEGINS. Each datum BY PROGRAM (the guide's laid-datum.mjs) off the statement by which the dump's own 'gosem.cut.vars' lays the variable. In a bare row this is a premise. The card (YtgdkaddhhpgeiaaGreatDoorCards.lean) ties it to the program's text. -/
def laid_unicode_utf8_acceptRanges {H : Type} : DataW H := .agg [.agg [.lit (.int .u8 128), .lit (.int .u8 191)], .agg [.lit (.int .u8 160), .lit (.int .u8 191)], .agg [.lit (.int .u8 128), .lit (.int .u8 159)], .agg [.lit (.int .u8 144), .lit (.int .u8 191)], .agg [.lit (.int .u8 128), .lit (.int .u8 143)], .agg [.lit (.int .u8 0), .lit (.int .u8 0)], .agg [.lit (.int .u8 0), .lit (.int .u8 0)], .agg [.lit (.int .u8 0), .lit (.int .u8 0)], .agg [.lit (.int .u8 0), .lit (.int .u8 0)], .agg [.lit (.int .u8 0), .lit (.int .u8 0)], .agg [.lit (.int .u8 0), .lit (.int .u8 0)], .agg [.lit (.int .u8 0), .lit (.int .u8 0)], .agg [.lit (.int .u8 0), .lit (.int .u8 0)], .agg [.lit (.int .u8 0), .lit (.int .u8 0)], .agg [.lit (.int .u8 0), .lit (.int .u8 0)], .agg [.lit (.int .u8 0), .lit (.int .u8 0)]]
/-- One of Go's own tables, pinned by name: the form's constant. -/
def laid_unicode_utf8_first : DataW Unit := Go.Pinned.utf8First

/-- 'leadlinelaw06.LegalChecks': WHATEVER THE INPUT: true; the input reads as it did. -/
def legalChecksSpec : ChangeSpec := { name := "legalChecks", fn := fun _ => fun
  | [d] => { results := [.lit (.bool true)], args := [d] }
  | _ => none }
def legalChecksRow : OpenClaim := { program := "ytgdkaddhhpgeiaagreatdoor", sum := "de22bda3b987fa9b1a7595a8784d0c8e7a08775f7342101d768e20ff4153b632", func := "leadline/leadlinelaw06.LegalChecks", spec := "legalChecks", inPlace := ["internal/bytealg.CountString", "internal/bytealg.IndexByteString", "internal/bytealg.IndexString"], unfollowed := true, recurses := true, named := ["unicode/utf8.first", "unicode/utf8.acceptRanges", "internal/bytealg.MaxLen"], apart := false, laid := [("unicode/utf8.acceptRanges", laid_unicode_utf8_acceptRanges), ("unicode/utf8.first", laid_unicode_utf8_first)] }
def LegalChecksSaid : Prop := legalChecksRow.holds Tryz.pinned (OpenSpec.ofChange legalChecksSpec)

/-- ITS FALSE NEIGHBOUR: 'it returns false'. Refute it at one input. -/
def legalChecksWrong : ChangeSpec := { name := "legalChecks", fn := fun _ => fun
  | [d] => { results := [.lit (.bool false)], args := [d] }
  | _ => none }
def LegalChecksWrongFalsely : Prop := legalChecksRow.holds Tryz.pinned (OpenSpec.ofChange legalChecksWrong)

/-- 'leadlinelaw06.LegalTexts': WHATEVER THE INPUT: true; the input reads as it did. -/
def legalTextsSpec : ChangeSpec := { name := "legalTexts", fn := fun _ => fun
  | [d] => { results := [.lit (.bool true)], args := [d] }
  | _ => none }
def legalTextsRow : OpenClaim := { program := "ytgdkaddhhpgeiaagreatdoor", sum := "de22bda3b987fa9b1a7595a8784d0c8e7a08775f7342101d768e20ff4153b632", func := "leadline/leadlinelaw06.LegalTexts", spec := "legalTexts", inPlace := ["internal/bytealg.CountString", "internal/bytealg.IndexByteString", "internal/bytealg.IndexString"], unfollowed := true, recurses := true, named := ["unicode/utf8.first", "unicode/utf8.acceptRanges", "internal/bytealg.MaxLen"], apart := false, laid := [("unicode/utf8.acceptRanges", laid_unicode_utf8_acceptRanges), ("unicode/utf8.first", laid_unicode_utf8_first)] }
def LegalTextsSaid : Prop := legalTextsRow.holds Tryz.pinned (OpenSpec.ofChange legalTextsSpec)

/-- ITS FALSE NEIGHBOUR: 'it returns false'. Refute it at one input. -/
def legalTextsWrong : ChangeSpec := { name := "legalTexts", fn := fun _ => fun
  | [d] => { results := [.lit (.bool false)], args := [d] }
  | _ => none }
def LegalTextsWrongFalsely : Prop := legalTextsRow.holds Tryz.pinned (OpenSpec.ofChange legalTextsWrong)

/-- 'leadlinelaw06.LegalTells': WHATEVER THE INPUT: true; the input reads as it did. -/
def legalTellsSpec : ChangeSpec := { name := "legalTells", fn := fun _ => fun
  | [d1, d2, d3] => { results := [.lit (.bool true)], args := [d1, d2, d3] }
  | _ => none }
def legalTellsRow : OpenClaim := { program := "ytgdkaddhhpgeiaagreatdoor", sum := "de22bda3b987fa9b1a7595a8784d0c8e7a08775f7342101d768e20ff4153b632", func := "leadline/leadlinelaw06.LegalTells", spec := "legalTells", inPlace := ["internal/bytealg.CountString", "internal/bytealg.IndexByteString", "internal/bytealg.IndexString"], unfollowed := true, recurses := true, named := ["unicode/utf8.first", "unicode/utf8.acceptRanges", "internal/bytealg.MaxLen"], apart := false, laid := [("unicode/utf8.acceptRanges", laid_unicode_utf8_acceptRanges), ("unicode/utf8.first", laid_unicode_utf8_first)] }
def LegalTellsSaid : Prop := legalTellsRow.holds Tryz.pinned (OpenSpec.ofChange legalTellsSpec)

/-- ITS FALSE NEIGHBOUR: 'it returns false'. Refute it at one input. -/
def legalTellsWrong : ChangeSpec := { name := "legalTells", fn := fun _ => fun
  | [d1, d2, d3] => { results := [.lit (.bool false)], args := [d1, d2, d3] }
  | _ => none }
def LegalTellsWrongFalsely : Prop := legalTellsRow.holds Tryz.pinned (OpenSpec.ofChange legalTellsWrong)

/-- 'leadlinelaw06.LegalNames': WHATEVER THE INPUT: true; the input reads as it did. -/
def legalNamesSpec : ChangeSpec := { name := "legalNames", fn := fun _ => fun
  | [d] => { results := [.lit (.bool true)], args := [d] }
  | _ => none }
def legalNamesRow : OpenClaim := { program := "ytgdkaddhhpgeiaagreatdoor", sum := "de22bda3b987fa9b1a7595a8784d0c8e7a08775f7342101d768e20ff4153b632", func := "leadline/leadlinelaw06.LegalNames", spec := "legalNames", inPlace := ["internal/bytealg.CountString", "internal/bytealg.IndexByteString", "internal/bytealg.IndexString"], unfollowed := true, recurses := true, named := ["unicode/utf8.first", "unicode/utf8.acceptRanges", "internal/bytealg.MaxLen"], apart := false, laid := [("unicode/utf8.acceptRanges", laid_unicode_utf8_acceptRanges), ("unicode/utf8.first", laid_unicode_utf8_first)] }
def LegalNamesSaid : Prop := legalNamesRow.holds Tryz.pinned (OpenSpec.ofChange legalNamesSpec)

/-- ITS FALSE NEIGHBOUR: 'it returns false'. Refute it at one input. -/
def legalNamesWrong : ChangeSpec := { name := "legalNames", fn := fun _ => fun
  | [d] => { results := [.lit (.bool false)], args := [d] }
  | _ => none }
def LegalNamesWrongFalsely : Prop := legalNamesRow.holds Tryz.pinned (OpenSpec.ofChange legalNamesWrong)

/-- 'leadlinelaw06.LegalLines': WHATEVER THE INPUT: true; the input reads as it did. -/
def legalLinesSpec : ChangeSpec := { name := "legalLines", fn := fun _ => fun
  | [d] => { results := [.lit (.bool true)], args := [d] }
  | _ => none }
def legalLinesRow : OpenClaim := { program := "ytgdkaddhhpgeiaagreatdoor", sum := "de22bda3b987fa9b1a7595a8784d0c8e7a08775f7342101d768e20ff4153b632", func := "leadline/leadlinelaw06.LegalLines", spec := "legalLines", inPlace := ["internal/bytealg.CountString", "internal/bytealg.IndexByteString", "internal/bytealg.IndexString"], unfollowed := true, recurses := true, named := ["unicode/utf8.first", "unicode/utf8.acceptRanges", "internal/bytealg.MaxLen"], apart := false, laid := [("unicode/utf8.acceptRanges", laid_unicode_utf8_acceptRanges), ("unicode/utf8.first", laid_unicode_utf8_first)] }
def LegalLinesSaid : Prop := legalLinesRow.holds Tryz.pinned (OpenSpec.ofChange legalLinesSpec)

/-- ITS FALSE NEIGHBOUR: 'it returns false'. Refute it at one input. -/
def legalLinesWrong : ChangeSpec := { name := "legalLines", fn := fun _ => fun
  | [d] => { results := [.lit (.bool false)], args := [d] }
  | _ => none }
def LegalLinesWrongFalsely : Prop := legalLinesRow.holds Tryz.pinned (OpenSpec.ofChange legalLinesWrong)

/-- 'leadlinelaw06.LegalAdds': WHATEVER THE INPUT: true; the input reads as it did. -/
def legalAddsSpec : ChangeSpec := { name := "legalAdds", fn := fun _ => fun
  | [d] => { results := [.lit (.bool true)], args := [d] }
  | _ => none }
def legalAddsRow : OpenClaim := { program := "ytgdkaddhhpgeiaagreatdoor", sum := "de22bda3b987fa9b1a7595a8784d0c8e7a08775f7342101d768e20ff4153b632", func := "leadline/leadlinelaw06.LegalAdds", spec := "legalAdds", inPlace := ["internal/bytealg.CountString", "internal/bytealg.IndexByteString", "internal/bytealg.IndexString"], unfollowed := true, recurses := true, named := ["unicode/utf8.first", "unicode/utf8.acceptRanges", "internal/bytealg.MaxLen"], apart := false, laid := [("unicode/utf8.acceptRanges", laid_unicode_utf8_acceptRanges), ("unicode/utf8.first", laid_unicode_utf8_first)] }
def LegalAddsSaid : Prop := legalAddsRow.holds Tryz.pinned (OpenSpec.ofChange legalAddsSpec)

/-- ITS FALSE NEIGHBOUR: 'it returns false'. Refute it at one input. -/
def legalAddsWrong : ChangeSpec := { name := "legalAdds", fn := fun _ => fun
  | [d] => { results := [.lit (.bool false)], args := [d] }
  | _ => none }
def LegalAddsWrongFalsely : Prop := legalAddsRow.holds Tryz.pinned (OpenSpec.ofChange legalAddsWrong)

/-- 'leadlinelaw07.BoundTells': WHATEVER THE INPUT: true; the input reads as it did. -/
def boundTellsSpec : ChangeSpec := { name := "boundTells", fn := fun _ => fun
  | [d1, d2, d3] => { results := [.lit (.bool true)], args := [d1, d2, d3] }
  | _ => none }
def boundTellsRow : OpenClaim := { program := "ytgdkaddhhpgeiaagreatdoor", sum := "de22bda3b987fa9b1a7595a8784d0c8e7a08775f7342101d768e20ff4153b632", func := "leadline/leadlinelaw07.BoundTells", spec := "boundTells", inPlace := ["internal/bytealg.IndexByteString", "internal/bytealg.IndexString", "internal/bytealg.CountString"], unfollowed := true, recurses := true, named := ["internal/bytealg.MaxLen", "unicode/utf8.first", "unicode/utf8.acceptRanges"], apart := false, laid := [("unicode/utf8.acceptRanges", laid_unicode_utf8_acceptRanges), ("unicode/utf8.first", laid_unicode_utf8_first)] }
def BoundTellsSaid : Prop := boundTellsRow.holds Tryz.pinned (OpenSpec.ofChange boundTellsSpec)

/-- ITS FALSE NEIGHBOUR: 'it returns false'. Refute it at one input. -/
def boundTellsWrong : ChangeSpec := { name := "boundTells", fn := fun _ => fun
  | [d1, d2, d3] => { results := [.lit (.bool false)], args := [d1, d2, d3] }
  | _ => none }
def BoundTellsWrongFalsely : Prop := boundTellsRow.holds Tryz.pinned (OpenSpec.ofChange boundTellsWrong)

/-- 'leadlinelaw07.BoundSums': WHATEVER THE INPUT: true; the input reads as it did. -/
def boundSumsSpec : ChangeSpec := { name := "boundSums", fn := fun _ => fun
  | [d] => { results := [.lit (.bool true)], args := [d] }
  | _ => none }
def boundSumsRow : OpenClaim := { program := "ytgdkaddhhpgeiaagreatdoor", sum := "de22bda3b987fa9b1a7595a8784d0c8e7a08775f7342101d768e20ff4153b632", func := "leadline/leadlinelaw07.BoundSums", spec := "boundSums", inPlace := ["internal/bytealg.IndexByteString", "internal/bytealg.IndexString", "internal/bytealg.CountString"], unfollowed := true, recurses := true, named := ["internal/bytealg.MaxLen", "unicode/utf8.first", "unicode/utf8.acceptRanges"], apart := false, laid := [("unicode/utf8.acceptRanges", laid_unicode_utf8_acceptRanges), ("unicode/utf8.first", laid_unicode_utf8_first)] }
def BoundSumsSaid : Prop := boundSumsRow.holds Tryz.pinned (OpenSpec.ofChange boundSumsSpec)

/-- ITS FALSE NEIGHBOUR: 'it returns false'. Refute it at one input. -/
def boundSumsWrong : ChangeSpec := { name := "boundSums", fn := fun _ => fun
  | [d] => { results := [.lit (.bool false)], args := [d] }
  | _ => none }
def BoundSumsWrongFalsely : Prop := boundSumsRow.holds Tryz.pinned (OpenSpec.ofChange boundSumsWrong)

/-- 'leadlinelaw07.BoundRuns': WHATEVER THE INPUT: true; the input reads as it did. -/
def boundRunsSpec : ChangeSpec := { name := "boundRuns", fn := fun _ => fun
  | [d1, d2] => { results := [.lit (.bool true)], args := [d1, d2] }
  | _ => none }
def boundRunsRow : OpenClaim := { program := "ytgdkaddhhpgeiaagreatdoor", sum := "de22bda3b987fa9b1a7595a8784d0c8e7a08775f7342101d768e20ff4153b632", func := "leadline/leadlinelaw07.BoundRuns", spec := "boundRuns", inPlace := ["internal/bytealg.IndexByteString", "internal/bytealg.IndexString", "internal/bytealg.CountString"], unfollowed := true, recurses := true, named := ["internal/bytealg.MaxLen", "unicode/utf8.first", "unicode/utf8.acceptRanges"], apart := false, laid := [("unicode/utf8.acceptRanges", laid_unicode_utf8_acceptRanges), ("unicode/utf8.first", laid_unicode_utf8_first)] }
def BoundRunsSaid : Prop := boundRunsRow.holds Tryz.pinned (OpenSpec.ofChange boundRunsSpec)

/-- ITS FALSE NEIGHBOUR: 'it returns false'. Refute it at one input. -/
def boundRunsWrong : ChangeSpec := { name := "boundRuns", fn := fun _ => fun
  | [d1, d2] => { results := [.lit (.bool false)], args := [d1, d2] }
  | _ => none }
def BoundRunsWrongFalsely : Prop := boundRunsRow.holds Tryz.pinned (OpenSpec.ofChange boundRunsWrong)

/-- 'leadlinelaw07.BoundMore': WHATEVER THE INPUT: true; the input reads as it did. -/
def boundMoreSpec : ChangeSpec := { name := "boundMore", fn := fun _ => fun
  | [d1, d2] => { results := [.lit (.bool true)], args := [d1, d2] }
  | _ => none }
def boundMoreRow : OpenClaim := { program := "ytgdkaddhhpgeiaagreatdoor", sum := "de22bda3b987fa9b1a7595a8784d0c8e7a08775f7342101d768e20ff4153b632", func := "leadline/leadlinelaw07.BoundMore", spec := "boundMore", inPlace := ["internal/bytealg.CountString", "internal/bytealg.IndexByteString", "internal/bytealg.IndexString"], unfollowed := true, recurses := true, named := ["unicode/utf8.first", "unicode/utf8.acceptRanges", "internal/bytealg.MaxLen"], apart := false, laid := [("unicode/utf8.acceptRanges", laid_unicode_utf8_acceptRanges), ("unicode/utf8.first", laid_unicode_utf8_first)] }
def BoundMoreSaid : Prop := boundMoreRow.holds Tryz.pinned (OpenSpec.ofChange boundMoreSpec)

/-- ITS FALSE NEIGHBOUR: 'it returns false'. Refute it at one input. -/
def boundMoreWrong : ChangeSpec := { name := "boundMore", fn := fun _ => fun
  | [d1, d2] => { results := [.lit (.bool false)], args := [d1, d2] }
  | _ => none }
def BoundMoreWrongFalsely : Prop := boundMoreRow.holds Tryz.pinned (OpenSpec.ofChange boundMoreWrong)

/-- 'leadlinelaw07.BoundJoins': WHATEVER THE INPUT: true; the input reads as it did. -/
def boundJoinsSpec : ChangeSpec := { name := "boundJoins", fn := fun _ => fun
  | [d1, d2, d3] => { results := [.lit (.bool true)], args := [d1, d2, d3] }
  | _ => none }
def boundJoinsRow : OpenClaim := { program := "ytgdkaddhhpgeiaagreatdoor", sum := "de22bda3b987fa9b1a7595a8784d0c8e7a08775f7342101d768e20ff4153b632", func := "leadline/leadlinelaw07.BoundJoins", spec := "boundJoins", inPlace := ["internal/bytealg.IndexByteString", "internal/bytealg.IndexString", "internal/bytealg.CountString"], unfollowed := true, recurses := true, named := ["internal/bytealg.MaxLen", "unicode/utf8.first", "unicode/utf8.acceptRanges"], apart := false, laid := [("unicode/utf8.acceptRanges", laid_unicode_utf8_acceptRanges), ("unicode/utf8.first", laid_unicode_utf8_first)] }
def BoundJoinsSaid : Prop := boundJoinsRow.holds Tryz.pinned (OpenSpec.ofChange boundJoinsSpec)

/-- ITS FALSE NEIGHBOUR: 'it returns false'. Refute it at one input. -/
def boundJoinsWrong : ChangeSpec := { name := "boundJoins", fn := fun _ => fun
  | [d1, d2, d3] => { results := [.lit (.bool false)], args := [d1, d2, d3] }
  | _ => none }
def BoundJoinsWrongFalsely : Prop := boundJoinsRow.holds Tryz.pinned (OpenSpec.ofChange boundJoinsWrong)

/-- 'leadlinelaw07.BoundFirst': WHATEVER THE INPUT: true; the input reads as it did. -/
def boundFirstSpec : ChangeSpec := { name := "boundFirst", fn := fun _ => fun
  | [d1, d2] => { results := [.lit (.bool true)], args := [d1, d2] }
  | _ => none }
def boundFirstRow : OpenClaim := { program := "ytgdkaddhhpgeiaagreatdoor", sum := "de22bda3b987fa9b1a7595a8784d0c8e7a08775f7342101d768e20ff4153b632", func := "leadline/leadlinelaw07.BoundFirst", spec := "boundFirst", inPlace := ["internal/bytealg.IndexByteString", "internal/bytealg.IndexString", "internal/bytealg.CountString"], unfollowed := true, recurses := true, named := ["internal/bytealg.MaxLen", "unicode/utf8.first", "unicode/utf8.acceptRanges"], apart := false, laid := [("unicode/utf8.acceptRanges", laid_unicode_utf8_acceptRanges), ("unicode/utf8.first", laid_unicode_utf8_first)] }
def BoundFirstSaid : Prop := boundFirstRow.holds Tryz.pinned (OpenSpec.ofChange boundFirstSpec)

/-- ITS FALSE NEIGHBOUR: 'it returns false'. Refute it at one input. -/
def boundFirstWrong : ChangeSpec := { name := "boundFirst", fn := fun _ => fun
  | [d1, d2] => { results := [.lit (.bool false)], args := [d1, d2] }
  | _ => none }
def BoundFirstWrongFalsely : Prop := boundFirstRow.holds Tryz.pinned (OpenSpec.ofChange boundFirstWrong)

/- THE SECOND FORM. 'bulk': how many values and letters a reading holds, each counted each time it is reached (what is shared counts as often as it is met; a slice's spare places count too). A statement '..UptoSaid' is the law's where the arguments, and the package variables that the reading takes, are together of bulk at most 1048576: NARROWER than '..Said'. Prove '..Said' where nothing that the law and all that it calls make is longer than what came in: it says more and counts as full. Else prove '..UptoSaid'. A law counts once. -/
mutual
def uptoBulk {H : Type} : DataW H → Nat
  | .lit (.string bytes) => bytes.length + 1
  | .lit _ => 1
  | .nil => 1
  | .ptr d => uptoBulk d + 1
  | .slice elems spare => uptoBulkAll elems + uptoBulkAll spare + 1
  | .agg parts => uptoBulkAll parts + 1
  | .iface _ d => uptoBulk d + 1
  | .map entries => uptoBulkEntries entries + 1
  | .held _ => 1
def uptoBulkAll {H : Type} : List (DataW H) → Nat
  | [] => 0
  | d :: r => uptoBulk d + uptoBulkAll r
def uptoBulkEntries {H : Type} : List (Lit × DataW H) → Nat
  | [] => 0
  | x :: r => uptoBulkEntry x + uptoBulkEntries r
def uptoBulkEntry {H : Type} : Lit × DataW H → Nat
  | (.string bytes, d) => bytes.length + uptoBulk d + 1
  | (_, d) => uptoBulk d + 1
 end
def uptoSmall : (H : Type) → List (DataW H) → Bool := fun _ ds => decide (uptoBulkAll ds ≤ 1048576)
def OpenSpec.upto (s : _root_.Go.ChangeSpec) : _root_.Go.OpenSpec := { _root_.Go.OpenSpec.ofChange s with cond := some uptoSmall }

/-- 'leadlinelaw06.LegalChecks', WHERE WHAT IT READS IS OF BULK AT MOST 1048576: true; the input reads as it did. -/
def legalChecksUptoRow : OpenClaim := { program := "ytgdkaddhhpgeiaagreatdoor", sum := "de22bda3b987fa9b1a7595a8784d0c8e7a08775f7342101d768e20ff4153b632", func := "leadline/leadlinelaw06.LegalChecks", spec := "legalChecks", inPlace := ["internal/bytealg.CountString", "internal/bytealg.IndexByteString", "internal/bytealg.IndexString"], unfollowed := true, recurses := true, named := ["unicode/utf8.first", "unicode/utf8.acceptRanges", "internal/bytealg.MaxLen"], apart := false, laid := [("unicode/utf8.acceptRanges", laid_unicode_utf8_acceptRanges), ("unicode/utf8.first", laid_unicode_utf8_first)], narrowed := true }
def LegalChecksUptoSaid : Prop := legalChecksUptoRow.holds Tryz.pinned (OpenSpec.upto legalChecksSpec)

/-- 'leadlinelaw06.LegalTexts', WHERE WHAT IT READS IS OF BULK AT MOST 1048576: true; the input reads as it did. -/
def legalTextsUptoRow : OpenClaim := { program := "ytgdkaddhhpgeiaagreatdoor", sum := "de22bda3b987fa9b1a7595a8784d0c8e7a08775f7342101d768e20ff4153b632", func := "leadline/leadlinelaw06.LegalTexts", spec := "legalTexts", inPlace := ["internal/bytealg.CountString", "internal/bytealg.IndexByteString", "internal/bytealg.IndexString"], unfollowed := true, recurses := true, named := ["unicode/utf8.first", "unicode/utf8.acceptRanges", "internal/bytealg.MaxLen"], apart := false, laid := [("unicode/utf8.acceptRanges", laid_unicode_utf8_acceptRanges), ("unicode/utf8.first", laid_unicode_utf8_first)], narrowed := true }
def LegalTextsUptoSaid : Prop := legalTextsUptoRow.holds Tryz.pinned (OpenSpec.upto legalTextsSpec)

/-- 'leadlinelaw06.LegalTells', WHERE WHAT IT READS IS OF BULK AT MOST 1048576: true; the input reads as it did. -/
def legalTellsUptoRow : OpenClaim := { program := "ytgdkaddhhpgeiaagreatdoor", sum := "de22bda3b987fa9b1a7595a8784d0c8e7a08775f7342101d768e20ff4153b632", func := "leadline/leadlinelaw06.LegalTells", spec := "legalTells", inPlace := ["internal/bytealg.CountString", "internal/bytealg.IndexByteString", "internal/bytealg.IndexString"], unfollowed := true, recurses := true, named := ["unicode/utf8.first", "unicode/utf8.acceptRanges", "internal/bytealg.MaxLen"], apart := false, laid := [("unicode/utf8.acceptRanges", laid_unicode_utf8_acceptRanges), ("unicode/utf8.first", laid_unicode_utf8_first)], narrowed := true }
def LegalTellsUptoSaid : Prop := legalTellsUptoRow.holds Tryz.pinned (OpenSpec.upto legalTellsSpec)

/-- 'leadlinelaw06.LegalNames', WHERE WHAT IT READS IS OF BULK AT MOST 1048576: true; the input reads as it did. -/
def legalNamesUptoRow : OpenClaim := { program := "ytgdkaddhhpgeiaagreatdoor", sum := "de22bda3b987fa9b1a7595a8784d0c8e7a08775f7342101d768e20ff4153b632", func := "leadline/leadlinelaw06.LegalNames", spec := "legalNames", inPlace := ["internal/bytealg.CountString", "internal/bytealg.IndexByteString", "internal/bytealg.IndexString"], unfollowed := true, recurses := true, named := ["unicode/utf8.first", "unicode/utf8.acceptRanges", "internal/bytealg.MaxLen"], apart := false, laid := [("unicode/utf8.acceptRanges", laid_unicode_utf8_acceptRanges), ("unicode/utf8.first", laid_unicode_utf8_first)], narrowed := true }
def LegalNamesUptoSaid : Prop := legalNamesUptoRow.holds Tryz.pinned (OpenSpec.upto legalNamesSpec)

/-- 'leadlinelaw06.LegalLines', WHERE WHAT IT READS IS OF BULK AT MOST 1048576: true; the input reads as it did. -/
def legalLinesUptoRow : OpenClaim := { program := "ytgdkaddhhpgeiaagreatdoor", sum := "de22bda3b987fa9b1a7595a8784d0c8e7a08775f7342101d768e20ff4153b632", func := "leadline/leadlinelaw06.LegalLines", spec := "legalLines", inPlace := ["internal/bytealg.CountString", "internal/bytealg.IndexByteString", "internal/bytealg.IndexString"], unfollowed := true, recurses := true, named := ["unicode/utf8.first", "unicode/utf8.acceptRanges", "internal/bytealg.MaxLen"], apart := false, laid := [("unicode/utf8.acceptRanges", laid_unicode_utf8_acceptRanges), ("unicode/utf8.first", laid_unicode_utf8_first)], narrowed := true }
def LegalLinesUptoSaid : Prop := legalLinesUptoRow.holds Tryz.pinned (OpenSpec.upto legalLinesSpec)

/-- 'leadlinelaw06.LegalAdds', WHERE WHAT IT READS IS OF BULK AT MOST 1048576: true; the input reads as it did. -/
def legalAddsUptoRow : OpenClaim := { program := "ytgdkaddhhpgeiaagreatdoor", sum := "de22bda3b987fa9b1a7595a8784d0c8e7a08775f7342101d768e20ff4153b632", func := "leadline/leadlinelaw06.LegalAdds", spec := "legalAdds", inPlace := ["internal/bytealg.CountString", "internal/bytealg.IndexByteString", "internal/bytealg.IndexString"], unfollowed := true, recurses := true, named := ["unicode/utf8.first", "unicode/utf8.acceptRanges", "internal/bytealg.MaxLen"], apart := false, laid := [("unicode/utf8.acceptRanges", laid_unicode_utf8_acceptRanges), ("unicode/utf8.first", laid_unicode_utf8_first)], narrowed := true }
def LegalAddsUptoSaid : Prop := legalAddsUptoRow.holds Tryz.pinned (OpenSpec.upto legalAddsSpec)

/-- 'leadlinelaw07.BoundTells', WHERE WHAT IT READS IS OF BULK AT MOST 1048576: true; the input reads as it did. -/
def boundTellsUptoRow : OpenClaim := { program := "ytgdkaddhhpgeiaagreatdoor", sum := "de22bda3b987fa9b1a7595a8784d0c8e7a08775f7342101d768e20ff4153b632", func := "leadline/leadlinelaw07.BoundTells", spec := "boundTells", inPlace := ["internal/bytealg.IndexByteString", "internal/bytealg.IndexString", "internal/bytealg.CountString"], unfollowed := true, recurses := true, named := ["internal/bytealg.MaxLen", "unicode/utf8.first", "unicode/utf8.acceptRanges"], apart := false, laid := [("unicode/utf8.acceptRanges", laid_unicode_utf8_acceptRanges), ("unicode/utf8.first", laid_unicode_utf8_first)], narrowed := true }
def BoundTellsUptoSaid : Prop := boundTellsUptoRow.holds Tryz.pinned (OpenSpec.upto boundTellsSpec)

/-- 'leadlinelaw07.BoundSums', WHERE WHAT IT READS IS OF BULK AT MOST 1048576: true; the input reads as it did. -/
def boundSumsUptoRow : OpenClaim := { program := "ytgdkaddhhpgeiaagreatdoor", sum := "de22bda3b987fa9b1a7595a8784d0c8e7a08775f7342101d768e20ff4153b632", func := "leadline/leadlinelaw07.BoundSums", spec := "boundSums", inPlace := ["internal/bytealg.IndexByteString", "internal/bytealg.IndexString", "internal/bytealg.CountString"], unfollowed := true, recurses := true, named := ["internal/bytealg.MaxLen", "unicode/utf8.first", "unicode/utf8.acceptRanges"], apart := false, laid := [("unicode/utf8.acceptRanges", laid_unicode_utf8_acceptRanges), ("unicode/utf8.first", laid_unicode_utf8_first)], narrowed := true }
def BoundSumsUptoSaid : Prop := boundSumsUptoRow.holds Tryz.pinned (OpenSpec.upto boundSumsSpec)

/-- 'leadlinelaw07.BoundRuns', WHERE WHAT IT READS IS OF BULK AT MOST 1048576: true; the input reads as it did. -/
def boundRunsUptoRow : OpenClaim := { program := "ytgdkaddhhpgeiaagreatdoor", sum := "de22bda3b987fa9b1a7595a8784d0c8e7a08775f7342101d768e20ff4153b632", func := "leadline/leadlinelaw07.BoundRuns", spec := "boundRuns", inPlace := ["internal/bytealg.IndexByteString", "internal/bytealg.IndexString", "internal/bytealg.CountString"], unfollowed := true, recurses := true, named := ["internal/bytealg.MaxLen", "unicode/utf8.first", "unicode/utf8.acceptRanges"], apart := false, laid := [("unicode/utf8.acceptRanges", laid_unicode_utf8_acceptRanges), ("unicode/utf8.first", laid_unicode_utf8_first)], narrowed := true }
def BoundRunsUptoSaid : Prop := boundRunsUptoRow.holds Tryz.pinned (OpenSpec.upto boundRunsSpec)

/-- 'leadlinelaw07.BoundMore', WHERE WHAT IT READS IS OF BULK AT MOST 1048576: true; the input reads as it did. -/
def boundMoreUptoRow : OpenClaim := { program := "ytgdkaddhhpgeiaagreatdoor", sum := "de22bda3b987fa9b1a7595a8784d0c8e7a08775f7342101d768e20ff4153b632", func := "leadline/leadlinelaw07.BoundMore", spec := "boundMore", inPlace := ["internal/bytealg.CountString", "internal/bytealg.IndexByteString", "internal/bytealg.IndexString"], unfollowed := true, recurses := true, named := ["unicode/utf8.first", "unicode/utf8.acceptRanges", "internal/bytealg.MaxLen"], apart := false, laid := [("unicode/utf8.acceptRanges", laid_unicode_utf8_acceptRanges), ("unicode/utf8.first", laid_unicode_utf8_first)], narrowed := true }
def BoundMoreUptoSaid : Prop := boundMoreUptoRow.holds Tryz.pinned (OpenSpec.upto boundMoreSpec)

/-- 'leadlinelaw07.BoundJoins', WHERE WHAT IT READS IS OF BULK AT MOST 1048576: true; the input reads as it did. -/
def boundJoinsUptoRow : OpenClaim := { program := "ytgdkaddhhpgeiaagreatdoor", sum := "de22bda3b987fa9b1a7595a8784d0c8e7a08775f7342101d768e20ff4153b632", func := "leadline/leadlinelaw07.BoundJoins", spec := "boundJoins", inPlace := ["internal/bytealg.IndexByteString", "internal/bytealg.IndexString", "internal/bytealg.CountString"], unfollowed := true, recurses := true, named := ["internal/bytealg.MaxLen", "unicode/utf8.first", "unicode/utf8.acceptRanges"], apart := false, laid := [("unicode/utf8.acceptRanges", laid_unicode_utf8_acceptRanges), ("unicode/utf8.first", laid_unicode_utf8_first)], narrowed := true }
def BoundJoinsUptoSaid : Prop := boundJoinsUptoRow.holds Tryz.pinned (OpenSpec.upto boundJoinsSpec)

/-- 'leadlinelaw07.BoundFirst', WHERE WHAT IT READS IS OF BULK AT MOST 1048576: true; the input reads as it did. -/
def boundFirstUptoRow : OpenClaim := { program := "ytgdkaddhhpgeiaagreatdoor", sum := "de22bda3b987fa9b1a7595a8784d0c8e7a08775f7342101d768e20ff4153b632", func := "leadline/leadlinelaw07.BoundFirst", spec := "boundFirst", inPlace := ["internal/bytealg.IndexByteString", "internal/bytealg.IndexString", "internal/bytealg.CountString"], unfollowed := true, recurses := true, named := ["internal/bytealg.MaxLen", "unicode/utf8.first", "unicode/utf8.acceptRanges"], apart := false, laid := [("unicode/utf8.acceptRanges", laid_unicode_utf8_acceptRanges), ("unicode/utf8.first", laid_unicode_utf8_first)], narrowed := true }
def BoundFirstUptoSaid : Prop := boundFirstUptoRow.holds Tryz.pinned (OpenSpec.upto boundFirstSpec)

end Rows
end Go.Proofs.YtgdkaddhhpgeiaaGreatDoor
