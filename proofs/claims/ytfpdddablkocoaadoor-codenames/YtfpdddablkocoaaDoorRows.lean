/-
  NARROWER THAN 'FOR EVERY INPUT', by the rows' own cells (each row's printed sentence says how): CodeMakes: laid · CodeValues: laid · CodeSame: laid · CodeJoins: laid · CodeNames: laid · CodeParts: laid.
  DERIVED. THE GIVEN ROWS OF THIS SEAT. 6 by the template 'for every input the law returns true; each argument reads behind the call as it read before'; 0 by the template 'total and deterministic' (their statements: YtfpdddablkocoaaDoorTotals.lean).
  GIVEN WITH THE SEED: the statements are not yours to turn. If you find one false, say at which input.
  Laid BY PROGRAM, IN A SANDBOX (cutbox-rows.mjs): the forced cells as the released guide's own fill.sh prints them over the translation cabf4389d6fa5328… (all of the seat's roots in one cut). By AI agents, Wed Nov 11 2026. No macro, syntax, notation, axiom, sorry.
-/
import Derived.Test.YtfpdddablkocoaaDoorChecked
import GoSem.PinnedTables
import GoSem.Claim
import GoSem.ClaimJoined
import GoSem.ClaimMapViews
import Derived.JoinedTies
import Derived.KernelRfl
namespace Go.Proofs.YtfpdddablkocoaaDoor
/- THE CELL 'sum', in the pinned program and in every row, IS THE sha256 OF THE DUMP (.gsa) THAT YtfpdddablkocoaaDoorProg.lean LOADS. Nothing in Lean hashes anything: it is a label: what it is worth is what the hold of that sum in a sandbox is worth. -/
noncomputable def Tryd.pinned : Pinned := { name := "ytfpdddablkocoaadoor", sum := "cabf4389d6fa53288f69558466f5caff85c3dd4be7f1a54f603bc13a8d3be88f", checked := Tryd.checked }
namespace Rows
def none {H : Type} : Left H := { results := [], args := [] }

/- WHAT THE LISTED PACKAGE-LEVEL VARIABLES READ AS WHEN THE CALL BEGINS. Each datum BY PROGRAM (the guide's laid-datum.mjs) off the statement by which the dump's own 'gosem.cut.vars' lays the variable. In a bare row this is a premise. The card (YtfpdddablkocoaaDoorCards.lean) ties it to the program's text. -/
def laid_unicode_utf8_acceptRanges {H : Type} : DataW H := .agg [.agg [.lit (.int .u8 128), .lit (.int .u8 191)], .agg [.lit (.int .u8 160), .lit (.int .u8 191)], .agg [.lit (.int .u8 128), .lit (.int .u8 159)], .agg [.lit (.int .u8 144), .lit (.int .u8 191)], .agg [.lit (.int .u8 128), .lit (.int .u8 143)], .agg [.lit (.int .u8 0), .lit (.int .u8 0)], .agg [.lit (.int .u8 0), .lit (.int .u8 0)], .agg [.lit (.int .u8 0), .lit (.int .u8 0)], .agg [.lit (.int .u8 0), .lit (.int .u8 0)], .agg [.lit (.int .u8 0), .lit (.int .u8 0)], .agg [.lit (.int .u8 0), .lit (.int .u8 0)], .agg [.lit (.int .u8 0), .lit (.int .u8 0)], .agg [.lit (.int .u8 0), .lit (.int .u8 0)], .agg [.lit (.int .u8 0), .lit (.int .u8 0)], .agg [.lit (.int .u8 0), .lit (.int .u8 0)], .agg [.lit (.int .u8 0), .lit (.int .u8 0)]]
/-- One of Go's own tables, pinned by name: the form's constant. -/
def laid_unicode_utf8_first : DataW Unit := Go.Pinned.utf8First

/-- 'leadlinelaw08.CodeMakes': WHATEVER THE INPUT: true; the input reads as it did. -/
def codeMakesSpec : ChangeSpec := { name := "codeMakes", fn := fun _ => fun
  | [d1, d2] => { results := [.lit (.bool true)], args := [d1, d2] }
  | _ => none }
def codeMakesRow : OpenClaim := { program := "ytfpdddablkocoaadoor", sum := "cabf4389d6fa53288f69558466f5caff85c3dd4be7f1a54f603bc13a8d3be88f", func := "leadline/leadlinelaw08.CodeMakes", spec := "codeMakes", inPlace := ["internal/bytealg.CountString", "internal/bytealg.IndexByteString", "internal/bytealg.IndexString"], unfollowed := true, recurses := true, named := ["unicode/utf8.first", "unicode/utf8.acceptRanges", "internal/bytealg.MaxLen"], apart := false, laid := [("unicode/utf8.acceptRanges", laid_unicode_utf8_acceptRanges), ("unicode/utf8.first", laid_unicode_utf8_first)] }
def CodeMakesSaid : Prop := codeMakesRow.holds Tryd.pinned (OpenSpec.ofChange codeMakesSpec)

/-- ITS FALSE NEIGHBOUR: 'it returns false'. Refute it at one input. -/
def codeMakesWrong : ChangeSpec := { name := "codeMakes", fn := fun _ => fun
  | [d1, d2] => { results := [.lit (.bool false)], args := [d1, d2] }
  | _ => none }
def CodeMakesWrongFalsely : Prop := codeMakesRow.holds Tryd.pinned (OpenSpec.ofChange codeMakesWrong)

/-- 'leadlinelaw08.CodeValues': WHATEVER THE INPUT: true; the input reads as it did. -/
def codeValuesSpec : ChangeSpec := { name := "codeValues", fn := fun _ => fun
  | [d1, d2, d3] => { results := [.lit (.bool true)], args := [d1, d2, d3] }
  | _ => none }
def codeValuesRow : OpenClaim := { program := "ytfpdddablkocoaadoor", sum := "cabf4389d6fa53288f69558466f5caff85c3dd4be7f1a54f603bc13a8d3be88f", func := "leadline/leadlinelaw08.CodeValues", spec := "codeValues", inPlace := ["internal/bytealg.CountString", "internal/bytealg.IndexByteString", "internal/bytealg.IndexString"], unfollowed := true, recurses := true, named := ["unicode/utf8.first", "unicode/utf8.acceptRanges", "internal/bytealg.MaxLen"], apart := false, laid := [("unicode/utf8.acceptRanges", laid_unicode_utf8_acceptRanges), ("unicode/utf8.first", laid_unicode_utf8_first)] }
def CodeValuesSaid : Prop := codeValuesRow.holds Tryd.pinned (OpenSpec.ofChange codeValuesSpec)

/-- ITS FALSE NEIGHBOUR: 'it returns false'. Refute it at one input. -/
def codeValuesWrong : ChangeSpec := { name := "codeValues", fn := fun _ => fun
  | [d1, d2, d3] => { results := [.lit (.bool false)], args := [d1, d2, d3] }
  | _ => none }
def CodeValuesWrongFalsely : Prop := codeValuesRow.holds Tryd.pinned (OpenSpec.ofChange codeValuesWrong)

/-- 'leadlinelaw08.CodeSame': WHATEVER THE INPUT: true; the input reads as it did. -/
def codeSameSpec : ChangeSpec := { name := "codeSame", fn := fun _ => fun
  | [d1, d2, d3] => { results := [.lit (.bool true)], args := [d1, d2, d3] }
  | _ => none }
def codeSameRow : OpenClaim := { program := "ytfpdddablkocoaadoor", sum := "cabf4389d6fa53288f69558466f5caff85c3dd4be7f1a54f603bc13a8d3be88f", func := "leadline/leadlinelaw08.CodeSame", spec := "codeSame", inPlace := ["internal/bytealg.CountString", "internal/bytealg.IndexByteString", "internal/bytealg.IndexString"], unfollowed := true, recurses := true, named := ["unicode/utf8.first", "unicode/utf8.acceptRanges", "internal/bytealg.MaxLen"], apart := false, laid := [("unicode/utf8.acceptRanges", laid_unicode_utf8_acceptRanges), ("unicode/utf8.first", laid_unicode_utf8_first)] }
def CodeSameSaid : Prop := codeSameRow.holds Tryd.pinned (OpenSpec.ofChange codeSameSpec)

/-- ITS FALSE NEIGHBOUR: 'it returns false'. Refute it at one input. -/
def codeSameWrong : ChangeSpec := { name := "codeSame", fn := fun _ => fun
  | [d1, d2, d3] => { results := [.lit (.bool false)], args := [d1, d2, d3] }
  | _ => none }
def CodeSameWrongFalsely : Prop := codeSameRow.holds Tryd.pinned (OpenSpec.ofChange codeSameWrong)

/-- 'leadlinelaw08.CodeJoins': WHATEVER THE INPUT: true; the input reads as it did. -/
def codeJoinsSpec : ChangeSpec := { name := "codeJoins", fn := fun _ => fun
  | [d1, d2, d3] => { results := [.lit (.bool true)], args := [d1, d2, d3] }
  | _ => none }
def codeJoinsRow : OpenClaim := { program := "ytfpdddablkocoaadoor", sum := "cabf4389d6fa53288f69558466f5caff85c3dd4be7f1a54f603bc13a8d3be88f", func := "leadline/leadlinelaw08.CodeJoins", spec := "codeJoins", inPlace := ["internal/bytealg.CountString", "internal/bytealg.IndexByteString", "internal/bytealg.IndexString"], unfollowed := true, recurses := true, named := ["unicode/utf8.first", "unicode/utf8.acceptRanges", "internal/bytealg.MaxLen"], apart := false, laid := [("unicode/utf8.acceptRanges", laid_unicode_utf8_acceptRanges), ("unicode/utf8.first", laid_unicode_utf8_first)] }
def CodeJoinsSaid : Prop := codeJoinsRow.holds Tryd.pinned (OpenSpec.ofChange codeJoinsSpec)

/-- ITS FALSE NEIGHBOUR: 'it returns false'. Refute it at one input. -/
def codeJoinsWrong : ChangeSpec := { name := "codeJoins", fn := fun _ => fun
  | [d1, d2, d3] => { results := [.lit (.bool false)], args := [d1, d2, d3] }
  | _ => none }
def CodeJoinsWrongFalsely : Prop := codeJoinsRow.holds Tryd.pinned (OpenSpec.ofChange codeJoinsWrong)

/-- 'leadlinelaw08.CodeNames': WHATEVER THE INPUT: true; the input reads as it did. -/
def codeNamesSpec : ChangeSpec := { name := "codeNames", fn := fun _ => fun
  | [d1, d2] => { results := [.lit (.bool true)], args := [d1, d2] }
  | _ => none }
def codeNamesRow : OpenClaim := { program := "ytfpdddablkocoaadoor", sum := "cabf4389d6fa53288f69558466f5caff85c3dd4be7f1a54f603bc13a8d3be88f", func := "leadline/leadlinelaw08.CodeNames", spec := "codeNames", inPlace := ["internal/bytealg.CountString", "internal/bytealg.IndexByteString", "internal/bytealg.IndexString"], unfollowed := true, recurses := true, named := ["unicode/utf8.first", "unicode/utf8.acceptRanges", "internal/bytealg.MaxLen"], apart := false, laid := [("unicode/utf8.acceptRanges", laid_unicode_utf8_acceptRanges), ("unicode/utf8.first", laid_unicode_utf8_first)] }
def CodeNamesSaid : Prop := codeNamesRow.holds Tryd.pinned (OpenSpec.ofChange codeNamesSpec)

/-- ITS FALSE NEIGHBOUR: 'it returns false'. Refute it at one input. -/
def codeNamesWrong : ChangeSpec := { name := "codeNames", fn := fun _ => fun
  | [d1, d2] => { results := [.lit (.bool false)], args := [d1, d2] }
  | _ => none }
def CodeNamesWrongFalsely : Prop := codeNamesRow.holds Tryd.pinned (OpenSpec.ofChange codeNamesWrong)

/-- 'leadlinelaw08.CodeParts': WHATEVER THE INPUT: true; the input reads as it did. -/
def codePartsSpec : ChangeSpec := { name := "codeParts", fn := fun _ => fun
  | [d1, d2] => { results := [.lit (.bool true)], args := [d1, d2] }
  | _ => none }
def codePartsRow : OpenClaim := { program := "ytfpdddablkocoaadoor", sum := "cabf4389d6fa53288f69558466f5caff85c3dd4be7f1a54f603bc13a8d3be88f", func := "leadline/leadlinelaw08.CodeParts", spec := "codeParts", inPlace := ["internal/bytealg.CountString", "internal/bytealg.IndexByteString", "internal/bytealg.IndexString"], unfollowed := true, recurses := true, named := ["unicode/utf8.first", "unicode/utf8.acceptRanges", "internal/bytealg.MaxLen"], apart := false, laid := [("unicode/utf8.acceptRanges", laid_unicode_utf8_acceptRanges), ("unicode/utf8.first", laid_unicode_utf8_first)] }
def CodePartsSaid : Prop := codePartsRow.holds Tryd.pinned (OpenSpec.ofChange codePartsSpec)

/-- ITS FALSE NEIGHBOUR: 'it returns false'. Refute it at one input. -/
def codePartsWrong : ChangeSpec := { name := "codeParts", fn := fun _ => fun
  | [d1, d2] => { results := [.lit (.bool false)], args := [d1, d2] }
  | _ => none }
def CodePartsWrongFalsely : Prop := codePartsRow.holds Tryd.pinned (OpenSpec.ofChange codePartsWrong)

/- THE SECOND FORM. 'bulk': how many values and letters a reading holds, each counted each time it is reached (what is shared counts as often as it is met; a slice's spare places count too). A statement '..UptoSaid' is the law's where the arguments, and the package variables that the reading takes, are together of bulk at most 1048576: NARROWER than '..Said'. Prove '..Said' where nothing that the law and all that it calls make is longer than what came in: it says more and counts as full. Else prove '..UptoSaid'. A law counts once. -/
mutual
def uptoBulk {H : Type} : DataW H → Nat
  | .lit (.string bytes) => bytes.length + 1
  | .lit _ => 1
  | .nil => 1
  | .ptr d => uptoBulk d + 1
  | .slice elems spare => uptoBulkAll elems + uptoBulkAll spare + 1
  | .agg parts => uptoBulkAll parts + 1
  | .iface _ d => uptoBulk d + 1
  | .map entries => uptoBulkEntries entries + 1
  | .held _ => 1
def uptoBulkAll {H : Type} : List (DataW H) → Nat
  | [] => 0
  | d :: r => uptoBulk d + uptoBulkAll r
def uptoBulkEntries {H : Type} : List (Lit × DataW H) → Nat
  | [] => 0
  | x :: r => uptoBulkEntry x + uptoBulkEntries r
def uptoBulkEntry {H : Type} : Lit × DataW H → Nat
  | (.string bytes, d) => bytes.length + uptoBulk d + 1
  | (_, d) => uptoBulk d + 1
 end
def uptoSmall : (H : Type) → List (DataW H) → Bool := fun _ ds => decide (uptoBulkAll ds ≤ 1048576)
def OpenSpec.upto (s : _root_.Go.ChangeSpec) : _root_.Go.OpenSpec := { _root_.Go.OpenSpec.ofChange s with cond := some uptoSmall }

/-- 'leadlinelaw08.CodeMakes', WHERE WHAT IT READS IS OF BULK AT MOST 1048576: true; the input reads as it did. -/
def codeMakesUptoRow : OpenClaim := { program := "ytfpdddablkocoaadoor", sum := "cabf4389d6fa53288f69558466f5caff85c3dd4be7f1a54f603bc13a8d3be88f", func := "leadline/leadlinelaw08.CodeMakes", spec := "codeMakes", inPlace := ["internal/bytealg.CountString", "internal/bytealg.IndexByteString", "internal/bytealg.IndexString"], unfollowed := true, recurses := true, named := ["unicode/utf8.first", "unicode/utf8.acceptRanges", "internal/bytealg.MaxLen"], apart := false, laid := [("unicode/utf8.acceptRanges", laid_unicode_utf8_acceptRanges), ("unicode/utf8.first", laid_unicode_utf8_first)], narrowed := true }
def CodeMakesUptoSaid : Prop := codeMakesUptoRow.holds Tryd.pinned (OpenSpec.upto codeMakesSpec)

/-- 'leadlinelaw08.CodeValues', WHERE WHAT IT READS IS OF BULK AT MOST 1048576: true; the input reads as it did. -/
def codeValuesUptoRow : OpenClaim := { program := "ytfpdddablkocoaadoor", sum := "cabf4389d6fa53288f69558466f5caff85c3dd4be7f1a54f603bc13a8d3be88f", func := "leadline/leadlinelaw08.CodeValues", spec := "codeValues", inPlace := ["internal/bytealg.CountString", "internal/bytealg.IndexByteString", "internal/bytealg.IndexString"], unfollowed := true, recurses := true, named := ["unicode/utf8.first", "unicode/utf8.acceptRanges", "internal/bytealg.MaxLen"], apart := false, laid := [("unicode/utf8.acceptRanges", laid_unicode_utf8_acceptRanges), ("unicode/utf8.first", laid_unicode_utf8_first)], narrowed := true }
def CodeValuesUptoSaid : Prop := codeValuesUptoRow.holds Tryd.pinned (OpenSpec.upto codeValuesSpec)

/-- 'leadlinelaw08.CodeSame', WHERE WHAT IT READS IS OF BULK AT MOST 1048576: true; the input reads as it did. -/
def codeSameUptoRow : OpenClaim := { program := "ytfpdddablkocoaadoor", sum := "cabf4389d6fa53288f69558466f5caff85c3dd4be7f1a54f603bc13a8d3be88f", func := "leadline/leadlinelaw08.CodeSame", spec := "codeSame", inPlace := ["internal/bytealg.CountString", "internal/bytealg.IndexByteString", "internal/bytealg.IndexString"], unfollowed := true, recurses := true, named := ["unicode/utf8.first", "unicode/utf8.acceptRanges", "internal/bytealg.MaxLen"], apart := false, laid := [("unicode/utf8.acceptRanges", laid_unicode_utf8_acceptRanges), ("unicode/utf8.first", laid_unicode_utf8_first)], narrowed := true }
def CodeSameUptoSaid : Prop := codeSameUptoRow.holds Tryd.pinned (OpenSpec.upto codeSameSpec)

/-- 'leadlinelaw08.CodeJoins', WHERE WHAT IT READS IS OF BULK AT MOST 1048576: true; the input reads as it did. -/
def codeJoinsUptoRow : OpenClaim := { program := "ytfpdddablkocoaadoor", sum := "cabf4389d6fa53288f69558466f5caff85c3dd4be7f1a54f603bc13a8d3be88f", func := "leadline/leadlinelaw08.CodeJoins", spec := "codeJoins", inPlace := ["internal/bytealg.CountString", "internal/bytealg.IndexByteString", "internal/bytealg.IndexString"], unfollowed := true, recurses := true, named := ["unicode/utf8.first", "unicode/utf8.acceptRanges", "internal/bytealg.MaxLen"], apart := false, laid := [("unicode/utf8.acceptRanges", laid_unicode_utf8_acceptRanges), ("unicode/utf8.first", laid_unicode_utf8_first)], narrowed := true }
def CodeJoinsUptoSaid : Prop := codeJoinsUptoRow.holds Tryd.pinned (OpenSpec.upto codeJoinsSpec)

/-- 'leadlinelaw08.CodeNames', WHERE WHAT IT READS IS OF BULK AT MOST 1048576: true; the input reads as it did. -/
def codeNamesUptoRow : OpenClaim := { program := "ytfpdddablkocoaadoor", sum := "cabf4389d6fa53288f69558466f5caff85c3dd4be7f1a54f603bc13a8d3be88f", func := "leadline/leadlinelaw08.CodeNames", spec := "codeNames", inPlace := ["internal/bytealg.CountString", "internal/bytealg.IndexByteString", "internal/bytealg.IndexString"], unfollowed := true, recurses := true, named := ["unicode/utf8.first", "unicode/utf8.acceptRanges", "internal/bytealg.MaxLen"], apart := false, laid := [("unicode/utf8.acceptRanges", laid_unicode_utf8_acceptRanges), ("unicode/utf8.first", laid_unicode_utf8_first)], narrowed := true }
def CodeNamesUptoSaid : Prop := codeNamesUptoRow.holds Tryd.pinned (OpenSpec.upto codeNamesSpec)

/-- 'leadlinelaw08.CodeParts', WHERE WHAT IT READS IS OF BULK AT MOST 1048576: true; the input reads as it did. -/
def codePartsUptoRow : OpenClaim := { program := "ytfpdddablkocoaadoor", sum := "cabf4389d6fa53288f69558466f5caff85c3dd4be7f1a54f603bc13a8d3be88f", func := "leadline/leadlinelaw08.CodeParts", spec := "codeParts", inPlace := ["internal/bytealg.CountString", "internal/bytealg.IndexByteString", "internal/bytealg.IndexString"], unfollowed := true, recurses := true, named := ["unicode/utf8.first", "unicode/utf8.acceptRanges", "internal/bytealg.MaxLen"], apart := false, laid := [("unicode/utf8.acceptRanges", laid_unicode_utf8_acceptRanges), ("unicode/utf8.first", laid_unicode_utf8_first)], narrowed := true }
def CodePartsUptoSaid : Prop := codePartsUptoRow.holds Tryd.pinned (OpenSpec.upto codePartsSpec)

end Rows
end Go.Proofs.YtfpdddablkocoaaDoor
