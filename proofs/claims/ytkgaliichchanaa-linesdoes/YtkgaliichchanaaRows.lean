/-
  No cell of these rows narrows 'for every input' (looked for: loops, veiled, ifaces, maps, wideKeys, modest, calm, conditions, laid).
  DERIVED. THE GIVEN ROWS OF THIS SEAT. 5 by the template 'for every input the law returns true; each argument reads behind the call as it read before'; 0 by the template 'total and deterministic' (their statements: YtkgaliichchanaaTotals.lean).
  GIVEN WITH THE SEED: the statements are not yours to turn. If you find one false, say at which input.
  Laid BY PROGRAM, IN A SANDBOX (cutbox-rows.mjs): the forced cells as the released guide's own fill.sh prints them over the translation 1850ac1b218c4ab5… (all of the seat's roots in one cut). By AI agents, Wed Nov 11 2026. No macro, syntax, notation, axiom, sorry.
-/
import Derived.Test.YtkgaliichchanaaChecked
import GoSem.Claim
import GoSem.ClaimJoined
import GoSem.ClaimMapViews
import Derived.JoinedTies
import Derived.KernelRfl
namespace Go.Proofs.Ytkgaliichchanaa
/- THE CELL 'sum', in the pinned program and in every row, IS THE sha256 OF THE DUMP (.gsa) THAT YtkgaliichchanaaProg.lean LOADS. Nothing in Lean hashes anything: it is a label: what it is worth is what the hold of that sum in a sandbox is worth. -/
noncomputable def Try.pinned : Pinned := { name := "ytkgaliichchanaa", sum := "1850ac1b218c4ab5ad4664ad56754eed82a0ceaf7e7ca2b9dcf15f5b8b68cc4a", checked := Try.checked }
namespace Rows
def none {H : Type} : Left H := { results := [], args := [] }

/-- 'leadlinelaw11.LinesCuts': WHATEVER THE INPUT: true; the input reads as it did. -/
def linesCutsSpec : ChangeSpec := { name := "linesCuts", fn := fun _ => fun
  | [d1, d2] => { results := [.lit (.bool true)], args := [d1, d2] }
  | _ => none }
def linesCutsRow : OpenClaim := { program := "ytkgaliichchanaa", sum := "1850ac1b218c4ab5ad4664ad56754eed82a0ceaf7e7ca2b9dcf15f5b8b68cc4a", func := "leadline/leadlinelaw11.LinesCuts", spec := "linesCuts", plainKeys := false, apart := false }
def LinesCutsSaid : Prop := linesCutsRow.holds Try.pinned (OpenSpec.ofChange linesCutsSpec)

/-- ITS FALSE NEIGHBOUR: 'it returns false'. Refute it at one input. -/
def linesCutsWrong : ChangeSpec := { name := "linesCuts", fn := fun _ => fun
  | [d1, d2] => { results := [.lit (.bool false)], args := [d1, d2] }
  | _ => none }
def LinesCutsWrongFalsely : Prop := linesCutsRow.holds Try.pinned (OpenSpec.ofChange linesCutsWrong)

/-- 'leadlinelaw11.LinesEnds': WHATEVER THE INPUT: true; the input reads as it did. -/
def linesEndsSpec : ChangeSpec := { name := "linesEnds", fn := fun _ => fun
  | [d] => { results := [.lit (.bool true)], args := [d] }
  | _ => none }
def linesEndsRow : OpenClaim := { program := "ytkgaliichchanaa", sum := "1850ac1b218c4ab5ad4664ad56754eed82a0ceaf7e7ca2b9dcf15f5b8b68cc4a", func := "leadline/leadlinelaw11.LinesEnds", spec := "linesEnds", plainKeys := false, apart := false }
def LinesEndsSaid : Prop := linesEndsRow.holds Try.pinned (OpenSpec.ofChange linesEndsSpec)

/-- ITS FALSE NEIGHBOUR: 'it returns false'. Refute it at one input. -/
def linesEndsWrong : ChangeSpec := { name := "linesEnds", fn := fun _ => fun
  | [d] => { results := [.lit (.bool false)], args := [d] }
  | _ => none }
def LinesEndsWrongFalsely : Prop := linesEndsRow.holds Try.pinned (OpenSpec.ofChange linesEndsWrong)

/-- 'leadlinelaw11.LinesOrder': WHATEVER THE INPUT: true; the input reads as it did. -/
def linesOrderSpec : ChangeSpec := { name := "linesOrder", fn := fun _ => fun
  | [d1, d2] => { results := [.lit (.bool true)], args := [d1, d2] }
  | _ => none }
def linesOrderRow : OpenClaim := { program := "ytkgaliichchanaa", sum := "1850ac1b218c4ab5ad4664ad56754eed82a0ceaf7e7ca2b9dcf15f5b8b68cc4a", func := "leadline/leadlinelaw11.LinesOrder", spec := "linesOrder", plainKeys := false, apart := false }
def LinesOrderSaid : Prop := linesOrderRow.holds Try.pinned (OpenSpec.ofChange linesOrderSpec)

/-- ITS FALSE NEIGHBOUR: 'it returns false'. Refute it at one input. -/
def linesOrderWrong : ChangeSpec := { name := "linesOrder", fn := fun _ => fun
  | [d1, d2] => { results := [.lit (.bool false)], args := [d1, d2] }
  | _ => none }
def LinesOrderWrongFalsely : Prop := linesOrderRow.holds Try.pinned (OpenSpec.ofChange linesOrderWrong)

/-- 'leadlinelaw11.LinesApart': WHATEVER THE INPUT: true; the input reads as it did. -/
def linesApartSpec : ChangeSpec := { name := "linesApart", fn := fun _ => fun
  | [d] => { results := [.lit (.bool true)], args := [d] }
  | _ => none }
def linesApartRow : OpenClaim := { program := "ytkgaliichchanaa", sum := "1850ac1b218c4ab5ad4664ad56754eed82a0ceaf7e7ca2b9dcf15f5b8b68cc4a", func := "leadline/leadlinelaw11.LinesApart", spec := "linesApart", plainKeys := false, apart := false }
def LinesApartSaid : Prop := linesApartRow.holds Try.pinned (OpenSpec.ofChange linesApartSpec)

/-- ITS FALSE NEIGHBOUR: 'it returns false'. Refute it at one input. -/
def linesApartWrong : ChangeSpec := { name := "linesApart", fn := fun _ => fun
  | [d] => { results := [.lit (.bool false)], args := [d] }
  | _ => none }
def LinesApartWrongFalsely : Prop := linesApartRow.holds Try.pinned (OpenSpec.ofChange linesApartWrong)

/-- 'leadlinelaw11.LinesDoes': WHATEVER THE INPUT: true; the input reads as it did. -/
def linesDoesSpec : ChangeSpec := { name := "linesDoes", fn := fun _ => fun
  | [d1, d2] => { results := [.lit (.bool true)], args := [d1, d2] }
  | _ => none }
def linesDoesRow : OpenClaim := { program := "ytkgaliichchanaa", sum := "1850ac1b218c4ab5ad4664ad56754eed82a0ceaf7e7ca2b9dcf15f5b8b68cc4a", func := "leadline/leadlinelaw11.LinesDoes", spec := "linesDoes", recurses := true, plainKeys := false, apart := false }
def LinesDoesSaid : Prop := linesDoesRow.holds Try.pinned (OpenSpec.ofChange linesDoesSpec)

/-- ITS FALSE NEIGHBOUR: 'it returns false'. Refute it at one input. -/
def linesDoesWrong : ChangeSpec := { name := "linesDoes", fn := fun _ => fun
  | [d1, d2] => { results := [.lit (.bool false)], args := [d1, d2] }
  | _ => none }
def LinesDoesWrongFalsely : Prop := linesDoesRow.holds Try.pinned (OpenSpec.ofChange linesDoesWrong)

/- THE SECOND FORM. 'bulk': how many values and letters a reading holds, each counted each time it is reached (what is shared counts as often as it is met; a slice's spare places count too). A statement '..UptoSaid' is the law's where the arguments, and the package variables that the reading takes, are together of bulk at most 1048576: NARROWER than '..Said'. Prove '..Said' where nothing that the law and all that it calls make is longer than what came in: it says more and counts as full. Else prove '..UptoSaid'. A law counts once. -/
mutual
def uptoBulk {H : Type} : DataW H → Nat
  | .lit (.string bytes) => bytes.length + 1
  | .lit _ => 1
  | .nil => 1
  | .ptr d => uptoBulk d + 1
  | .slice elems spare => uptoBulkAll elems + uptoBulkAll spare + 1
  | .agg parts => uptoBulkAll parts + 1
  | .iface _ d => uptoBulk d + 1
  | .map entries => uptoBulkEntries entries + 1
  | .held _ => 1
def uptoBulkAll {H : Type} : List (DataW H) → Nat
  | [] => 0
  | d :: r => uptoBulk d + uptoBulkAll r
def uptoBulkEntries {H : Type} : List (Lit × DataW H) → Nat
  | [] => 0
  | x :: r => uptoBulkEntry x + uptoBulkEntries r
def uptoBulkEntry {H : Type} : Lit × DataW H → Nat
  | (.string bytes, d) => bytes.length + uptoBulk d + 1
  | (_, d) => uptoBulk d + 1
 end
def uptoSmall : (H : Type) → List (DataW H) → Bool := fun _ ds => decide (uptoBulkAll ds ≤ 1048576)
def OpenSpec.upto (s : _root_.Go.ChangeSpec) : _root_.Go.OpenSpec := { _root_.Go.OpenSpec.ofChange s with cond := some uptoSmall }

/-- 'leadlinelaw11.LinesCuts', WHERE WHAT IT READS IS OF BULK AT MOST 1048576: true; the input reads as it did. -/
def linesCutsUptoRow : OpenClaim := { program := "ytkgaliichchanaa", sum := "1850ac1b218c4ab5ad4664ad56754eed82a0ceaf7e7ca2b9dcf15f5b8b68cc4a", func := "leadline/leadlinelaw11.LinesCuts", spec := "linesCuts", plainKeys := false, apart := false, narrowed := true }
def LinesCutsUptoSaid : Prop := linesCutsUptoRow.holds Try.pinned (OpenSpec.upto linesCutsSpec)

/-- 'leadlinelaw11.LinesEnds', WHERE WHAT IT READS IS OF BULK AT MOST 1048576: true; the input reads as it did. -/
def linesEndsUptoRow : OpenClaim := { program := "ytkgaliichchanaa", sum := "1850ac1b218c4ab5ad4664ad56754eed82a0ceaf7e7ca2b9dcf15f5b8b68cc4a", func := "leadline/leadlinelaw11.LinesEnds", spec := "linesEnds", plainKeys := false, apart := false, narrowed := true }
def LinesEndsUptoSaid : Prop := linesEndsUptoRow.holds Try.pinned (OpenSpec.upto linesEndsSpec)

/-- 'leadlinelaw11.LinesOrder', WHERE WHAT IT READS IS OF BULK AT MOST 1048576: true; the input reads as it did. -/
def linesOrderUptoRow : OpenClaim := { program := "ytkgaliichchanaa", sum := "1850ac1b218c4ab5ad4664ad56754eed82a0ceaf7e7ca2b9dcf15f5b8b68cc4a", func := "leadline/leadlinelaw11.LinesOrder", spec := "linesOrder", plainKeys := false, apart := false, narrowed := true }
def LinesOrderUptoSaid : Prop := linesOrderUptoRow.holds Try.pinned (OpenSpec.upto linesOrderSpec)

/-- 'leadlinelaw11.LinesApart', WHERE WHAT IT READS IS OF BULK AT MOST 1048576: true; the input reads as it did. -/
def linesApartUptoRow : OpenClaim := { program := "ytkgaliichchanaa", sum := "1850ac1b218c4ab5ad4664ad56754eed82a0ceaf7e7ca2b9dcf15f5b8b68cc4a", func := "leadline/leadlinelaw11.LinesApart", spec := "linesApart", plainKeys := false, apart := false, narrowed := true }
def LinesApartUptoSaid : Prop := linesApartUptoRow.holds Try.pinned (OpenSpec.upto linesApartSpec)

/-- 'leadlinelaw11.LinesDoes', WHERE WHAT IT READS IS OF BULK AT MOST 1048576: true; the input reads as it did. -/
def linesDoesUptoRow : OpenClaim := { program := "ytkgaliichchanaa", sum := "1850ac1b218c4ab5ad4664ad56754eed82a0ceaf7e7ca2b9dcf15f5b8b68cc4a", func := "leadline/leadlinelaw11.LinesDoes", spec := "linesDoes", recurses := true, plainKeys := false, apart := false, narrowed := true }
def LinesDoesUptoSaid : Prop := linesDoesUptoRow.holds Try.pinned (OpenSpec.upto linesDoesSpec)

end Rows
end Go.Proofs.Ytkgaliichchanaa
