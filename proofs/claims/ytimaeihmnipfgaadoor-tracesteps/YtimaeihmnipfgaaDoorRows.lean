/-
  NARROWER THAN 'FOR EVERY INPUT', by the rows' own cells (each row's printed sentence says how): EventTells: laid · EventBoth: laid · EventShows: laid · EventUses: laid · TraceTells: laid · TraceSame: laid · TraceOrder: laid · TraceSteps: laid · TraceJoins: laid · TraceThreads: laid.
  DERIVED. THE GIVEN ROWS OF THIS SEAT. 10 by the template 'for every input the law returns true; each argument reads behind the call as it read before'; 0 by the template 'total and deterministic' (their statements: YtimaeihmnipfgaaDoorTotals.lean).
  GIVEN WITH THE SEED: the statements are not yours to turn. If you find one false, say at which input.
  Laid BY PROGRAM, IN A SANDBOX (cutbox-rows.mjs): the forced cells as the released guide's own fill.sh prints them over the translation 53a5dcb99bcfeeca… (all of the seat's roots in one cut). By AI agents, Wed Nov 11 2026. No macro, syntax, notation, axiom, sorry.
-/
import Derived.Test.YtimaeihmnipfgaaDoorChecked
import GoSem.Claim
import GoSem.ClaimJoined
import GoSem.ClaimMapViews
import Derived.JoinedTies
import Derived.KernelRfl
namespace Go.Proofs.YtimaeihmnipfgaaDoor
/- THE CELL 'sum', in the pinned program and in every row, IS THE sha256 OF THE DUMP (.gsa) THAT YtimaeihmnipfgaaDoorProg.lean LOADS. Nothing in Lean hashes anything: it is a label: what it is worth is what the hold of that sum in a sandbox is worth. -/
noncomputable def Tryd.pinned : Pinned := { name := "ytimaeihmnipfgaadoor", sum := "53a5dcb99bcfeeca49cf8c41c53e189caaa28e74b142e6a2b3a5a483e7179eb9", checked := Tryd.checked }
namespace Rows
def none {H : Type} : Left H := { results := [], args := [] }

/- WHAT THE LISTED PACKAGE-LEVEL VARIABLES READ AS WHEN THE CALL BEGINS. Each datum BY PROGRAM (the guide's laid-datum.mjs) off the statement by which the dump's own 'gosem.cut.vars' lays the variable. In a bare row this is a premise. The card (YtimaeihmnipfgaaDoorCards.lean) ties it to the program's text. -/
def laid_math_bits_deBruijn32tab {H : Type} : DataW H := .agg [.lit (.int .u8 0), .lit (.int .u8 1), .lit (.int .u8 28), .lit (.int .u8 2), .lit (.int .u8 29), .lit (.int .u8 14), .lit (.int .u8 24), .lit (.int .u8 3), .lit (.int .u8 30), .lit (.int .u8 22), .lit (.int .u8 20), .lit (.int .u8 15), .lit (.int .u8 25), .lit (.int .u8 17), .lit (.int .u8 4), .lit (.int .u8 8), .lit (.int .u8 31), .lit (.int .u8 27), .lit (.int .u8 13), .lit (.int .u8 23), .lit (.int .u8 21), .lit (.int .u8 19), .lit (.int .u8 16), .lit (.int .u8 7), .lit (.int .u8 26), .lit (.int .u8 12), .lit (.int .u8 18), .lit (.int .u8 6), .lit (.int .u8 11), .lit (.int .u8 5), .lit (.int .u8 10), .lit (.int .u8 9)]
def laid_math_bits_deBruijn64tab {H : Type} : DataW H := .agg [.lit (.int .u8 0), .lit (.int .u8 1), .lit (.int .u8 56), .lit (.int .u8 2), .lit (.int .u8 57), .lit (.int .u8 49), .lit (.int .u8 28), .lit (.int .u8 3), .lit (.int .u8 61), .lit (.int .u8 58), .lit (.int .u8 42), .lit (.int .u8 50), .lit (.int .u8 38), .lit (.int .u8 29), .lit (.int .u8 17), .lit (.int .u8 4), .lit (.int .u8 62), .lit (.int .u8 47), .lit (.int .u8 59), .lit (.int .u8 36), .lit (.int .u8 45), .lit (.int .u8 43), .lit (.int .u8 51), .lit (.int .u8 22), .lit (.int .u8 53), .lit (.int .u8 39), .lit (.int .u8 33), .lit (.int .u8 30), .lit (.int .u8 24), .lit (.int .u8 18), .lit (.int .u8 12), .lit (.int .u8 5), .lit (.int .u8 63), .lit (.int .u8 55), .lit (.int .u8 48), .lit (.int .u8 27), .lit (.int .u8 60), .lit (.int .u8 41), .lit (.int .u8 37), .lit (.int .u8 16), .lit (.int .u8 46), .lit (.int .u8 35), .lit (.int .u8 44), .lit (.int .u8 21), .lit (.int .u8 52), .lit (.int .u8 32), .lit (.int .u8 23), .lit (.int .u8 11), .lit (.int .u8 54), .lit (.int .u8 26), .lit (.int .u8 40), .lit (.int .u8 15), .lit (.int .u8 34), .lit (.int .u8 20), .lit (.int .u8 31), .lit (.int .u8 10), .lit (.int .u8 25), .lit (.int .u8 14), .lit (.int .u8 19), .lit (.int .u8 9), .lit (.int .u8 13), .lit (.int .u8 8), .lit (.int .u8 7), .lit (.int .u8 6)]
def laid_internal_strconv_uint64pow10 {H : Type} : DataW H := .agg [.lit (.int .u64 1), .lit (.int .u64 10), .lit (.int .u64 100), .lit (.int .u64 1000), .lit (.int .u64 10000), .lit (.int .u64 100000), .lit (.int .u64 1000000), .lit (.int .u64 10000000), .lit (.int .u64 100000000), .lit (.int .u64 1000000000), .lit (.int .u64 10000000000), .lit (.int .u64 100000000000), .lit (.int .u64 1000000000000), .lit (.int .u64 10000000000000), .lit (.int .u64 100000000000000), .lit (.int .u64 1000000000000000), .lit (.int .u64 10000000000000000), .lit (.int .u64 100000000000000000), .lit (.int .u64 1000000000000000000), .lit (.int .u64 10000000000000000000)]

/-- 'leadlinelaw15.EventTells': WHATEVER THE INPUT: true; the input reads as it did. -/
def eventTellsSpec : ChangeSpec := { name := "eventTells", fn := fun _ => fun
  | [d1, d2, d3] => { results := [.lit (.bool true)], args := [d1, d2, d3] }
  | _ => none }
def eventTellsRow : OpenClaim := { program := "ytimaeihmnipfgaadoor", sum := "53a5dcb99bcfeeca49cf8c41c53e189caaa28e74b142e6a2b3a5a483e7179eb9", func := "leadline/leadlinelaw15.EventTells", spec := "eventTells", unfollowed := true, recurses := true, named := ["internal/strconv.uint64pow10", "math/bits.deBruijn32tab", "math/bits.deBruijn64tab"], apart := false, laid := [("math/bits.deBruijn32tab", laid_math_bits_deBruijn32tab), ("math/bits.deBruijn64tab", laid_math_bits_deBruijn64tab), ("internal/strconv.uint64pow10", laid_internal_strconv_uint64pow10)] }
def EventTellsSaid : Prop := eventTellsRow.holds Tryd.pinned (OpenSpec.ofChange eventTellsSpec)

/-- ITS FALSE NEIGHBOUR: 'it returns false'. Refute it at one input. -/
def eventTellsWrong : ChangeSpec := { name := "eventTells", fn := fun _ => fun
  | [d1, d2, d3] => { results := [.lit (.bool false)], args := [d1, d2, d3] }
  | _ => none }
def EventTellsWrongFalsely : Prop := eventTellsRow.holds Tryd.pinned (OpenSpec.ofChange eventTellsWrong)

/-- 'leadlinelaw15.EventBoth': WHATEVER THE INPUT: true; the input reads as it did. -/
def eventBothSpec : ChangeSpec := { name := "eventBoth", fn := fun _ => fun
  | [d1, d2, d3] => { results := [.lit (.bool true)], args := [d1, d2, d3] }
  | _ => none }
def eventBothRow : OpenClaim := { program := "ytimaeihmnipfgaadoor", sum := "53a5dcb99bcfeeca49cf8c41c53e189caaa28e74b142e6a2b3a5a483e7179eb9", func := "leadline/leadlinelaw15.EventBoth", spec := "eventBoth", unfollowed := true, recurses := true, named := ["internal/strconv.uint64pow10", "math/bits.deBruijn32tab", "math/bits.deBruijn64tab"], apart := false, laid := [("math/bits.deBruijn32tab", laid_math_bits_deBruijn32tab), ("math/bits.deBruijn64tab", laid_math_bits_deBruijn64tab), ("internal/strconv.uint64pow10", laid_internal_strconv_uint64pow10)] }
def EventBothSaid : Prop := eventBothRow.holds Tryd.pinned (OpenSpec.ofChange eventBothSpec)

/-- ITS FALSE NEIGHBOUR: 'it returns false'. Refute it at one input. -/
def eventBothWrong : ChangeSpec := { name := "eventBoth", fn := fun _ => fun
  | [d1, d2, d3] => { results := [.lit (.bool false)], args := [d1, d2, d3] }
  | _ => none }
def EventBothWrongFalsely : Prop := eventBothRow.holds Tryd.pinned (OpenSpec.ofChange eventBothWrong)

/-- 'leadlinelaw15.EventShows': WHATEVER THE INPUT: true; the input reads as it did. -/
def eventShowsSpec : ChangeSpec := { name := "eventShows", fn := fun _ => fun
  | [d1, d2] => { results := [.lit (.bool true)], args := [d1, d2] }
  | _ => none }
def eventShowsRow : OpenClaim := { program := "ytimaeihmnipfgaadoor", sum := "53a5dcb99bcfeeca49cf8c41c53e189caaa28e74b142e6a2b3a5a483e7179eb9", func := "leadline/leadlinelaw15.EventShows", spec := "eventShows", unfollowed := true, recurses := true, named := ["internal/strconv.uint64pow10", "math/bits.deBruijn32tab", "math/bits.deBruijn64tab"], apart := false, laid := [("math/bits.deBruijn32tab", laid_math_bits_deBruijn32tab), ("math/bits.deBruijn64tab", laid_math_bits_deBruijn64tab), ("internal/strconv.uint64pow10", laid_internal_strconv_uint64pow10)] }
def EventShowsSaid : Prop := eventShowsRow.holds Tryd.pinned (OpenSpec.ofChange eventShowsSpec)

/-- ITS FALSE NEIGHBOUR: 'it returns false'. Refute it at one input. -/
def eventShowsWrong : ChangeSpec := { name := "eventShows", fn := fun _ => fun
  | [d1, d2] => { results := [.lit (.bool false)], args := [d1, d2] }
  | _ => none }
def EventShowsWrongFalsely : Prop := eventShowsRow.holds Tryd.pinned (OpenSpec.ofChange eventShowsWrong)

/-- 'leadlinelaw15.EventUses': WHATEVER THE INPUT: true; the input reads as it did. -/
def eventUsesSpec : ChangeSpec := { name := "eventUses", fn := fun _ => fun
  | [d1, d2, d3] => { results := [.lit (.bool true)], args := [d1, d2, d3] }
  | _ => none }
def eventUsesRow : OpenClaim := { program := "ytimaeihmnipfgaadoor", sum := "53a5dcb99bcfeeca49cf8c41c53e189caaa28e74b142e6a2b3a5a483e7179eb9", func := "leadline/leadlinelaw15.EventUses", spec := "eventUses", unfollowed := true, recurses := true, named := ["internal/strconv.uint64pow10", "math/bits.deBruijn32tab", "math/bits.deBruijn64tab"], apart := false, laid := [("math/bits.deBruijn32tab", laid_math_bits_deBruijn32tab), ("math/bits.deBruijn64tab", laid_math_bits_deBruijn64tab), ("internal/strconv.uint64pow10", laid_internal_strconv_uint64pow10)] }
def EventUsesSaid : Prop := eventUsesRow.holds Tryd.pinned (OpenSpec.ofChange eventUsesSpec)

/-- ITS FALSE NEIGHBOUR: 'it returns false'. Refute it at one input. -/
def eventUsesWrong : ChangeSpec := { name := "eventUses", fn := fun _ => fun
  | [d1, d2, d3] => { results := [.lit (.bool false)], args := [d1, d2, d3] }
  | _ => none }
def EventUsesWrongFalsely : Prop := eventUsesRow.holds Tryd.pinned (OpenSpec.ofChange eventUsesWrong)

/-- 'leadlinelaw17.TraceTells': WHATEVER THE INPUT: true; the input reads as it did. -/
def traceTellsSpec : ChangeSpec := { name := "traceTells", fn := fun _ => fun
  | [d1, d2, d3] => { results := [.lit (.bool true)], args := [d1, d2, d3] }
  | _ => none }
def traceTellsRow : OpenClaim := { program := "ytimaeihmnipfgaadoor", sum := "53a5dcb99bcfeeca49cf8c41c53e189caaa28e74b142e6a2b3a5a483e7179eb9", func := "leadline/leadlinelaw17.TraceTells", spec := "traceTells", inPlace := ["internal/abi.NoEscape"], unfollowed := true, recurses := true, named := ["internal/strconv.uint64pow10", "math/bits.deBruijn32tab", "math/bits.deBruijn64tab"], apart := false, laid := [("math/bits.deBruijn32tab", laid_math_bits_deBruijn32tab), ("math/bits.deBruijn64tab", laid_math_bits_deBruijn64tab), ("internal/strconv.uint64pow10", laid_internal_strconv_uint64pow10)] }
def TraceTellsSaid : Prop := traceTellsRow.holds Tryd.pinned (OpenSpec.ofChange traceTellsSpec)

/-- ITS FALSE NEIGHBOUR: 'it returns false'. Refute it at one input. -/
def traceTellsWrong : ChangeSpec := { name := "traceTells", fn := fun _ => fun
  | [d1, d2, d3] => { results := [.lit (.bool false)], args := [d1, d2, d3] }
  | _ => none }
def TraceTellsWrongFalsely : Prop := traceTellsRow.holds Tryd.pinned (OpenSpec.ofChange traceTellsWrong)

/-- 'leadlinelaw17.TraceSame': WHATEVER THE INPUT: true; the input reads as it did. -/
def traceSameSpec : ChangeSpec := { name := "traceSame", fn := fun _ => fun
  | [d1, d2, d3] => { results := [.lit (.bool true)], args := [d1, d2, d3] }
  | _ => none }
def traceSameRow : OpenClaim := { program := "ytimaeihmnipfgaadoor", sum := "53a5dcb99bcfeeca49cf8c41c53e189caaa28e74b142e6a2b3a5a483e7179eb9", func := "leadline/leadlinelaw17.TraceSame", spec := "traceSame", inPlace := ["internal/abi.NoEscape"], unfollowed := true, recurses := true, named := ["internal/strconv.uint64pow10", "math/bits.deBruijn32tab", "math/bits.deBruijn64tab"], apart := false, laid := [("math/bits.deBruijn32tab", laid_math_bits_deBruijn32tab), ("math/bits.deBruijn64tab", laid_math_bits_deBruijn64tab), ("internal/strconv.uint64pow10", laid_internal_strconv_uint64pow10)] }
def TraceSameSaid : Prop := traceSameRow.holds Tryd.pinned (OpenSpec.ofChange traceSameSpec)

/-- ITS FALSE NEIGHBOUR: 'it returns false'. Refute it at one input. -/
def traceSameWrong : ChangeSpec := { name := "traceSame", fn := fun _ => fun
  | [d1, d2, d3] => { results := [.lit (.bool false)], args := [d1, d2, d3] }
  | _ => none }
def TraceSameWrongFalsely : Prop := traceSameRow.holds Tryd.pinned (OpenSpec.ofChange traceSameWrong)

/-- 'leadlinelaw17.TraceOrder': WHATEVER THE INPUT: true; the input reads as it did. -/
def traceOrderSpec : ChangeSpec := { name := "traceOrder", fn := fun _ => fun
  | [d1, d2, d3] => { results := [.lit (.bool true)], args := [d1, d2, d3] }
  | _ => none }
def traceOrderRow : OpenClaim := { program := "ytimaeihmnipfgaadoor", sum := "53a5dcb99bcfeeca49cf8c41c53e189caaa28e74b142e6a2b3a5a483e7179eb9", func := "leadline/leadlinelaw17.TraceOrder", spec := "traceOrder", inPlace := ["internal/abi.NoEscape"], unfollowed := true, recurses := true, named := ["internal/strconv.uint64pow10", "math/bits.deBruijn32tab", "math/bits.deBruijn64tab"], apart := false, laid := [("math/bits.deBruijn32tab", laid_math_bits_deBruijn32tab), ("math/bits.deBruijn64tab", laid_math_bits_deBruijn64tab), ("internal/strconv.uint64pow10", laid_internal_strconv_uint64pow10)] }
def TraceOrderSaid : Prop := traceOrderRow.holds Tryd.pinned (OpenSpec.ofChange traceOrderSpec)

/-- ITS FALSE NEIGHBOUR: 'it returns false'. Refute it at one input. -/
def traceOrderWrong : ChangeSpec := { name := "traceOrder", fn := fun _ => fun
  | [d1, d2, d3] => { results := [.lit (.bool false)], args := [d1, d2, d3] }
  | _ => none }
def TraceOrderWrongFalsely : Prop := traceOrderRow.holds Tryd.pinned (OpenSpec.ofChange traceOrderWrong)

/-- 'leadlinelaw17.TraceSteps': WHATEVER THE INPUT: true; the input reads as it did. -/
def traceStepsSpec : ChangeSpec := { name := "traceSteps", fn := fun _ => fun
  | [d1, d2] => { results := [.lit (.bool true)], args := [d1, d2] }
  | _ => none }
def traceStepsRow : OpenClaim := { program := "ytimaeihmnipfgaadoor", sum := "53a5dcb99bcfeeca49cf8c41c53e189caaa28e74b142e6a2b3a5a483e7179eb9", func := "leadline/leadlinelaw17.TraceSteps", spec := "traceSteps", inPlace := ["internal/abi.NoEscape"], unfollowed := true, recurses := true, named := ["internal/strconv.uint64pow10", "math/bits.deBruijn32tab", "math/bits.deBruijn64tab"], apart := false, laid := [("math/bits.deBruijn32tab", laid_math_bits_deBruijn32tab), ("math/bits.deBruijn64tab", laid_math_bits_deBruijn64tab), ("internal/strconv.uint64pow10", laid_internal_strconv_uint64pow10)] }
def TraceStepsSaid : Prop := traceStepsRow.holds Tryd.pinned (OpenSpec.ofChange traceStepsSpec)

/-- ITS FALSE NEIGHBOUR: 'it returns false'. Refute it at one input. -/
def traceStepsWrong : ChangeSpec := { name := "traceSteps", fn := fun _ => fun
  | [d1, d2] => { results := [.lit (.bool false)], args := [d1, d2] }
  | _ => none }
def TraceStepsWrongFalsely : Prop := traceStepsRow.holds Tryd.pinned (OpenSpec.ofChange traceStepsWrong)

/-- 'leadlinelaw17.TraceJoins': WHATEVER THE INPUT: true; the input reads as it did. -/
def traceJoinsSpec : ChangeSpec := { name := "traceJoins", fn := fun _ => fun
  | [d1, d2, d3] => { results := [.lit (.bool true)], args := [d1, d2, d3] }
  | _ => none }
def traceJoinsRow : OpenClaim := { program := "ytimaeihmnipfgaadoor", sum := "53a5dcb99bcfeeca49cf8c41c53e189caaa28e74b142e6a2b3a5a483e7179eb9", func := "leadline/leadlinelaw17.TraceJoins", spec := "traceJoins", inPlace := ["internal/abi.NoEscape"], unfollowed := true, recurses := true, named := ["internal/strconv.uint64pow10", "math/bits.deBruijn32tab", "math/bits.deBruijn64tab"], apart := false, laid := [("math/bits.deBruijn32tab", laid_math_bits_deBruijn32tab), ("math/bits.deBruijn64tab", laid_math_bits_deBruijn64tab), ("internal/strconv.uint64pow10", laid_internal_strconv_uint64pow10)] }
def TraceJoinsSaid : Prop := traceJoinsRow.holds Tryd.pinned (OpenSpec.ofChange traceJoinsSpec)

/-- ITS FALSE NEIGHBOUR: 'it returns false'. Refute it at one input. -/
def traceJoinsWrong : ChangeSpec := { name := "traceJoins", fn := fun _ => fun
  | [d1, d2, d3] => { results := [.lit (.bool false)], args := [d1, d2, d3] }
  | _ => none }
def TraceJoinsWrongFalsely : Prop := traceJoinsRow.holds Tryd.pinned (OpenSpec.ofChange traceJoinsWrong)

/-- 'leadlinelaw17.TraceThreads': WHATEVER THE INPUT: true; the input reads as it did. -/
def traceThreadsSpec : ChangeSpec := { name := "traceThreads", fn := fun _ => fun
  | [d1, d2] => { results := [.lit (.bool true)], args := [d1, d2] }
  | _ => none }
def traceThreadsRow : OpenClaim := { program := "ytimaeihmnipfgaadoor", sum := "53a5dcb99bcfeeca49cf8c41c53e189caaa28e74b142e6a2b3a5a483e7179eb9", func := "leadline/leadlinelaw17.TraceThreads", spec := "traceThreads", inPlace := ["internal/abi.NoEscape"], unfollowed := true, recurses := true, named := ["internal/strconv.uint64pow10", "math/bits.deBruijn32tab", "math/bits.deBruijn64tab"], apart := false, laid := [("math/bits.deBruijn32tab", laid_math_bits_deBruijn32tab), ("math/bits.deBruijn64tab", laid_math_bits_deBruijn64tab), ("internal/strconv.uint64pow10", laid_internal_strconv_uint64pow10)] }
def TraceThreadsSaid : Prop := traceThreadsRow.holds Tryd.pinned (OpenSpec.ofChange traceThreadsSpec)

/-- ITS FALSE NEIGHBOUR: 'it returns false'. Refute it at one input. -/
def traceThreadsWrong : ChangeSpec := { name := "traceThreads", fn := fun _ => fun
  | [d1, d2] => { results := [.lit (.bool false)], args := [d1, d2] }
  | _ => none }
def TraceThreadsWrongFalsely : Prop := traceThreadsRow.holds Tryd.pinned (OpenSpec.ofChange traceThreadsWrong)

/- THE SECOND FORM. 'bulk': how many values and letters a reading holds, each counted each time it is reached (what is shared counts as often as it is met; a slice's spare places count too). A statement '..UptoSaid' is the law's where the arguments, and the package variables that the reading takes, are together of bulk at most 1048576: NARROWER than '..Said'. Prove '..Said' where nothing that the law and all that it calls make is longer than what came in: it says more and counts as full. Else prove '..UptoSaid'. A law counts once. -/
mutual
def uptoBulk {H : Type} : DataW H → Nat
  | .lit (.string bytes) => bytes.length + 1
  | .lit _ => 1
  | .nil => 1
  | .ptr d => uptoBulk d + 1
  | .slice elems spare => uptoBulkAll elems + uptoBulkAll spare + 1
  | .agg parts => uptoBulkAll parts + 1
  | .iface _ d => uptoBulk d + 1
  | .map entries => uptoBulkEntries entries + 1
  | .held _ => 1
def uptoBulkAll {H : Type} : List (DataW H) → Nat
  | [] => 0
  | d :: r => uptoBulk d + uptoBulkAll r
def uptoBulkEntries {H : Type} : List (Lit × DataW H) → Nat
  | [] => 0
  | x :: r => uptoBulkEntry x + uptoBulkEntries r
def uptoBulkEntry {H : Type} : Lit × DataW H → Nat
  | (.string bytes, d) => bytes.length + uptoBulk d + 1
  | (_, d) => uptoBulk d + 1
 end
def uptoSmall : (H : Type) → List (DataW H) → Bool := fun _ ds => decide (uptoBulkAll ds ≤ 1048576)
def OpenSpec.upto (s : _root_.Go.ChangeSpec) : _root_.Go.OpenSpec := { _root_.Go.OpenSpec.ofChange s with cond := some uptoSmall }

/-- 'leadlinelaw15.EventTells', WHERE WHAT IT READS IS OF BULK AT MOST 1048576: true; the input reads as it did. -/
def eventTellsUptoRow : OpenClaim := { program := "ytimaeihmnipfgaadoor", sum := "53a5dcb99bcfeeca49cf8c41c53e189caaa28e74b142e6a2b3a5a483e7179eb9", func := "leadline/leadlinelaw15.EventTells", spec := "eventTells", unfollowed := true, recurses := true, named := ["internal/strconv.uint64pow10", "math/bits.deBruijn32tab", "math/bits.deBruijn64tab"], apart := false, laid := [("math/bits.deBruijn32tab", laid_math_bits_deBruijn32tab), ("math/bits.deBruijn64tab", laid_math_bits_deBruijn64tab), ("internal/strconv.uint64pow10", laid_internal_strconv_uint64pow10)], narrowed := true }
def EventTellsUptoSaid : Prop := eventTellsUptoRow.holds Tryd.pinned (OpenSpec.upto eventTellsSpec)

/-- 'leadlinelaw15.EventBoth', WHERE WHAT IT READS IS OF BULK AT MOST 1048576: true; the input reads as it did. -/
def eventBothUptoRow : OpenClaim := { program := "ytimaeihmnipfgaadoor", sum := "53a5dcb99bcfeeca49cf8c41c53e189caaa28e74b142e6a2b3a5a483e7179eb9", func := "leadline/leadlinelaw15.EventBoth", spec := "eventBoth", unfollowed := true, recurses := true, named := ["internal/strconv.uint64pow10", "math/bits.deBruijn32tab", "math/bits.deBruijn64tab"], apart := false, laid := [("math/bits.deBruijn32tab", laid_math_bits_deBruijn32tab), ("math/bits.deBruijn64tab", laid_math_bits_deBruijn64tab), ("internal/strconv.uint64pow10", laid_internal_strconv_uint64pow10)], narrowed := true }
def EventBothUptoSaid : Prop := eventBothUptoRow.holds Tryd.pinned (OpenSpec.upto eventBothSpec)

/-- 'leadlinelaw15.EventShows', WHERE WHAT IT READS IS OF BULK AT MOST 1048576: true; the input reads as it did. -/
def eventShowsUptoRow : OpenClaim := { program := "ytimaeihmnipfgaadoor", sum := "53a5dcb99bcfeeca49cf8c41c53e189caaa28e74b142e6a2b3a5a483e7179eb9", func := "leadline/leadlinelaw15.EventShows", spec := "eventShows", unfollowed := true, recurses := true, named := ["internal/strconv.uint64pow10", "math/bits.deBruijn32tab", "math/bits.deBruijn64tab"], apart := false, laid := [("math/bits.deBruijn32tab", laid_math_bits_deBruijn32tab), ("math/bits.deBruijn64tab", laid_math_bits_deBruijn64tab), ("internal/strconv.uint64pow10", laid_internal_strconv_uint64pow10)], narrowed := true }
def EventShowsUptoSaid : Prop := eventShowsUptoRow.holds Tryd.pinned (OpenSpec.upto eventShowsSpec)

/-- 'leadlinelaw15.EventUses', WHERE WHAT IT READS IS OF BULK AT MOST 1048576: true; the input reads as it did. -/
def eventUsesUptoRow : OpenClaim := { program := "ytimaeihmnipfgaadoor", sum := "53a5dcb99bcfeeca49cf8c41c53e189caaa28e74b142e6a2b3a5a483e7179eb9", func := "leadline/leadlinelaw15.EventUses", spec := "eventUses", unfollowed := true, recurses := true, named := ["internal/strconv.uint64pow10", "math/bits.deBruijn32tab", "math/bits.deBruijn64tab"], apart := false, laid := [("math/bits.deBruijn32tab", laid_math_bits_deBruijn32tab), ("math/bits.deBruijn64tab", laid_math_bits_deBruijn64tab), ("internal/strconv.uint64pow10", laid_internal_strconv_uint64pow10)], narrowed := true }
def EventUsesUptoSaid : Prop := eventUsesUptoRow.holds Tryd.pinned (OpenSpec.upto eventUsesSpec)

/-- 'leadlinelaw17.TraceTells', WHERE WHAT IT READS IS OF BULK AT MOST 1048576: true; the input reads as it did. -/
def traceTellsUptoRow : OpenClaim := { program := "ytimaeihmnipfgaadoor", sum := "53a5dcb99bcfeeca49cf8c41c53e189caaa28e74b142e6a2b3a5a483e7179eb9", func := "leadline/leadlinelaw17.TraceTells", spec := "traceTells", inPlace := ["internal/abi.NoEscape"], unfollowed := true, recurses := true, named := ["internal/strconv.uint64pow10", "math/bits.deBruijn32tab", "math/bits.deBruijn64tab"], apart := false, laid := [("math/bits.deBruijn32tab", laid_math_bits_deBruijn32tab), ("math/bits.deBruijn64tab", laid_math_bits_deBruijn64tab), ("internal/strconv.uint64pow10", laid_internal_strconv_uint64pow10)], narrowed := true }
def TraceTellsUptoSaid : Prop := traceTellsUptoRow.holds Tryd.pinned (OpenSpec.upto traceTellsSpec)

/-- 'leadlinelaw17.TraceSame', WHERE WHAT IT READS IS OF BULK AT MOST 1048576: true; the input reads as it did. -/
def traceSameUptoRow : OpenClaim := { program := "ytimaeihmnipfgaadoor", sum := "53a5dcb99bcfeeca49cf8c41c53e189caaa28e74b142e6a2b3a5a483e7179eb9", func := "leadline/leadlinelaw17.TraceSame", spec := "traceSame", inPlace := ["internal/abi.NoEscape"], unfollowed := true, recurses := true, named := ["internal/strconv.uint64pow10", "math/bits.deBruijn32tab", "math/bits.deBruijn64tab"], apart := false, laid := [("math/bits.deBruijn32tab", laid_math_bits_deBruijn32tab), ("math/bits.deBruijn64tab", laid_math_bits_deBruijn64tab), ("internal/strconv.uint64pow10", laid_internal_strconv_uint64pow10)], narrowed := true }
def TraceSameUptoSaid : Prop := traceSameUptoRow.holds Tryd.pinned (OpenSpec.upto traceSameSpec)

/-- 'leadlinelaw17.TraceOrder', WHERE WHAT IT READS IS OF BULK AT MOST 1048576: true; the input reads as it did. -/
def traceOrderUptoRow : OpenClaim := { program := "ytimaeihmnipfgaadoor", sum := "53a5dcb99bcfeeca49cf8c41c53e189caaa28e74b142e6a2b3a5a483e7179eb9", func := "leadline/leadlinelaw17.TraceOrder", spec := "traceOrder", inPlace := ["internal/abi.NoEscape"], unfollowed := true, recurses := true, named := ["internal/strconv.uint64pow10", "math/bits.deBruijn32tab", "math/bits.deBruijn64tab"], apart := false, laid := [("math/bits.deBruijn32tab", laid_math_bits_deBruijn32tab), ("math/bits.deBruijn64tab", laid_math_bits_deBruijn64tab), ("internal/strconv.uint64pow10", laid_internal_strconv_uint64pow10)], narrowed := true }
def TraceOrderUptoSaid : Prop := traceOrderUptoRow.holds Tryd.pinned (OpenSpec.upto traceOrderSpec)

/-- 'leadlinelaw17.TraceSteps', WHERE WHAT IT READS IS OF BULK AT MOST 1048576: true; the input reads as it did. -/
def traceStepsUptoRow : OpenClaim := { program := "ytimaeihmnipfgaadoor", sum := "53a5dcb99bcfeeca49cf8c41c53e189caaa28e74b142e6a2b3a5a483e7179eb9", func := "leadline/leadlinelaw17.TraceSteps", spec := "traceSteps", inPlace := ["internal/abi.NoEscape"], unfollowed := true, recurses := true, named := ["internal/strconv.uint64pow10", "math/bits.deBruijn32tab", "math/bits.deBruijn64tab"], apart := false, laid := [("math/bits.deBruijn32tab", laid_math_bits_deBruijn32tab), ("math/bits.deBruijn64tab", laid_math_bits_deBruijn64tab), ("internal/strconv.uint64pow10", laid_internal_strconv_uint64pow10)], narrowed := true }
def TraceStepsUptoSaid : Prop := traceStepsUptoRow.holds Tryd.pinned (OpenSpec.upto traceStepsSpec)

/-- 'leadlinelaw17.TraceJoins', WHERE WHAT IT READS IS OF BULK AT MOST 1048576: true; the input reads as it did. -/
def traceJoinsUptoRow : OpenClaim := { program := "ytimaeihmnipfgaadoor", sum := "53a5dcb99bcfeeca49cf8c41c53e189caaa28e74b142e6a2b3a5a483e7179eb9", func := "leadline/leadlinelaw17.TraceJoins", spec := "traceJoins", inPlace := ["internal/abi.NoEscape"], unfollowed := true, recurses := true, named := ["internal/strconv.uint64pow10", "math/bits.deBruijn32tab", "math/bits.deBruijn64tab"], apart := false, laid := [("math/bits.deBruijn32tab", laid_math_bits_deBruijn32tab), ("math/bits.deBruijn64tab", laid_math_bits_deBruijn64tab), ("internal/strconv.uint64pow10", laid_internal_strconv_uint64pow10)], narrowed := true }
def TraceJoinsUptoSaid : Prop := traceJoinsUptoRow.holds Tryd.pinned (OpenSpec.upto traceJoinsSpec)

/-- 'leadlinelaw17.TraceThreads', WHERE WHAT IT READS IS OF BULK AT MOST 1048576: true; the input reads as it did. -/
def traceThreadsUptoRow : OpenClaim := { program := "ytimaeihmnipfgaadoor", sum := "53a5dcb99bcfeeca49cf8c41c53e189caaa28e74b142e6a2b3a5a483e7179eb9", func := "leadline/leadlinelaw17.TraceThreads", spec := "traceThreads", inPlace := ["internal/abi.NoEscape"], unfollowed := true, recurses := true, named := ["internal/strconv.uint64pow10", "math/bits.deBruijn32tab", "math/bits.deBruijn64tab"], apart := false, laid := [("math/bits.deBruijn32tab", laid_math_bits_deBruijn32tab), ("math/bits.deBruijn64tab", laid_math_bits_deBruijn64tab), ("internal/strconv.uint64pow10", laid_internal_strconv_uint64pow10)], narrowed := true }
def TraceThreadsUptoSaid : Prop := traceThreadsUptoRow.holds Tryd.pinned (OpenSpec.upto traceThreadsSpec)

end Rows
end Go.Proofs.YtimaeihmnipfgaaDoor
