/-
  NARROWER THAN 'FOR EVERY INPUT', by the rows' own cells (each row's printed sentence says how): SizeCombines: laid · SizeOrders: laid · SizeAdds: laid · SizeSigns: laid · SizeFloors: laid · SizeIntervals: laid · SizeMatches: laid · SizeSorts: laid · SizeChecks: laid.
  DERIVED. THE GIVEN ROWS OF THIS SEAT. 9 by the template 'for every input the law returns true; each argument reads behind the call as it read before'; 0 by the template 'total and deterministic' (their statements: YtlomhfknmhaboaaGreatDoorTotals.lean).
  GIVEN WITH THE SEED: the statements are not yours to turn. If you find one false, say at which input.
  Laid BY PROGRAM, IN A SANDBOX (cutbox-rows.mjs): the forced cells as the released guide's own fill.sh prints them over the translation b13e30389e4523a3… (all of the seat's roots in one cut). By AI agents, Wed Nov 11 2026. No macro, syntax, notation, axiom, sorry.
-/
import Derived.Test.YtlomhfknmhaboaaGreatDoorChecked
import GoSem.Claim
import GoSem.ClaimJoined
import GoSem.ClaimMapViews
import Derived.JoinedTies
import Derived.KernelRfl
namespace Go.Proofs.YtlomhfknmhaboaaGreatDoor
/- THE CELL 'sum', in the pinned program and in every row, IS THE sha256 OF THE DUMP (.gsa) THAT YtlomhfknmhaboaaGreatDoorProg.lean LOADS. Nothing in Lean hashes anything: it is a label: what it is worth is what the hold of that sum in a sandbox is worth. -/
noncomputable def Tryz.pinned : Pinned := { name := "ytlomhfknmhaboaagreatdoor", sum := "b13e30389e4523a38a43b297939a6b0cb2036ce74fb5abf6aba2dba77189bd61", checked := Tryz.checked }
namespace Rows
def none {H : Type} : Left H := { results := [], args := [] }

/- WHAT THE LISTED PACKAGE-LEVEL VARIABLES READ AS WHEN THE CALL BEGINS. Each datum BY PROGRAM (the guide's laid-datum.mjs) off the statement by which the dump's own 'gosem.cut.vars' lays the variable. In a bare row this is a premise. The card (YtlomhfknmhaboaaGreatDoorCards.lean) ties it to the program's text. -/
def laid_math_bits_deBruijn32tab {H : Type} : DataW H := .agg [.lit (.int .u8 0), .lit (.int .u8 1), .lit (.int .u8 28), .lit (.int .u8 2), .lit (.int .u8 29), .lit (.int .u8 14), .lit (.int .u8 24), .lit (.int .u8 3), .lit (.int .u8 30), .lit (.int .u8 22), .lit (.int .u8 20), .lit (.int .u8 15), .lit (.int .u8 25), .lit (.int .u8 17), .lit (.int .u8 4), .lit (.int .u8 8), .lit (.int .u8 31), .lit (.int .u8 27), .lit (.int .u8 13), .lit (.int .u8 23), .lit (.int .u8 21), .lit (.int .u8 19), .lit (.int .u8 16), .lit (.int .u8 7), .lit (.int .u8 26), .lit (.int .u8 12), .lit (.int .u8 18), .lit (.int .u8 6), .lit (.int .u8 11), .lit (.int .u8 5), .lit (.int .u8 10), .lit (.int .u8 9)]
def laid_math_bits_deBruijn64tab {H : Type} : DataW H := .agg [.lit (.int .u8 0), .lit (.int .u8 1), .lit (.int .u8 56), .lit (.int .u8 2), .lit (.int .u8 57), .lit (.int .u8 49), .lit (.int .u8 28), .lit (.int .u8 3), .lit (.int .u8 61), .lit (.int .u8 58), .lit (.int .u8 42), .lit (.int .u8 50), .lit (.int .u8 38), .lit (.int .u8 29), .lit (.int .u8 17), .lit (.int .u8 4), .lit (.int .u8 62), .lit (.int .u8 47), .lit (.int .u8 59), .lit (.int .u8 36), .lit (.int .u8 45), .lit (.int .u8 43), .lit (.int .u8 51), .lit (.int .u8 22), .lit (.int .u8 53), .lit (.int .u8 39), .lit (.int .u8 33), .lit (.int .u8 30), .lit (.int .u8 24), .lit (.int .u8 18), .lit (.int .u8 12), .lit (.int .u8 5), .lit (.int .u8 63), .lit (.int .u8 55), .lit (.int .u8 48), .lit (.int .u8 27), .lit (.int .u8 60), .lit (.int .u8 41), .lit (.int .u8 37), .lit (.int .u8 16), .lit (.int .u8 46), .lit (.int .u8 35), .lit (.int .u8 44), .lit (.int .u8 21), .lit (.int .u8 52), .lit (.int .u8 32), .lit (.int .u8 23), .lit (.int .u8 11), .lit (.int .u8 54), .lit (.int .u8 26), .lit (.int .u8 40), .lit (.int .u8 15), .lit (.int .u8 34), .lit (.int .u8 20), .lit (.int .u8 31), .lit (.int .u8 10), .lit (.int .u8 25), .lit (.int .u8 14), .lit (.int .u8 19), .lit (.int .u8 9), .lit (.int .u8 13), .lit (.int .u8 8), .lit (.int .u8 7), .lit (.int .u8 6)]
def laid_internal_strconv_uint64pow10 {H : Type} : DataW H := .agg [.lit (.int .u64 1), .lit (.int .u64 10), .lit (.int .u64 100), .lit (.int .u64 1000), .lit (.int .u64 10000), .lit (.int .u64 100000), .lit (.int .u64 1000000), .lit (.int .u64 10000000), .lit (.int .u64 100000000), .lit (.int .u64 1000000000), .lit (.int .u64 10000000000), .lit (.int .u64 100000000000), .lit (.int .u64 1000000000000), .lit (.int .u64 10000000000000), .lit (.int .u64 100000000000000), .lit (.int .u64 1000000000000000), .lit (.int .u64 10000000000000000), .lit (.int .u64 100000000000000000), .lit (.int .u64 1000000000000000000), .lit (.int .u64 10000000000000000000)]
def laid_strconv_ErrRange {H : Type} : DataW H := .iface "*errors.errorString" (.ptr (.agg [.lit (.string [118, 97, 108, 117, 101, 32, 111, 117, 116, 32, 111, 102, 32, 114, 97, 110, 103, 101])]))
def laid_strconv_ErrSyntax {H : Type} : DataW H := .iface "*errors.errorString" (.ptr (.agg [.lit (.string [105, 110, 118, 97, 108, 105, 100, 32, 115, 121, 110, 116, 97, 120])]))

/-- 'schismalaw13.SizeCombines': WHATEVER THE INPUT: true; the input reads as it did. -/
def sizeCombinesSpec : ChangeSpec := { name := "sizeCombines", fn := fun _ => fun
  | [d1, d2, d3] => { results := [.lit (.bool true)], args := [d1, d2, d3] }
  | _ => none }
def sizeCombinesRow : OpenClaim := { program := "ytlomhfknmhaboaagreatdoor", sum := "b13e30389e4523a38a43b297939a6b0cb2036ce74fb5abf6aba2dba77189bd61", func := "schisma/schismalaw13.SizeCombines", spec := "sizeCombines", inPlace := ["internal/abi.NoEscape", "internal/bytealg.MakeNoZero"], unfollowed := true, recurses := true, named := ["internal/strconv.uint64pow10", "math/bits.deBruijn32tab", "math/bits.deBruijn64tab", "strconv.ErrSyntax", "strconv.ErrRange"], apart := false, laid := [("math/bits.deBruijn32tab", laid_math_bits_deBruijn32tab), ("math/bits.deBruijn64tab", laid_math_bits_deBruijn64tab), ("internal/strconv.uint64pow10", laid_internal_strconv_uint64pow10), ("strconv.ErrRange", laid_strconv_ErrRange), ("strconv.ErrSyntax", laid_strconv_ErrSyntax)] }
def SizeCombinesSaid : Prop := sizeCombinesRow.holds Tryz.pinned (OpenSpec.ofChange sizeCombinesSpec)

/-- ITS FALSE NEIGHBOUR: 'it returns false'. Refute it at one input. -/
def sizeCombinesWrong : ChangeSpec := { name := "sizeCombines", fn := fun _ => fun
  | [d1, d2, d3] => { results := [.lit (.bool false)], args := [d1, d2, d3] }
  | _ => none }
def SizeCombinesWrongFalsely : Prop := sizeCombinesRow.holds Tryz.pinned (OpenSpec.ofChange sizeCombinesWrong)

/-- 'schismalaw13.SizeOrders': WHATEVER THE INPUT: true; the input reads as it did. -/
def sizeOrdersSpec : ChangeSpec := { name := "sizeOrders", fn := fun _ => fun
  | [d1, d2, d3] => { results := [.lit (.bool true)], args := [d1, d2, d3] }
  | _ => none }
def sizeOrdersRow : OpenClaim := { program := "ytlomhfknmhaboaagreatdoor", sum := "b13e30389e4523a38a43b297939a6b0cb2036ce74fb5abf6aba2dba77189bd61", func := "schisma/schismalaw13.SizeOrders", spec := "sizeOrders", inPlace := ["internal/abi.NoEscape", "internal/bytealg.MakeNoZero"], unfollowed := true, recurses := true, named := ["internal/strconv.uint64pow10", "math/bits.deBruijn32tab", "math/bits.deBruijn64tab", "strconv.ErrSyntax", "strconv.ErrRange"], apart := false, laid := [("math/bits.deBruijn32tab", laid_math_bits_deBruijn32tab), ("math/bits.deBruijn64tab", laid_math_bits_deBruijn64tab), ("internal/strconv.uint64pow10", laid_internal_strconv_uint64pow10), ("strconv.ErrRange", laid_strconv_ErrRange), ("strconv.ErrSyntax", laid_strconv_ErrSyntax)] }
def SizeOrdersSaid : Prop := sizeOrdersRow.holds Tryz.pinned (OpenSpec.ofChange sizeOrdersSpec)

/-- ITS FALSE NEIGHBOUR: 'it returns false'. Refute it at one input. -/
def sizeOrdersWrong : ChangeSpec := { name := "sizeOrders", fn := fun _ => fun
  | [d1, d2, d3] => { results := [.lit (.bool false)], args := [d1, d2, d3] }
  | _ => none }
def SizeOrdersWrongFalsely : Prop := sizeOrdersRow.holds Tryz.pinned (OpenSpec.ofChange sizeOrdersWrong)

/-- 'schismalaw13.SizeAdds': WHATEVER THE INPUT: true; the input reads as it did. -/
def sizeAddsSpec : ChangeSpec := { name := "sizeAdds", fn := fun _ => fun
  | [d1, d2] => { results := [.lit (.bool true)], args := [d1, d2] }
  | _ => none }
def sizeAddsRow : OpenClaim := { program := "ytlomhfknmhaboaagreatdoor", sum := "b13e30389e4523a38a43b297939a6b0cb2036ce74fb5abf6aba2dba77189bd61", func := "schisma/schismalaw13.SizeAdds", spec := "sizeAdds", inPlace := ["internal/abi.NoEscape", "internal/bytealg.MakeNoZero"], unfollowed := true, recurses := true, named := ["internal/strconv.uint64pow10", "math/bits.deBruijn32tab", "math/bits.deBruijn64tab", "strconv.ErrSyntax", "strconv.ErrRange"], apart := false, laid := [("math/bits.deBruijn32tab", laid_math_bits_deBruijn32tab), ("math/bits.deBruijn64tab", laid_math_bits_deBruijn64tab), ("internal/strconv.uint64pow10", laid_internal_strconv_uint64pow10), ("strconv.ErrRange", laid_strconv_ErrRange), ("strconv.ErrSyntax", laid_strconv_ErrSyntax)] }
def SizeAddsSaid : Prop := sizeAddsRow.holds Tryz.pinned (OpenSpec.ofChange sizeAddsSpec)

/-- ITS FALSE NEIGHBOUR: 'it returns false'. Refute it at one input. -/
def sizeAddsWrong : ChangeSpec := { name := "sizeAdds", fn := fun _ => fun
  | [d1, d2] => { results := [.lit (.bool false)], args := [d1, d2] }
  | _ => none }
def SizeAddsWrongFalsely : Prop := sizeAddsRow.holds Tryz.pinned (OpenSpec.ofChange sizeAddsWrong)

/-- 'schismalaw13.SizeSigns': WHATEVER THE INPUT: true; the input reads as it did. -/
def sizeSignsSpec : ChangeSpec := { name := "sizeSigns", fn := fun _ => fun
  | [d] => { results := [.lit (.bool true)], args := [d] }
  | _ => none }
def sizeSignsRow : OpenClaim := { program := "ytlomhfknmhaboaagreatdoor", sum := "b13e30389e4523a38a43b297939a6b0cb2036ce74fb5abf6aba2dba77189bd61", func := "schisma/schismalaw13.SizeSigns", spec := "sizeSigns", inPlace := ["internal/abi.NoEscape", "internal/bytealg.MakeNoZero"], unfollowed := true, recurses := true, named := ["internal/strconv.uint64pow10", "math/bits.deBruijn32tab", "math/bits.deBruijn64tab", "strconv.ErrSyntax", "strconv.ErrRange"], apart := false, laid := [("math/bits.deBruijn32tab", laid_math_bits_deBruijn32tab), ("math/bits.deBruijn64tab", laid_math_bits_deBruijn64tab), ("internal/strconv.uint64pow10", laid_internal_strconv_uint64pow10), ("strconv.ErrRange", laid_strconv_ErrRange), ("strconv.ErrSyntax", laid_strconv_ErrSyntax)] }
def SizeSignsSaid : Prop := sizeSignsRow.holds Tryz.pinned (OpenSpec.ofChange sizeSignsSpec)

/-- ITS FALSE NEIGHBOUR: 'it returns false'. Refute it at one input. -/
def sizeSignsWrong : ChangeSpec := { name := "sizeSigns", fn := fun _ => fun
  | [d] => { results := [.lit (.bool false)], args := [d] }
  | _ => none }
def SizeSignsWrongFalsely : Prop := sizeSignsRow.holds Tryz.pinned (OpenSpec.ofChange sizeSignsWrong)

/-- 'schismalaw13.SizeFloors': WHATEVER THE INPUT: true; the input reads as it did. -/
def sizeFloorsSpec : ChangeSpec := { name := "sizeFloors", fn := fun _ => fun
  | [d] => { results := [.lit (.bool true)], args := [d] }
  | _ => none }
def sizeFloorsRow : OpenClaim := { program := "ytlomhfknmhaboaagreatdoor", sum := "b13e30389e4523a38a43b297939a6b0cb2036ce74fb5abf6aba2dba77189bd61", func := "schisma/schismalaw13.SizeFloors", spec := "sizeFloors", inPlace := ["internal/abi.NoEscape", "internal/bytealg.MakeNoZero"], unfollowed := true, recurses := true, named := ["internal/strconv.uint64pow10", "math/bits.deBruijn32tab", "math/bits.deBruijn64tab", "strconv.ErrSyntax", "strconv.ErrRange"], apart := false, laid := [("math/bits.deBruijn32tab", laid_math_bits_deBruijn32tab), ("math/bits.deBruijn64tab", laid_math_bits_deBruijn64tab), ("internal/strconv.uint64pow10", laid_internal_strconv_uint64pow10), ("strconv.ErrRange", laid_strconv_ErrRange), ("strconv.ErrSyntax", laid_strconv_ErrSyntax)] }
def SizeFloorsSaid : Prop := sizeFloorsRow.holds Tryz.pinned (OpenSpec.ofChange sizeFloorsSpec)

/-- ITS FALSE NEIGHBOUR: 'it returns false'. Refute it at one input. -/
def sizeFloorsWrong : ChangeSpec := { name := "sizeFloors", fn := fun _ => fun
  | [d] => { results := [.lit (.bool false)], args := [d] }
  | _ => none }
def SizeFloorsWrongFalsely : Prop := sizeFloorsRow.holds Tryz.pinned (OpenSpec.ofChange sizeFloorsWrong)

/-- 'schismalaw13.SizeIntervals': WHATEVER THE INPUT: true; the input reads as it did. -/
def sizeIntervalsSpec : ChangeSpec := { name := "sizeIntervals", fn := fun _ => fun
  | [d1, d2] => { results := [.lit (.bool true)], args := [d1, d2] }
  | _ => none }
def sizeIntervalsRow : OpenClaim := { program := "ytlomhfknmhaboaagreatdoor", sum := "b13e30389e4523a38a43b297939a6b0cb2036ce74fb5abf6aba2dba77189bd61", func := "schisma/schismalaw13.SizeIntervals", spec := "sizeIntervals", inPlace := ["internal/abi.NoEscape", "internal/bytealg.MakeNoZero"], unfollowed := true, recurses := true, named := ["internal/strconv.uint64pow10", "math/bits.deBruijn32tab", "math/bits.deBruijn64tab", "strconv.ErrSyntax", "strconv.ErrRange"], apart := false, laid := [("math/bits.deBruijn32tab", laid_math_bits_deBruijn32tab), ("math/bits.deBruijn64tab", laid_math_bits_deBruijn64tab), ("internal/strconv.uint64pow10", laid_internal_strconv_uint64pow10), ("strconv.ErrRange", laid_strconv_ErrRange), ("strconv.ErrSyntax", laid_strconv_ErrSyntax)] }
def SizeIntervalsSaid : Prop := sizeIntervalsRow.holds Tryz.pinned (OpenSpec.ofChange sizeIntervalsSpec)

/-- ITS FALSE NEIGHBOUR: 'it returns false'. Refute it at one input. -/
def sizeIntervalsWrong : ChangeSpec := { name := "sizeIntervals", fn := fun _ => fun
  | [d1, d2] => { results := [.lit (.bool false)], args := [d1, d2] }
  | _ => none }
def SizeIntervalsWrongFalsely : Prop := sizeIntervalsRow.holds Tryz.pinned (OpenSpec.ofChange sizeIntervalsWrong)

/-- 'schismalaw13.SizeMatches': WHATEVER THE INPUT: true; the input reads as it did. -/
def sizeMatchesSpec : ChangeSpec := { name := "sizeMatches", fn := fun _ => fun
  | [d] => { results := [.lit (.bool true)], args := [d] }
  | _ => none }
def sizeMatchesRow : OpenClaim := { program := "ytlomhfknmhaboaagreatdoor", sum := "b13e30389e4523a38a43b297939a6b0cb2036ce74fb5abf6aba2dba77189bd61", func := "schisma/schismalaw13.SizeMatches", spec := "sizeMatches", inPlace := ["internal/abi.NoEscape", "internal/bytealg.MakeNoZero"], unfollowed := true, recurses := true, named := ["internal/strconv.uint64pow10", "math/bits.deBruijn32tab", "math/bits.deBruijn64tab", "strconv.ErrSyntax", "strconv.ErrRange"], apart := false, laid := [("math/bits.deBruijn32tab", laid_math_bits_deBruijn32tab), ("math/bits.deBruijn64tab", laid_math_bits_deBruijn64tab), ("internal/strconv.uint64pow10", laid_internal_strconv_uint64pow10), ("strconv.ErrRange", laid_strconv_ErrRange), ("strconv.ErrSyntax", laid_strconv_ErrSyntax)] }
def SizeMatchesSaid : Prop := sizeMatchesRow.holds Tryz.pinned (OpenSpec.ofChange sizeMatchesSpec)

/-- ITS FALSE NEIGHBOUR: 'it returns false'. Refute it at one input. -/
def sizeMatchesWrong : ChangeSpec := { name := "sizeMatches", fn := fun _ => fun
  | [d] => { results := [.lit (.bool false)], args := [d] }
  | _ => none }
def SizeMatchesWrongFalsely : Prop := sizeMatchesRow.holds Tryz.pinned (OpenSpec.ofChange sizeMatchesWrong)

/-- 'schismalaw13.SizeSorts': WHATEVER THE INPUT: true; the input reads as it did. -/
def sizeSortsSpec : ChangeSpec := { name := "sizeSorts", fn := fun _ => fun
  | [d1, d2] => { results := [.lit (.bool true)], args := [d1, d2] }
  | _ => none }
def sizeSortsRow : OpenClaim := { program := "ytlomhfknmhaboaagreatdoor", sum := "b13e30389e4523a38a43b297939a6b0cb2036ce74fb5abf6aba2dba77189bd61", func := "schisma/schismalaw13.SizeSorts", spec := "sizeSorts", inPlace := ["internal/abi.NoEscape", "internal/bytealg.MakeNoZero"], unfollowed := true, recurses := true, named := ["internal/strconv.uint64pow10", "math/bits.deBruijn32tab", "math/bits.deBruijn64tab", "strconv.ErrSyntax", "strconv.ErrRange"], apart := false, laid := [("math/bits.deBruijn32tab", laid_math_bits_deBruijn32tab), ("math/bits.deBruijn64tab", laid_math_bits_deBruijn64tab), ("internal/strconv.uint64pow10", laid_internal_strconv_uint64pow10), ("strconv.ErrRange", laid_strconv_ErrRange), ("strconv.ErrSyntax", laid_strconv_ErrSyntax)] }
def SizeSortsSaid : Prop := sizeSortsRow.holds Tryz.pinned (OpenSpec.ofChange sizeSortsSpec)

/-- ITS FALSE NEIGHBOUR: 'it returns false'. Refute it at one input. -/
def sizeSortsWrong : ChangeSpec := { name := "sizeSorts", fn := fun _ => fun
  | [d1, d2] => { results := [.lit (.bool false)], args := [d1, d2] }
  | _ => none }
def SizeSortsWrongFalsely : Prop := sizeSortsRow.holds Tryz.pinned (OpenSpec.ofChange sizeSortsWrong)

/-- 'schismalaw13.SizeChecks': WHATEVER THE INPUT: true; the input reads as it did. -/
def sizeChecksSpec : ChangeSpec := { name := "sizeChecks", fn := fun _ => fun
  | [d1, d2, d3] => { results := [.lit (.bool true)], args := [d1, d2, d3] }
  | _ => none }
def sizeChecksRow : OpenClaim := { program := "ytlomhfknmhaboaagreatdoor", sum := "b13e30389e4523a38a43b297939a6b0cb2036ce74fb5abf6aba2dba77189bd61", func := "schisma/schismalaw13.SizeChecks", spec := "sizeChecks", inPlace := ["internal/abi.NoEscape", "internal/bytealg.MakeNoZero"], unfollowed := true, recurses := true, named := ["internal/strconv.uint64pow10", "math/bits.deBruijn32tab", "math/bits.deBruijn64tab", "strconv.ErrSyntax", "strconv.ErrRange"], apart := false, laid := [("math/bits.deBruijn32tab", laid_math_bits_deBruijn32tab), ("math/bits.deBruijn64tab", laid_math_bits_deBruijn64tab), ("internal/strconv.uint64pow10", laid_internal_strconv_uint64pow10), ("strconv.ErrRange", laid_strconv_ErrRange), ("strconv.ErrSyntax", laid_strconv_ErrSyntax)] }
def SizeChecksSaid : Prop := sizeChecksRow.holds Tryz.pinned (OpenSpec.ofChange sizeChecksSpec)

/-- ITS FALSE NEIGHBOUR: 'it returns false'. Refute it at one input. -/
def sizeChecksWrong : ChangeSpec := { name := "sizeChecks", fn := fun _ => fun
  | [d1, d2, d3] => { results := [.lit (.bool false)], args := [d1, d2, d3] }
  | _ => none }
def SizeChecksWrongFalsely : Prop := sizeChecksRow.holds Tryz.pinned (OpenSpec.ofChange sizeChecksWrong)

/- THE SECOND FORM. 'bulk': how many values and letters a reading holds, each counted each time it is reached (what is shared counts as often as it is met; a slice's spare places count too). A statement '..UptoSaid' is the law's where the arguments, and the package variables that the reading takes, are together of bulk at most 1048576: NARROWER than '..Said'. Prove '..Said' where nothing that the law and all that it calls make is longer than what came in: it says more and counts as full. Else prove '..UptoSaid'. A law counts once. -/
mutual
def uptoBulk {H : Type} : DataW H → Nat
  | .lit (.string bytes) => bytes.length + 1
  | .lit _ => 1
  | .nil => 1
  | .ptr d => uptoBulk d + 1
  | .slice elems spare => uptoBulkAll elems + uptoBulkAll spare + 1
  | .agg parts => uptoBulkAll parts + 1
  | .iface _ d => uptoBulk d + 1
  | .map entries => uptoBulkEntries entries + 1
  | .held _ => 1
def uptoBulkAll {H : Type} : List (DataW H) → Nat
  | [] => 0
  | d :: r => uptoBulk d + uptoBulkAll r
def uptoBulkEntries {H : Type} : List (Lit × DataW H) → Nat
  | [] => 0
  | x :: r => uptoBulkEntry x + uptoBulkEntries r
def uptoBulkEntry {H : Type} : Lit × DataW H → Nat
  | (.string bytes, d) => bytes.length + uptoBulk d + 1
  | (_, d) => uptoBulk d + 1
 end
def uptoSmall : (H : Type) → List (DataW H) → Bool := fun _ ds => decide (uptoBulkAll ds ≤ 1048576)
def OpenSpec.upto (s : _root_.Go.ChangeSpec) : _root_.Go.OpenSpec := { _root_.Go.OpenSpec.ofChange s with cond := some uptoSmall }

/-- 'schismalaw13.SizeCombines', WHERE WHAT IT READS IS OF BULK AT MOST 1048576: true; the input reads as it did. -/
def sizeCombinesUptoRow : OpenClaim := { program := "ytlomhfknmhaboaagreatdoor", sum := "b13e30389e4523a38a43b297939a6b0cb2036ce74fb5abf6aba2dba77189bd61", func := "schisma/schismalaw13.SizeCombines", spec := "sizeCombines", inPlace := ["internal/abi.NoEscape", "internal/bytealg.MakeNoZero"], unfollowed := true, recurses := true, named := ["internal/strconv.uint64pow10", "math/bits.deBruijn32tab", "math/bits.deBruijn64tab", "strconv.ErrSyntax", "strconv.ErrRange"], apart := false, laid := [("math/bits.deBruijn32tab", laid_math_bits_deBruijn32tab), ("math/bits.deBruijn64tab", laid_math_bits_deBruijn64tab), ("internal/strconv.uint64pow10", laid_internal_strconv_uint64pow10), ("strconv.ErrRange", laid_strconv_ErrRange), ("strconv.ErrSyntax", laid_strconv_ErrSyntax)], narrowed := true }
def SizeCombinesUptoSaid : Prop := sizeCombinesUptoRow.holds Tryz.pinned (OpenSpec.upto sizeCombinesSpec)

/-- 'schismalaw13.SizeOrders', WHERE WHAT IT READS IS OF BULK AT MOST 1048576: true; the input reads as it did. -/
def sizeOrdersUptoRow : OpenClaim := { program := "ytlomhfknmhaboaagreatdoor", sum := "b13e30389e4523a38a43b297939a6b0cb2036ce74fb5abf6aba2dba77189bd61", func := "schisma/schismalaw13.SizeOrders", spec := "sizeOrders", inPlace := ["internal/abi.NoEscape", "internal/bytealg.MakeNoZero"], unfollowed := true, recurses := true, named := ["internal/strconv.uint64pow10", "math/bits.deBruijn32tab", "math/bits.deBruijn64tab", "strconv.ErrSyntax", "strconv.ErrRange"], apart := false, laid := [("math/bits.deBruijn32tab", laid_math_bits_deBruijn32tab), ("math/bits.deBruijn64tab", laid_math_bits_deBruijn64tab), ("internal/strconv.uint64pow10", laid_internal_strconv_uint64pow10), ("strconv.ErrRange", laid_strconv_ErrRange), ("strconv.ErrSyntax", laid_strconv_ErrSyntax)], narrowed := true }
def SizeOrdersUptoSaid : Prop := sizeOrdersUptoRow.holds Tryz.pinned (OpenSpec.upto sizeOrdersSpec)

/-- 'schismalaw13.SizeAdds', WHERE WHAT IT READS IS OF BULK AT MOST 1048576: true; the input reads as it did. -/
def sizeAddsUptoRow : OpenClaim := { program := "ytlomhfknmhaboaagreatdoor", sum := "b13e30389e4523a38a43b297939a6b0cb2036ce74fb5abf6aba2dba77189bd61", func := "schisma/schismalaw13.SizeAdds", spec := "sizeAdds", inPlace := ["internal/abi.NoEscape", "internal/bytealg.MakeNoZero"], unfollowed := true, recurses := true, named := ["internal/strconv.uint64pow10", "math/bits.deBruijn32tab", "math/bits.deBruijn64tab", "strconv.ErrSyntax", "strconv.ErrRange"], apart := false, laid := [("math/bits.deBruijn32tab", laid_math_bits_deBruijn32tab), ("math/bits.deBruijn64tab", laid_math_bits_deBruijn64tab), ("internal/strconv.uint64pow10", laid_internal_strconv_uint64pow10), ("strconv.ErrRange", laid_strconv_ErrRange), ("strconv.ErrSyntax", laid_strconv_ErrSyntax)], narrowed := true }
def SizeAddsUptoSaid : Prop := sizeAddsUptoRow.holds Tryz.pinned (OpenSpec.upto sizeAddsSpec)

/-- 'schismalaw13.SizeSigns', WHERE WHAT IT READS IS OF BULK AT MOST 1048576: true; the input reads as it did. -/
def sizeSignsUptoRow : OpenClaim := { program := "ytlomhfknmhaboaagreatdoor", sum := "b13e30389e4523a38a43b297939a6b0cb2036ce74fb5abf6aba2dba77189bd61", func := "schisma/schismalaw13.SizeSigns", spec := "sizeSigns", inPlace := ["internal/abi.NoEscape", "internal/bytealg.MakeNoZero"], unfollowed := true, recurses := true, named := ["internal/strconv.uint64pow10", "math/bits.deBruijn32tab", "math/bits.deBruijn64tab", "strconv.ErrSyntax", "strconv.ErrRange"], apart := false, laid := [("math/bits.deBruijn32tab", laid_math_bits_deBruijn32tab), ("math/bits.deBruijn64tab", laid_math_bits_deBruijn64tab), ("internal/strconv.uint64pow10", laid_internal_strconv_uint64pow10), ("strconv.ErrRange", laid_strconv_ErrRange), ("strconv.ErrSyntax", laid_strconv_ErrSyntax)], narrowed := true }
def SizeSignsUptoSaid : Prop := sizeSignsUptoRow.holds Tryz.pinned (OpenSpec.upto sizeSignsSpec)

/-- 'schismalaw13.SizeFloors', WHERE WHAT IT READS IS OF BULK AT MOST 1048576: true; the input reads as it did. -/
def sizeFloorsUptoRow : OpenClaim := { program := "ytlomhfknmhaboaagreatdoor", sum := "b13e30389e4523a38a43b297939a6b0cb2036ce74fb5abf6aba2dba77189bd61", func := "schisma/schismalaw13.SizeFloors", spec := "sizeFloors", inPlace := ["internal/abi.NoEscape", "internal/bytealg.MakeNoZero"], unfollowed := true, recurses := true, named := ["internal/strconv.uint64pow10", "math/bits.deBruijn32tab", "math/bits.deBruijn64tab", "strconv.ErrSyntax", "strconv.ErrRange"], apart := false, laid := [("math/bits.deBruijn32tab", laid_math_bits_deBruijn32tab), ("math/bits.deBruijn64tab", laid_math_bits_deBruijn64tab), ("internal/strconv.uint64pow10", laid_internal_strconv_uint64pow10), ("strconv.ErrRange", laid_strconv_ErrRange), ("strconv.ErrSyntax", laid_strconv_ErrSyntax)], narrowed := true }
def SizeFloorsUptoSaid : Prop := sizeFloorsUptoRow.holds Tryz.pinned (OpenSpec.upto sizeFloorsSpec)

/-- 'schismalaw13.SizeIntervals', WHERE WHAT IT READS IS OF BULK AT MOST 1048576: true; the input reads as it did. -/
def sizeIntervalsUptoRow : OpenClaim := { program := "ytlomhfknmhaboaagreatdoor", sum := "b13e30389e4523a38a43b297939a6b0cb2036ce74fb5abf6aba2dba77189bd61", func := "schisma/schismalaw13.SizeIntervals", spec := "sizeIntervals", inPlace := ["internal/abi.NoEscape", "internal/bytealg.MakeNoZero"], unfollowed := true, recurses := true, named := ["internal/strconv.uint64pow10", "math/bits.deBruijn32tab", "math/bits.deBruijn64tab", "strconv.ErrSyntax", "strconv.ErrRange"], apart := false, laid := [("math/bits.deBruijn32tab", laid_math_bits_deBruijn32tab), ("math/bits.deBruijn64tab", laid_math_bits_deBruijn64tab), ("internal/strconv.uint64pow10", laid_internal_strconv_uint64pow10), ("strconv.ErrRange", laid_strconv_ErrRange), ("strconv.ErrSyntax", laid_strconv_ErrSyntax)], narrowed := true }
def SizeIntervalsUptoSaid : Prop := sizeIntervalsUptoRow.holds Tryz.pinned (OpenSpec.upto sizeIntervalsSpec)

/-- 'schismalaw13.SizeMatches', WHERE WHAT IT READS IS OF BULK AT MOST 1048576: true; the input reads as it did. -/
def sizeMatchesUptoRow : OpenClaim := { program := "ytlomhfknmhaboaagreatdoor", sum := "b13e30389e4523a38a43b297939a6b0cb2036ce74fb5abf6aba2dba77189bd61", func := "schisma/schismalaw13.SizeMatches", spec := "sizeMatches", inPlace := ["internal/abi.NoEscape", "internal/bytealg.MakeNoZero"], unfollowed := true, recurses := true, named := ["internal/strconv.uint64pow10", "math/bits.deBruijn32tab", "math/bits.deBruijn64tab", "strconv.ErrSyntax", "strconv.ErrRange"], apart := false, laid := [("math/bits.deBruijn32tab", laid_math_bits_deBruijn32tab), ("math/bits.deBruijn64tab", laid_math_bits_deBruijn64tab), ("internal/strconv.uint64pow10", laid_internal_strconv_uint64pow10), ("strconv.ErrRange", laid_strconv_ErrRange), ("strconv.ErrSyntax", laid_strconv_ErrSyntax)], narrowed := true }
def SizeMatchesUptoSaid : Prop := sizeMatchesUptoRow.holds Tryz.pinned (OpenSpec.upto sizeMatchesSpec)

/-- 'schismalaw13.SizeSorts', WHERE WHAT IT READS IS OF BULK AT MOST 1048576: true; the input reads as it did. -/
def sizeSortsUptoRow : OpenClaim := { program := "ytlomhfknmhaboaagreatdoor", sum := "b13e30389e4523a38a43b297939a6b0cb2036ce74fb5abf6aba2dba77189bd61", func := "schisma/schismalaw13.SizeSorts", spec := "sizeSorts", inPlace := ["internal/abi.NoEscape", "internal/bytealg.MakeNoZero"], unfollowed := true, recurses := true, named := ["internal/strconv.uint64pow10", "math/bits.deBruijn32tab", "math/bits.deBruijn64tab", "strconv.ErrSyntax", "strconv.ErrRange"], apart := false, laid := [("math/bits.deBruijn32tab", laid_math_bits_deBruijn32tab), ("math/bits.deBruijn64tab", laid_math_bits_deBruijn64tab), ("internal/strconv.uint64pow10", laid_internal_strconv_uint64pow10), ("strconv.ErrRange", laid_strconv_ErrRange), ("strconv.ErrSyntax", laid_strconv_ErrSyntax)], narrowed := true }
def SizeSortsUptoSaid : Prop := sizeSortsUptoRow.holds Tryz.pinned (OpenSpec.upto sizeSortsSpec)

/-- 'schismalaw13.SizeChecks', WHERE WHAT IT READS IS OF BULK AT MOST 1048576: true; the input reads as it did. -/
def sizeChecksUptoRow : OpenClaim := { program := "ytlomhfknmhaboaagreatdoor", sum := "b13e30389e4523a38a43b297939a6b0cb2036ce74fb5abf6aba2dba77189bd61", func := "schisma/schismalaw13.SizeChecks", spec := "sizeChecks", inPlace := ["internal/abi.NoEscape", "internal/bytealg.MakeNoZero"], unfollowed := true, recurses := true, named := ["internal/strconv.uint64pow10", "math/bits.deBruijn32tab", "math/bits.deBruijn64tab", "strconv.ErrSyntax", "strconv.ErrRange"], apart := false, laid := [("math/bits.deBruijn32tab", laid_math_bits_deBruijn32tab), ("math/bits.deBruijn64tab", laid_math_bits_deBruijn64tab), ("internal/strconv.uint64pow10", laid_internal_strconv_uint64pow10), ("strconv.ErrRange", laid_strconv_ErrRange), ("strconv.ErrSyntax", laid_strconv_ErrSyntax)], narrowed := true }
def SizeChecksUptoSaid : Prop := sizeChecksUptoRow.holds Tryz.pinned (OpenSpec.upto sizeChecksSpec)

end Rows
end Go.Proofs.YtlomhfknmhaboaaGreatDoor
