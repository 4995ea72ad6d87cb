/-
  NARROWER THAN 'FOR EVERY INPUT', by the rows' own cells (each row's printed sentence says how): IntervalMany: laid · IntervalWithin: laid · WordOf: laid · IntervalLists: laid · IntervalClasses: laid · IntervalReduces: laid · IntervalSteps: laid · WordBuilds: laid · IntervalSorts: laid.
  DERIVED. THE GIVEN ROWS OF THIS SEAT. 9 by the template 'for every input the law returns true; each argument reads behind the call as it read before'; 0 by the template 'total and deterministic' (their statements: YtkoicfghplmghaaGreatDoorTotals.lean).
  GIVEN WITH THE SEED: the statements are not yours to turn. If you find one false, say at which input.
  Laid BY PROGRAM, IN A SANDBOX (cutbox-rows.mjs): the forced cells as the released guide's own fill.sh prints them over the translation 641edc50e6072bf1… (all of the seat's roots in one cut). By AI agents, Wed Nov 11 2026. No macro, syntax, notation, axiom, sorry.
-/
import Derived.Test.YtkoicfghplmghaaGreatDoorChecked
import GoSem.Claim
import GoSem.ClaimJoined
import GoSem.ClaimMapViews
import Derived.JoinedTies
import Derived.KernelRfl
namespace Go.Proofs.YtkoicfghplmghaaGreatDoor
/- THE CELL 'sum', in the pinned program and in every row, IS THE sha256 OF THE DUMP (.gsa) THAT YtkoicfghplmghaaGreatDoorProg.lean LOADS. Nothing in Lean hashes anything: it is a label: what it is worth is what the hold of that sum in a sandbox is worth. -/
noncomputable def Tryz.pinned : Pinned := { name := "ytkoicfghplmghaagreatdoor", sum := "641edc50e6072bf143df0491e281ca4df9697866fbf8f25b14a30894436c03c3", checked := Tryz.checked }
namespace Rows
def none {H : Type} : Left H := { results := [], args := [] }

/- WHAT THE LISTED PACKAGE-LEVEL VARIABLES READ AS WHEN THE CALL BEGINS. Each datum BY PROGRAM (the guide's laid-datum.mjs) off the statement by which the dump's own 'gosem.cut.vars' lays the variable. In a bare row this is a premise. The card (YtkoicfghplmghaaGreatDoorCards.lean) ties it to the program's text. -/
def laid_math_bits_deBruijn32tab {H : Type} : DataW H := .agg [.lit (.int .u8 0), .lit (.int .u8 1), .lit (.int .u8 28), .lit (.int .u8 2), .lit (.int .u8 29), .lit (.int .u8 14), .lit (.int .u8 24), .lit (.int .u8 3), .lit (.int .u8 30), .lit (.int .u8 22), .lit (.int .u8 20), .lit (.int .u8 15), .lit (.int .u8 25), .lit (.int .u8 17), .lit (.int .u8 4), .lit (.int .u8 8), .lit (.int .u8 31), .lit (.int .u8 27), .lit (.int .u8 13), .lit (.int .u8 23), .lit (.int .u8 21), .lit (.int .u8 19), .lit (.int .u8 16), .lit (.int .u8 7), .lit (.int .u8 26), .lit (.int .u8 12), .lit (.int .u8 18), .lit (.int .u8 6), .lit (.int .u8 11), .lit (.int .u8 5), .lit (.int .u8 10), .lit (.int .u8 9)]
def laid_math_bits_deBruijn64tab {H : Type} : DataW H := .agg [.lit (.int .u8 0), .lit (.int .u8 1), .lit (.int .u8 56), .lit (.int .u8 2), .lit (.int .u8 57), .lit (.int .u8 49), .lit (.int .u8 28), .lit (.int .u8 3), .lit (.int .u8 61), .lit (.int .u8 58), .lit (.int .u8 42), .lit (.int .u8 50), .lit (.int .u8 38), .lit (.int .u8 29), .lit (.int .u8 17), .lit (.int .u8 4), .lit (.int .u8 62), .lit (.int .u8 47), .lit (.int .u8 59), .lit (.int .u8 36), .lit (.int .u8 45), .lit (.int .u8 43), .lit (.int .u8 51), .lit (.int .u8 22), .lit (.int .u8 53), .lit (.int .u8 39), .lit (.int .u8 33), .lit (.int .u8 30), .lit (.int .u8 24), .lit (.int .u8 18), .lit (.int .u8 12), .lit (.int .u8 5), .lit (.int .u8 63), .lit (.int .u8 55), .lit (.int .u8 48), .lit (.int .u8 27), .lit (.int .u8 60), .lit (.int .u8 41), .lit (.int .u8 37), .lit (.int .u8 16), .lit (.int .u8 46), .lit (.int .u8 35), .lit (.int .u8 44), .lit (.int .u8 21), .lit (.int .u8 52), .lit (.int .u8 32), .lit (.int .u8 23), .lit (.int .u8 11), .lit (.int .u8 54), .lit (.int .u8 26), .lit (.int .u8 40), .lit (.int .u8 15), .lit (.int .u8 34), .lit (.int .u8 20), .lit (.int .u8 31), .lit (.int .u8 10), .lit (.int .u8 25), .lit (.int .u8 14), .lit (.int .u8 19), .lit (.int .u8 9), .lit (.int .u8 13), .lit (.int .u8 8), .lit (.int .u8 7), .lit (.int .u8 6)]
def laid_internal_strconv_uint64pow10 {H : Type} : DataW H := .agg [.lit (.int .u64 1), .lit (.int .u64 10), .lit (.int .u64 100), .lit (.int .u64 1000), .lit (.int .u64 10000), .lit (.int .u64 100000), .lit (.int .u64 1000000), .lit (.int .u64 10000000), .lit (.int .u64 100000000), .lit (.int .u64 1000000000), .lit (.int .u64 10000000000), .lit (.int .u64 100000000000), .lit (.int .u64 1000000000000), .lit (.int .u64 10000000000000), .lit (.int .u64 100000000000000), .lit (.int .u64 1000000000000000), .lit (.int .u64 10000000000000000), .lit (.int .u64 100000000000000000), .lit (.int .u64 1000000000000000000), .lit (.int .u64 10000000000000000000)]
def laid_strconv_ErrRange {H : Type} : DataW H := .iface "*errors.errorString" (.ptr (.agg [.lit (.string [118, 97, 108, 117, 101, 32, 111, 117, 116, 32, 111, 102, 32, 114, 97, 110, 103, 101])]))
def laid_strconv_ErrSyntax {H : Type} : DataW H := .iface "*errors.errorString" (.ptr (.agg [.lit (.string [105, 110, 118, 97, 108, 105, 100, 32, 115, 121, 110, 116, 97, 120])]))

/-- 'schismalaw15.IntervalMany': WHATEVER THE INPUT: true; the input reads as it did. -/
def intervalManySpec : ChangeSpec := { name := "intervalMany", fn := fun _ => fun
  | [d1, d2] => { results := [.lit (.bool true)], args := [d1, d2] }
  | _ => none }
def intervalManyRow : OpenClaim := { program := "ytkoicfghplmghaagreatdoor", sum := "641edc50e6072bf143df0491e281ca4df9697866fbf8f25b14a30894436c03c3", func := "schisma/schismalaw15.IntervalMany", spec := "intervalMany", unfollowed := true, recurses := true, named := ["internal/strconv.uint64pow10", "math/bits.deBruijn32tab", "math/bits.deBruijn64tab", "strconv.ErrSyntax", "strconv.ErrRange"], apart := false, laid := [("math/bits.deBruijn32tab", laid_math_bits_deBruijn32tab), ("math/bits.deBruijn64tab", laid_math_bits_deBruijn64tab), ("internal/strconv.uint64pow10", laid_internal_strconv_uint64pow10), ("strconv.ErrRange", laid_strconv_ErrRange), ("strconv.ErrSyntax", laid_strconv_ErrSyntax)] }
def IntervalManySaid : Prop := intervalManyRow.holds Tryz.pinned (OpenSpec.ofChange intervalManySpec)

/-- ITS FALSE NEIGHBOUR: 'it returns false'. Refute it at one input. -/
def intervalManyWrong : ChangeSpec := { name := "intervalMany", fn := fun _ => fun
  | [d1, d2] => { results := [.lit (.bool false)], args := [d1, d2] }
  | _ => none }
def IntervalManyWrongFalsely : Prop := intervalManyRow.holds Tryz.pinned (OpenSpec.ofChange intervalManyWrong)

/-- 'schismalaw15.IntervalWithin': WHATEVER THE INPUT: true; the input reads as it did. -/
def intervalWithinSpec : ChangeSpec := { name := "intervalWithin", fn := fun _ => fun
  | [d1, d2] => { results := [.lit (.bool true)], args := [d1, d2] }
  | _ => none }
def intervalWithinRow : OpenClaim := { program := "ytkoicfghplmghaagreatdoor", sum := "641edc50e6072bf143df0491e281ca4df9697866fbf8f25b14a30894436c03c3", func := "schisma/schismalaw15.IntervalWithin", spec := "intervalWithin", unfollowed := true, recurses := true, named := ["internal/strconv.uint64pow10", "math/bits.deBruijn32tab", "math/bits.deBruijn64tab", "strconv.ErrSyntax", "strconv.ErrRange"], apart := false, laid := [("math/bits.deBruijn32tab", laid_math_bits_deBruijn32tab), ("math/bits.deBruijn64tab", laid_math_bits_deBruijn64tab), ("internal/strconv.uint64pow10", laid_internal_strconv_uint64pow10), ("strconv.ErrRange", laid_strconv_ErrRange), ("strconv.ErrSyntax", laid_strconv_ErrSyntax)] }
def IntervalWithinSaid : Prop := intervalWithinRow.holds Tryz.pinned (OpenSpec.ofChange intervalWithinSpec)

/-- ITS FALSE NEIGHBOUR: 'it returns false'. Refute it at one input. -/
def intervalWithinWrong : ChangeSpec := { name := "intervalWithin", fn := fun _ => fun
  | [d1, d2] => { results := [.lit (.bool false)], args := [d1, d2] }
  | _ => none }
def IntervalWithinWrongFalsely : Prop := intervalWithinRow.holds Tryz.pinned (OpenSpec.ofChange intervalWithinWrong)

/-- 'schismalaw34.WordOf': WHATEVER THE INPUT: true; the input reads as it did. -/
def wordOfSpec : ChangeSpec := { name := "wordOf", fn := fun _ => fun
  | [d1, d2, d3] => { results := [.lit (.bool true)], args := [d1, d2, d3] }
  | _ => none }
def wordOfRow : OpenClaim := { program := "ytkoicfghplmghaagreatdoor", sum := "641edc50e6072bf143df0491e281ca4df9697866fbf8f25b14a30894436c03c3", func := "schisma/schismalaw34.WordOf", spec := "wordOf", inPlace := ["internal/abi.NoEscape"], unfollowed := true, recurses := true, named := ["internal/strconv.uint64pow10", "math/bits.deBruijn32tab", "math/bits.deBruijn64tab", "strconv.ErrSyntax", "strconv.ErrRange"], apart := false, laid := [("math/bits.deBruijn32tab", laid_math_bits_deBruijn32tab), ("math/bits.deBruijn64tab", laid_math_bits_deBruijn64tab), ("internal/strconv.uint64pow10", laid_internal_strconv_uint64pow10), ("strconv.ErrRange", laid_strconv_ErrRange), ("strconv.ErrSyntax", laid_strconv_ErrSyntax)] }
def WordOfSaid : Prop := wordOfRow.holds Tryz.pinned (OpenSpec.ofChange wordOfSpec)

/-- ITS FALSE NEIGHBOUR: 'it returns false'. Refute it at one input. -/
def wordOfWrong : ChangeSpec := { name := "wordOf", fn := fun _ => fun
  | [d1, d2, d3] => { results := [.lit (.bool false)], args := [d1, d2, d3] }
  | _ => none }
def WordOfWrongFalsely : Prop := wordOfRow.holds Tryz.pinned (OpenSpec.ofChange wordOfWrong)

/-- 'schismalaw15.IntervalLists': WHATEVER THE INPUT: true; the input reads as it did. -/
def intervalListsSpec : ChangeSpec := { name := "intervalLists", fn := fun _ => fun
  | [d] => { results := [.lit (.bool true)], args := [d] }
  | _ => none }
def intervalListsRow : OpenClaim := { program := "ytkoicfghplmghaagreatdoor", sum := "641edc50e6072bf143df0491e281ca4df9697866fbf8f25b14a30894436c03c3", func := "schisma/schismalaw15.IntervalLists", spec := "intervalLists", unfollowed := true, recurses := true, named := ["internal/strconv.uint64pow10", "math/bits.deBruijn32tab", "math/bits.deBruijn64tab", "strconv.ErrSyntax", "strconv.ErrRange"], apart := false, laid := [("math/bits.deBruijn32tab", laid_math_bits_deBruijn32tab), ("math/bits.deBruijn64tab", laid_math_bits_deBruijn64tab), ("internal/strconv.uint64pow10", laid_internal_strconv_uint64pow10), ("strconv.ErrRange", laid_strconv_ErrRange), ("strconv.ErrSyntax", laid_strconv_ErrSyntax)] }
def IntervalListsSaid : Prop := intervalListsRow.holds Tryz.pinned (OpenSpec.ofChange intervalListsSpec)

/-- ITS FALSE NEIGHBOUR: 'it returns false'. Refute it at one input. -/
def intervalListsWrong : ChangeSpec := { name := "intervalLists", fn := fun _ => fun
  | [d] => { results := [.lit (.bool false)], args := [d] }
  | _ => none }
def IntervalListsWrongFalsely : Prop := intervalListsRow.holds Tryz.pinned (OpenSpec.ofChange intervalListsWrong)

/-- 'schismalaw15.IntervalClasses': WHATEVER THE INPUT: true; the input reads as it did. -/
def intervalClassesSpec : ChangeSpec := { name := "intervalClasses", fn := fun _ => fun
  | [d1, d2] => { results := [.lit (.bool true)], args := [d1, d2] }
  | _ => none }
def intervalClassesRow : OpenClaim := { program := "ytkoicfghplmghaagreatdoor", sum := "641edc50e6072bf143df0491e281ca4df9697866fbf8f25b14a30894436c03c3", func := "schisma/schismalaw15.IntervalClasses", spec := "intervalClasses", unfollowed := true, recurses := true, named := ["internal/strconv.uint64pow10", "math/bits.deBruijn32tab", "math/bits.deBruijn64tab", "strconv.ErrSyntax", "strconv.ErrRange"], apart := false, laid := [("math/bits.deBruijn32tab", laid_math_bits_deBruijn32tab), ("math/bits.deBruijn64tab", laid_math_bits_deBruijn64tab), ("internal/strconv.uint64pow10", laid_internal_strconv_uint64pow10), ("strconv.ErrRange", laid_strconv_ErrRange), ("strconv.ErrSyntax", laid_strconv_ErrSyntax)] }
def IntervalClassesSaid : Prop := intervalClassesRow.holds Tryz.pinned (OpenSpec.ofChange intervalClassesSpec)

/-- ITS FALSE NEIGHBOUR: 'it returns false'. Refute it at one input. -/
def intervalClassesWrong : ChangeSpec := { name := "intervalClasses", fn := fun _ => fun
  | [d1, d2] => { results := [.lit (.bool false)], args := [d1, d2] }
  | _ => none }
def IntervalClassesWrongFalsely : Prop := intervalClassesRow.holds Tryz.pinned (OpenSpec.ofChange intervalClassesWrong)

/-- 'schismalaw15.IntervalReduces': WHATEVER THE INPUT: true; the input reads as it did. -/
def intervalReducesSpec : ChangeSpec := { name := "intervalReduces", fn := fun _ => fun
  | [d1, d2, d3] => { results := [.lit (.bool true)], args := [d1, d2, d3] }
  | _ => none }
def intervalReducesRow : OpenClaim := { program := "ytkoicfghplmghaagreatdoor", sum := "641edc50e6072bf143df0491e281ca4df9697866fbf8f25b14a30894436c03c3", func := "schisma/schismalaw15.IntervalReduces", spec := "intervalReduces", unfollowed := true, recurses := true, named := ["internal/strconv.uint64pow10", "math/bits.deBruijn32tab", "math/bits.deBruijn64tab", "strconv.ErrSyntax", "strconv.ErrRange"], apart := false, laid := [("math/bits.deBruijn32tab", laid_math_bits_deBruijn32tab), ("math/bits.deBruijn64tab", laid_math_bits_deBruijn64tab), ("internal/strconv.uint64pow10", laid_internal_strconv_uint64pow10), ("strconv.ErrRange", laid_strconv_ErrRange), ("strconv.ErrSyntax", laid_strconv_ErrSyntax)] }
def IntervalReducesSaid : Prop := intervalReducesRow.holds Tryz.pinned (OpenSpec.ofChange intervalReducesSpec)

/-- ITS FALSE NEIGHBOUR: 'it returns false'. Refute it at one input. -/
def intervalReducesWrong : ChangeSpec := { name := "intervalReduces", fn := fun _ => fun
  | [d1, d2, d3] => { results := [.lit (.bool false)], args := [d1, d2, d3] }
  | _ => none }
def IntervalReducesWrongFalsely : Prop := intervalReducesRow.holds Tryz.pinned (OpenSpec.ofChange intervalReducesWrong)

/-- 'schismalaw15.IntervalSteps': WHATEVER THE INPUT: true; the input reads as it did. -/
def intervalStepsSpec : ChangeSpec := { name := "intervalSteps", fn := fun _ => fun
  | [d1, d2, d3] => { results := [.lit (.bool true)], args := [d1, d2, d3] }
  | _ => none }
def intervalStepsRow : OpenClaim := { program := "ytkoicfghplmghaagreatdoor", sum := "641edc50e6072bf143df0491e281ca4df9697866fbf8f25b14a30894436c03c3", func := "schisma/schismalaw15.IntervalSteps", spec := "intervalSteps", unfollowed := true, recurses := true, named := ["internal/strconv.uint64pow10", "math/bits.deBruijn32tab", "math/bits.deBruijn64tab", "strconv.ErrSyntax", "strconv.ErrRange"], apart := false, laid := [("math/bits.deBruijn32tab", laid_math_bits_deBruijn32tab), ("math/bits.deBruijn64tab", laid_math_bits_deBruijn64tab), ("internal/strconv.uint64pow10", laid_internal_strconv_uint64pow10), ("strconv.ErrRange", laid_strconv_ErrRange), ("strconv.ErrSyntax", laid_strconv_ErrSyntax)] }
def IntervalStepsSaid : Prop := intervalStepsRow.holds Tryz.pinned (OpenSpec.ofChange intervalStepsSpec)

/-- ITS FALSE NEIGHBOUR: 'it returns false'. Refute it at one input. -/
def intervalStepsWrong : ChangeSpec := { name := "intervalSteps", fn := fun _ => fun
  | [d1, d2, d3] => { results := [.lit (.bool false)], args := [d1, d2, d3] }
  | _ => none }
def IntervalStepsWrongFalsely : Prop := intervalStepsRow.holds Tryz.pinned (OpenSpec.ofChange intervalStepsWrong)

/-- 'schismalaw34.WordBuilds': WHATEVER THE INPUT: true; the input reads as it did. -/
def wordBuildsSpec : ChangeSpec := { name := "wordBuilds", fn := fun _ => fun
  | [d1, d2] => { results := [.lit (.bool true)], args := [d1, d2] }
  | _ => none }
def wordBuildsRow : OpenClaim := { program := "ytkoicfghplmghaagreatdoor", sum := "641edc50e6072bf143df0491e281ca4df9697866fbf8f25b14a30894436c03c3", func := "schisma/schismalaw34.WordBuilds", spec := "wordBuilds", inPlace := ["internal/abi.NoEscape"], unfollowed := true, recurses := true, named := ["internal/strconv.uint64pow10", "math/bits.deBruijn32tab", "math/bits.deBruijn64tab", "strconv.ErrSyntax", "strconv.ErrRange"], apart := false, laid := [("math/bits.deBruijn32tab", laid_math_bits_deBruijn32tab), ("math/bits.deBruijn64tab", laid_math_bits_deBruijn64tab), ("internal/strconv.uint64pow10", laid_internal_strconv_uint64pow10), ("strconv.ErrRange", laid_strconv_ErrRange), ("strconv.ErrSyntax", laid_strconv_ErrSyntax)] }
def WordBuildsSaid : Prop := wordBuildsRow.holds Tryz.pinned (OpenSpec.ofChange wordBuildsSpec)

/-- ITS FALSE NEIGHBOUR: 'it returns false'. Refute it at one input. -/
def wordBuildsWrong : ChangeSpec := { name := "wordBuilds", fn := fun _ => fun
  | [d1, d2] => { results := [.lit (.bool false)], args := [d1, d2] }
  | _ => none }
def WordBuildsWrongFalsely : Prop := wordBuildsRow.holds Tryz.pinned (OpenSpec.ofChange wordBuildsWrong)

/-- 'schismalaw15.IntervalSorts': WHATEVER THE INPUT: true; the input reads as it did. -/
def intervalSortsSpec : ChangeSpec := { name := "intervalSorts", fn := fun _ => fun
  | [d1, d2] => { results := [.lit (.bool true)], args := [d1, d2] }
  | _ => none }
def intervalSortsRow : OpenClaim := { program := "ytkoicfghplmghaagreatdoor", sum := "641edc50e6072bf143df0491e281ca4df9697866fbf8f25b14a30894436c03c3", func := "schisma/schismalaw15.IntervalSorts", spec := "intervalSorts", unfollowed := true, recurses := true, named := ["internal/strconv.uint64pow10", "math/bits.deBruijn32tab", "math/bits.deBruijn64tab", "strconv.ErrSyntax", "strconv.ErrRange"], apart := false, laid := [("math/bits.deBruijn32tab", laid_math_bits_deBruijn32tab), ("math/bits.deBruijn64tab", laid_math_bits_deBruijn64tab), ("internal/strconv.uint64pow10", laid_internal_strconv_uint64pow10), ("strconv.ErrRange", laid_strconv_ErrRange), ("strconv.ErrSyntax", laid_strconv_ErrSyntax)] }
def IntervalSortsSaid : Prop := intervalSortsRow.holds Tryz.pinned (OpenSpec.ofChange intervalSortsSpec)

/-- ITS FALSE NEIGHBOUR: 'it returns false'. Refute it at one input. -/
def intervalSortsWrong : ChangeSpec := { name := "intervalSorts", fn := fun _ => fun
  | [d1, d2] => { results := [.lit (.bool false)], args := [d1, d2] }
  | _ => none }
def IntervalSortsWrongFalsely : Prop := intervalSortsRow.holds Tryz.pinned (OpenSpec.ofChange intervalSortsWrong)

/- THE SECOND FORM. 'bulk': how many values and letters a reading holds, each counted each time it is reached (what is shared counts as often as it is met; a slice's spare places count too). A statement '..UptoSaid' is the law's where the arguments, and the package variables that the reading takes, are together of bulk at most 1048576: NARROWER than '..Said'. Prove '..Said' where nothing that the law and all that it calls make is longer than what came in: it says more and counts as full. Else prove '..UptoSaid'. A law counts once. -/
mutual
def uptoBulk {H : Type} : DataW H → Nat
  | .lit (.string bytes) => bytes.length + 1
  | .lit _ => 1
  | .nil => 1
  | .ptr d => uptoBulk d + 1
  | .slice elems spare => uptoBulkAll elems + uptoBulkAll spare + 1
  | .agg parts => uptoBulkAll parts + 1
  | .iface _ d => uptoBulk d + 1
  | .map entries => uptoBulkEntries entries + 1
  | .held _ => 1
def uptoBulkAll {H : Type} : List (DataW H) → Nat
  | [] => 0
  | d :: r => uptoBulk d + uptoBulkAll r
def uptoBulkEntries {H : Type} : List (Lit × DataW H) → Nat
  | [] => 0
  | x :: r => uptoBulkEntry x + uptoBulkEntries r
def uptoBulkEntry {H : Type} : Lit × DataW H → Nat
  | (.string bytes, d) => bytes.length + uptoBulk d + 1
  | (_, d) => uptoBulk d + 1
 end
def uptoSmall : (H : Type) → List (DataW H) → Bool := fun _ ds => decide (uptoBulkAll ds ≤ 1048576)
def OpenSpec.upto (s : _root_.Go.ChangeSpec) : _root_.Go.OpenSpec := { _root_.Go.OpenSpec.ofChange s with cond := some uptoSmall }

/-- 'schismalaw15.IntervalMany', WHERE WHAT IT READS IS OF BULK AT MOST 1048576: true; the input reads as it did. -/
def intervalManyUptoRow : OpenClaim := { program := "ytkoicfghplmghaagreatdoor", sum := "641edc50e6072bf143df0491e281ca4df9697866fbf8f25b14a30894436c03c3", func := "schisma/schismalaw15.IntervalMany", spec := "intervalMany", unfollowed := true, recurses := true, named := ["internal/strconv.uint64pow10", "math/bits.deBruijn32tab", "math/bits.deBruijn64tab", "strconv.ErrSyntax", "strconv.ErrRange"], apart := false, laid := [("math/bits.deBruijn32tab", laid_math_bits_deBruijn32tab), ("math/bits.deBruijn64tab", laid_math_bits_deBruijn64tab), ("internal/strconv.uint64pow10", laid_internal_strconv_uint64pow10), ("strconv.ErrRange", laid_strconv_ErrRange), ("strconv.ErrSyntax", laid_strconv_ErrSyntax)], narrowed := true }
def IntervalManyUptoSaid : Prop := intervalManyUptoRow.holds Tryz.pinned (OpenSpec.upto intervalManySpec)

/-- 'schismalaw15.IntervalWithin', WHERE WHAT IT READS IS OF BULK AT MOST 1048576: true; the input reads as it did. -/
def intervalWithinUptoRow : OpenClaim := { program := "ytkoicfghplmghaagreatdoor", sum := "641edc50e6072bf143df0491e281ca4df9697866fbf8f25b14a30894436c03c3", func := "schisma/schismalaw15.IntervalWithin", spec := "intervalWithin", unfollowed := true, recurses := true, named := ["internal/strconv.uint64pow10", "math/bits.deBruijn32tab", "math/bits.deBruijn64tab", "strconv.ErrSyntax", "strconv.ErrRange"], apart := false, laid := [("math/bits.deBruijn32tab", laid_math_bits_deBruijn32tab), ("math/bits.deBruijn64tab", laid_math_bits_deBruijn64tab), ("internal/strconv.uint64pow10", laid_internal_strconv_uint64pow10), ("strconv.ErrRange", laid_strconv_ErrRange), ("strconv.ErrSyntax", laid_strconv_ErrSyntax)], narrowed := true }
def IntervalWithinUptoSaid : Prop := intervalWithinUptoRow.holds Tryz.pinned (OpenSpec.upto intervalWithinSpec)

/-- 'schismalaw34.WordOf', WHERE WHAT IT READS IS OF BULK AT MOST 1048576: true; the input reads as it did. -/
def wordOfUptoRow : OpenClaim := { program := "ytkoicfghplmghaagreatdoor", sum := "641edc50e6072bf143df0491e281ca4df9697866fbf8f25b14a30894436c03c3", func := "schisma/schismalaw34.WordOf", spec := "wordOf", inPlace := ["internal/abi.NoEscape"], unfollowed := true, recurses := true, named := ["internal/strconv.uint64pow10", "math/bits.deBruijn32tab", "math/bits.deBruijn64tab", "strconv.ErrSyntax", "strconv.ErrRange"], apart := false, laid := [("math/bits.deBruijn32tab", laid_math_bits_deBruijn32tab), ("math/bits.deBruijn64tab", laid_math_bits_deBruijn64tab), ("internal/strconv.uint64pow10", laid_internal_strconv_uint64pow10), ("strconv.ErrRange", laid_strconv_ErrRange), ("strconv.ErrSyntax", laid_strconv_ErrSyntax)], narrowed := true }
def WordOfUptoSaid : Prop := wordOfUptoRow.holds Tryz.pinned (OpenSpec.upto wordOfSpec)

/-- 'schismalaw15.IntervalLists', WHERE WHAT IT READS IS OF BULK AT MOST 1048576: true; the input reads as it did. -/
def intervalListsUptoRow : OpenClaim := { program := "ytkoicfghplmghaagreatdoor", sum := "641edc50e6072bf143df0491e281ca4df9697866fbf8f25b14a30894436c03c3", func := "schisma/schismalaw15.IntervalLists", spec := "intervalLists", unfollowed := true, recurses := true, named := ["internal/strconv.uint64pow10", "math/bits.deBruijn32tab", "math/bits.deBruijn64tab", "strconv.ErrSyntax", "strconv.ErrRange"], apart := false, laid := [("math/bits.deBruijn32tab", laid_math_bits_deBruijn32tab), ("math/bits.deBruijn64tab", laid_math_bits_deBruijn64tab), ("internal/strconv.uint64pow10", laid_internal_strconv_uint64pow10), ("strconv.ErrRange", laid_strconv_ErrRange), ("strconv.ErrSyntax", laid_strconv_ErrSyntax)], narrowed := true }
def IntervalListsUptoSaid : Prop := intervalListsUptoRow.holds Tryz.pinned (OpenSpec.upto intervalListsSpec)

/-- 'schismalaw15.IntervalClasses', WHERE WHAT IT READS IS OF BULK AT MOST 1048576: true; the input reads as it did. -/
def intervalClassesUptoRow : OpenClaim := { program := "ytkoicfghplmghaagreatdoor", sum := "641edc50e6072bf143df0491e281ca4df9697866fbf8f25b14a30894436c03c3", func := "schisma/schismalaw15.IntervalClasses", spec := "intervalClasses", unfollowed := true, recurses := true, named := ["internal/strconv.uint64pow10", "math/bits.deBruijn32tab", "math/bits.deBruijn64tab", "strconv.ErrSyntax", "strconv.ErrRange"], apart := false, laid := [("math/bits.deBruijn32tab", laid_math_bits_deBruijn32tab), ("math/bits.deBruijn64tab", laid_math_bits_deBruijn64tab), ("internal/strconv.uint64pow10", laid_internal_strconv_uint64pow10), ("strconv.ErrRange", laid_strconv_ErrRange), ("strconv.ErrSyntax", laid_strconv_ErrSyntax)], narrowed := true }
def IntervalClassesUptoSaid : Prop := intervalClassesUptoRow.holds Tryz.pinned (OpenSpec.upto intervalClassesSpec)

/-- 'schismalaw15.IntervalReduces', WHERE WHAT IT READS IS OF BULK AT MOST 1048576: true; the input reads as it did. -/
def intervalReducesUptoRow : OpenClaim := { program := "ytkoicfghplmghaagreatdoor", sum := "641edc50e6072bf143df0491e281ca4df9697866fbf8f25b14a30894436c03c3", func := "schisma/schismalaw15.IntervalReduces", spec := "intervalReduces", unfollowed := true, recurses := true, named := ["internal/strconv.uint64pow10", "math/bits.deBruijn32tab", "math/bits.deBruijn64tab", "strconv.ErrSyntax", "strconv.ErrRange"], apart := false, laid := [("math/bits.deBruijn32tab", laid_math_bits_deBruijn32tab), ("math/bits.deBruijn64tab", laid_math_bits_deBruijn64tab), ("internal/strconv.uint64pow10", laid_internal_strconv_uint64pow10), ("strconv.ErrRange", laid_strconv_ErrRange), ("strconv.ErrSyntax", laid_strconv_ErrSyntax)], narrowed := true }
def IntervalReducesUptoSaid : Prop := intervalReducesUptoRow.holds Tryz.pinned (OpenSpec.upto intervalReducesSpec)

/-- 'schismalaw15.IntervalSteps', WHERE WHAT IT READS IS OF BULK AT MOST 1048576: true; the input reads as it did. -/
def intervalStepsUptoRow : OpenClaim := { program := "ytkoicfghplmghaagreatdoor", sum := "641edc50e6072bf143df0491e281ca4df9697866fbf8f25b14a30894436c03c3", func := "schisma/schismalaw15.IntervalSteps", spec := "intervalSteps", unfollowed := true, recurses := true, named := ["internal/strconv.uint64pow10", "math/bits.deBruijn32tab", "math/bits.deBruijn64tab", "strconv.ErrSyntax", "strconv.ErrRange"], apart := false, laid := [("math/bits.deBruijn32tab", laid_math_bits_deBruijn32tab), ("math/bits.deBruijn64tab", laid_math_bits_deBruijn64tab), ("internal/strconv.uint64pow10", laid_internal_strconv_uint64pow10), ("strconv.ErrRange", laid_strconv_ErrRange), ("strconv.ErrSyntax", laid_strconv_ErrSyntax)], narrowed := true }
def IntervalStepsUptoSaid : Prop := intervalStepsUptoRow.holds Tryz.pinned (OpenSpec.upto intervalStepsSpec)

/-- 'schismalaw34.WordBuilds', WHERE WHAT IT READS IS OF BULK AT MOST 1048576: true; the input reads as it did. -/
def wordBuildsUptoRow : OpenClaim := { program := "ytkoicfghplmghaagreatdoor", sum := "641edc50e6072bf143df0491e281ca4df9697866fbf8f25b14a30894436c03c3", func := "schisma/schismalaw34.WordBuilds", spec := "wordBuilds", inPlace := ["internal/abi.NoEscape"], unfollowed := true, recurses := true, named := ["internal/strconv.uint64pow10", "math/bits.deBruijn32tab", "math/bits.deBruijn64tab", "strconv.ErrSyntax", "strconv.ErrRange"], apart := false, laid := [("math/bits.deBruijn32tab", laid_math_bits_deBruijn32tab), ("math/bits.deBruijn64tab", laid_math_bits_deBruijn64tab), ("internal/strconv.uint64pow10", laid_internal_strconv_uint64pow10), ("strconv.ErrRange", laid_strconv_ErrRange), ("strconv.ErrSyntax", laid_strconv_ErrSyntax)], narrowed := true }
def WordBuildsUptoSaid : Prop := wordBuildsUptoRow.holds Tryz.pinned (OpenSpec.upto wordBuildsSpec)

/-- 'schismalaw15.IntervalSorts', WHERE WHAT IT READS IS OF BULK AT MOST 1048576: true; the input reads as it did. -/
def intervalSortsUptoRow : OpenClaim := { program := "ytkoicfghplmghaagreatdoor", sum := "641edc50e6072bf143df0491e281ca4df9697866fbf8f25b14a30894436c03c3", func := "schisma/schismalaw15.IntervalSorts", spec := "intervalSorts", unfollowed := true, recurses := true, named := ["internal/strconv.uint64pow10", "math/bits.deBruijn32tab", "math/bits.deBruijn64tab", "strconv.ErrSyntax", "strconv.ErrRange"], apart := false, laid := [("math/bits.deBruijn32tab", laid_math_bits_deBruijn32tab), ("math/bits.deBruijn64tab", laid_math_bits_deBruijn64tab), ("internal/strconv.uint64pow10", laid_internal_strconv_uint64pow10), ("strconv.ErrRange", laid_strconv_ErrRange), ("strconv.ErrSyntax", laid_strconv_ErrSyntax)], narrowed := true }
def IntervalSortsUptoSaid : Prop := intervalSortsUptoRow.holds Tryz.pinned (OpenSpec.upto intervalSortsSpec)

end Rows
end Go.Proofs.YtkoicfghplmghaaGreatDoor
