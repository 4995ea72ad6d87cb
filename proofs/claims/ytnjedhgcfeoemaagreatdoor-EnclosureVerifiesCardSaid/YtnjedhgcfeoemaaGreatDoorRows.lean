/-
  NARROWER THAN 'FOR EVERY INPUT', by the rows' own cells (each row's printed sentence says how): EnclosureGrows: laid · EnclosureErrors: laid · WordOf: laid · EnclosureOrders: laid · EnclosureEnds: laid · EnclosureNarrows: laid · EnclosureBounds: laid · EnclosureChecks: laid · WordBuilds: laid · EnclosureVerifies: laid · EnclosureCents: laid · EnclosureDecides: laid.
  DERIVED. THE GIVEN ROWS OF THIS SEAT. 12 by the template 'for every input the law returns true; each argument reads behind the call as it read before'; 0 by the template 'total and deterministic' (their statements: YtnjedhgcfeoemaaGreatDoorTotals.lean).
  GIVEN WITH THE SEED: the statements are not yours to turn. If you find one false, say at which input.
  Laid BY PROGRAM, IN A SANDBOX (cutbox-rows.mjs): the forced cells as the released guide's own fill.sh prints them over the translation fd7cc5364ad88947… (all of the seat's roots in one cut). By AI agents, Wed Nov 11 2026. No macro, syntax, notation, axiom, sorry.
-/
import Derived.Test.YtnjedhgcfeoemaaGreatDoorChecked
import GoSem.Claim
import GoSem.ClaimJoined
import GoSem.ClaimMapViews
import Derived.JoinedTies
import Derived.KernelRfl
namespace Go.Proofs.YtnjedhgcfeoemaaGreatDoor
/- THE CELL 'sum', in the pinned program and in every row, IS THE sha256 OF THE DUMP (.gsa) THAT YtnjedhgcfeoemaaGreatDoorProg.lean LOADS. Nothing in Lean hashes anything: it is a label: what it is worth is what the hold of that sum in a sandbox is worth. -/
noncomputable def Tryz.pinned : Pinned := { name := "ytnjedhgcfeoemaagreatdoor", sum := "fd7cc5364ad88947a5809cb99767d4e7b470943f4099ffbcc922eb8142494c25", checked := Tryz.checked }
namespace Rows
def none {H : Type} : Left H := { results := [], args := [] }

/- WHAT THE LISTED PACKAGE-LEVEL VARIABLES READ AS WHEN THE CALL BEGINS. Each datum BY PROGRAM (the guide's laid-datum.mjs) off the statement by which the dump's own 'gosem.cut.vars' lays the variable. In a bare row this is a premise. The card (YtnjedhgcfeoemaaGreatDoorCards.lean) ties it to the program's text. -/
def laid_math_bits_deBruijn32tab {H : Type} : DataW H := .agg [.lit (.int .u8 0), .lit (.int .u8 1), .lit (.int .u8 28), .lit (.int .u8 2), .lit (.int .u8 29), .lit (.int .u8 14), .lit (.int .u8 24), .lit (.int .u8 3), .lit (.int .u8 30), .lit (.int .u8 22), .lit (.int .u8 20), .lit (.int .u8 15), .lit (.int .u8 25), .lit (.int .u8 17), .lit (.int .u8 4), .lit (.int .u8 8), .lit (.int .u8 31), .lit (.int .u8 27), .lit (.int .u8 13), .lit (.int .u8 23), .lit (.int .u8 21), .lit (.int .u8 19), .lit (.int .u8 16), .lit (.int .u8 7), .lit (.int .u8 26), .lit (.int .u8 12), .lit (.int .u8 18), .lit (.int .u8 6), .lit (.int .u8 11), .lit (.int .u8 5), .lit (.int .u8 10), .lit (.int .u8 9)]
def laid_math_bits_deBruijn64tab {H : Type} : DataW H := .agg [.lit (.int .u8 0), .lit (.int .u8 1), .lit (.int .u8 56), .lit (.int .u8 2), .lit (.int .u8 57), .lit (.int .u8 49), .lit (.int .u8 28), .lit (.int .u8 3), .lit (.int .u8 61), .lit (.int .u8 58), .lit (.int .u8 42), .lit (.int .u8 50), .lit (.int .u8 38), .lit (.int .u8 29), .lit (.int .u8 17), .lit (.int .u8 4), .lit (.int .u8 62), .lit (.int .u8 47), .lit (.int .u8 59), .lit (.int .u8 36), .lit (.int .u8 45), .lit (.int .u8 43), .lit (.int .u8 51), .lit (.int .u8 22), .lit (.int .u8 53), .lit (.int .u8 39), .lit (.int .u8 33), .lit (.int .u8 30), .lit (.int .u8 24), .lit (.int .u8 18), .lit (.int .u8 12), .lit (.int .u8 5), .lit (.int .u8 63), .lit (.int .u8 55), .lit (.int .u8 48), .lit (.int .u8 27), .lit (.int .u8 60), .lit (.int .u8 41), .lit (.int .u8 37), .lit (.int .u8 16), .lit (.int .u8 46), .lit (.int .u8 35), .lit (.int .u8 44), .lit (.int .u8 21), .lit (.int .u8 52), .lit (.int .u8 32), .lit (.int .u8 23), .lit (.int .u8 11), .lit (.int .u8 54), .lit (.int .u8 26), .lit (.int .u8 40), .lit (.int .u8 15), .lit (.int .u8 34), .lit (.int .u8 20), .lit (.int .u8 31), .lit (.int .u8 10), .lit (.int .u8 25), .lit (.int .u8 14), .lit (.int .u8 19), .lit (.int .u8 9), .lit (.int .u8 13), .lit (.int .u8 8), .lit (.int .u8 7), .lit (.int .u8 6)]
def laid_internal_strconv_uint64pow10 {H : Type} : DataW H := .agg [.lit (.int .u64 1), .lit (.int .u64 10), .lit (.int .u64 100), .lit (.int .u64 1000), .lit (.int .u64 10000), .lit (.int .u64 100000), .lit (.int .u64 1000000), .lit (.int .u64 10000000), .lit (.int .u64 100000000), .lit (.int .u64 1000000000), .lit (.int .u64 10000000000), .lit (.int .u64 100000000000), .lit (.int .u64 1000000000000), .lit (.int .u64 10000000000000), .lit (.int .u64 100000000000000), .lit (.int .u64 1000000000000000), .lit (.int .u64 10000000000000000), .lit (.int .u64 100000000000000000), .lit (.int .u64 1000000000000000000), .lit (.int .u64 10000000000000000000)]
def laid_strconv_ErrRange {H : Type} : DataW H := .iface "*errors.errorString" (.ptr (.agg [.lit (.string [118, 97, 108, 117, 101, 32, 111, 117, 116, 32, 111, 102, 32, 114, 97, 110, 103, 101])]))
def laid_strconv_ErrSyntax {H : Type} : DataW H := .iface "*errors.errorString" (.ptr (.agg [.lit (.string [105, 110, 118, 97, 108, 105, 100, 32, 115, 121, 110, 116, 97, 120])]))

/-- 'schismalaw14.EnclosureGrows': WHATEVER THE INPUT: true; the input reads as it did. -/
def enclosureGrowsSpec : ChangeSpec := { name := "enclosureGrows", fn := fun _ => fun
  | [d1, d2] => { results := [.lit (.bool true)], args := [d1, d2] }
  | _ => none }
def enclosureGrowsRow : OpenClaim := { program := "ytnjedhgcfeoemaagreatdoor", sum := "fd7cc5364ad88947a5809cb99767d4e7b470943f4099ffbcc922eb8142494c25", func := "schisma/schismalaw14.EnclosureGrows", spec := "enclosureGrows", inPlace := ["math/bits.Add64", "internal/abi.NoEscape", "internal/bytealg.MakeNoZero"], unfollowed := true, recurses := true, named := ["internal/strconv.uint64pow10", "math/bits.deBruijn32tab", "math/bits.deBruijn64tab", "strconv.ErrSyntax", "strconv.ErrRange"], apart := false, laid := [("math/bits.deBruijn32tab", laid_math_bits_deBruijn32tab), ("math/bits.deBruijn64tab", laid_math_bits_deBruijn64tab), ("internal/strconv.uint64pow10", laid_internal_strconv_uint64pow10), ("strconv.ErrRange", laid_strconv_ErrRange), ("strconv.ErrSyntax", laid_strconv_ErrSyntax)] }
def EnclosureGrowsSaid : Prop := enclosureGrowsRow.holds Tryz.pinned (OpenSpec.ofChange enclosureGrowsSpec)

/-- ITS FALSE NEIGHBOUR: 'it returns false'. Refute it at one input. -/
def enclosureGrowsWrong : ChangeSpec := { name := "enclosureGrows", fn := fun _ => fun
  | [d1, d2] => { results := [.lit (.bool false)], args := [d1, d2] }
  | _ => none }
def EnclosureGrowsWrongFalsely : Prop := enclosureGrowsRow.holds Tryz.pinned (OpenSpec.ofChange enclosureGrowsWrong)

/-- 'schismalaw14.EnclosureErrors': WHATEVER THE INPUT: true; the input reads as it did. -/
def enclosureErrorsSpec : ChangeSpec := { name := "enclosureErrors", fn := fun _ => fun
  | [d1, d2] => { results := [.lit (.bool true)], args := [d1, d2] }
  | _ => none }
def enclosureErrorsRow : OpenClaim := { program := "ytnjedhgcfeoemaagreatdoor", sum := "fd7cc5364ad88947a5809cb99767d4e7b470943f4099ffbcc922eb8142494c25", func := "schisma/schismalaw14.EnclosureErrors", spec := "enclosureErrors", inPlace := ["math/bits.Add64", "internal/abi.NoEscape", "internal/bytealg.MakeNoZero"], unfollowed := true, recurses := true, named := ["internal/strconv.uint64pow10", "math/bits.deBruijn32tab", "math/bits.deBruijn64tab", "strconv.ErrSyntax", "strconv.ErrRange"], apart := false, laid := [("math/bits.deBruijn32tab", laid_math_bits_deBruijn32tab), ("math/bits.deBruijn64tab", laid_math_bits_deBruijn64tab), ("internal/strconv.uint64pow10", laid_internal_strconv_uint64pow10), ("strconv.ErrRange", laid_strconv_ErrRange), ("strconv.ErrSyntax", laid_strconv_ErrSyntax)] }
def EnclosureErrorsSaid : Prop := enclosureErrorsRow.holds Tryz.pinned (OpenSpec.ofChange enclosureErrorsSpec)

/-- ITS FALSE NEIGHBOUR: 'it returns false'. Refute it at one input. -/
def enclosureErrorsWrong : ChangeSpec := { name := "enclosureErrors", fn := fun _ => fun
  | [d1, d2] => { results := [.lit (.bool false)], args := [d1, d2] }
  | _ => none }
def EnclosureErrorsWrongFalsely : Prop := enclosureErrorsRow.holds Tryz.pinned (OpenSpec.ofChange enclosureErrorsWrong)

/-- 'schismalaw34.WordOf': WHATEVER THE INPUT: true; the input reads as it did. -/
def wordOfSpec : ChangeSpec := { name := "wordOf", fn := fun _ => fun
  | [d1, d2, d3] => { results := [.lit (.bool true)], args := [d1, d2, d3] }
  | _ => none }
def wordOfRow : OpenClaim := { program := "ytnjedhgcfeoemaagreatdoor", sum := "fd7cc5364ad88947a5809cb99767d4e7b470943f4099ffbcc922eb8142494c25", func := "schisma/schismalaw34.WordOf", spec := "wordOf", inPlace := ["internal/abi.NoEscape"], unfollowed := true, recurses := true, named := ["internal/strconv.uint64pow10", "math/bits.deBruijn32tab", "math/bits.deBruijn64tab", "strconv.ErrSyntax", "strconv.ErrRange"], apart := false, laid := [("math/bits.deBruijn32tab", laid_math_bits_deBruijn32tab), ("math/bits.deBruijn64tab", laid_math_bits_deBruijn64tab), ("internal/strconv.uint64pow10", laid_internal_strconv_uint64pow10), ("strconv.ErrRange", laid_strconv_ErrRange), ("strconv.ErrSyntax", laid_strconv_ErrSyntax)] }
def WordOfSaid : Prop := wordOfRow.holds Tryz.pinned (OpenSpec.ofChange wordOfSpec)

/-- ITS FALSE NEIGHBOUR: 'it returns false'. Refute it at one input. -/
def wordOfWrong : ChangeSpec := { name := "wordOf", fn := fun _ => fun
  | [d1, d2, d3] => { results := [.lit (.bool false)], args := [d1, d2, d3] }
  | _ => none }
def WordOfWrongFalsely : Prop := wordOfRow.holds Tryz.pinned (OpenSpec.ofChange wordOfWrong)

/-- 'schismalaw14.EnclosureOrders': WHATEVER THE INPUT: true; the input reads as it did. -/
def enclosureOrdersSpec : ChangeSpec := { name := "enclosureOrders", fn := fun _ => fun
  | [d] => { results := [.lit (.bool true)], args := [d] }
  | _ => none }
def enclosureOrdersRow : OpenClaim := { program := "ytnjedhgcfeoemaagreatdoor", sum := "fd7cc5364ad88947a5809cb99767d4e7b470943f4099ffbcc922eb8142494c25", func := "schisma/schismalaw14.EnclosureOrders", spec := "enclosureOrders", inPlace := ["math/bits.Add64", "internal/abi.NoEscape", "internal/bytealg.MakeNoZero"], unfollowed := true, recurses := true, named := ["internal/strconv.uint64pow10", "math/bits.deBruijn32tab", "math/bits.deBruijn64tab", "strconv.ErrSyntax", "strconv.ErrRange"], apart := false, laid := [("math/bits.deBruijn32tab", laid_math_bits_deBruijn32tab), ("math/bits.deBruijn64tab", laid_math_bits_deBruijn64tab), ("internal/strconv.uint64pow10", laid_internal_strconv_uint64pow10), ("strconv.ErrRange", laid_strconv_ErrRange), ("strconv.ErrSyntax", laid_strconv_ErrSyntax)] }
def EnclosureOrdersSaid : Prop := enclosureOrdersRow.holds Tryz.pinned (OpenSpec.ofChange enclosureOrdersSpec)

/-- ITS FALSE NEIGHBOUR: 'it returns false'. Refute it at one input. -/
def enclosureOrdersWrong : ChangeSpec := { name := "enclosureOrders", fn := fun _ => fun
  | [d] => { results := [.lit (.bool false)], args := [d] }
  | _ => none }
def EnclosureOrdersWrongFalsely : Prop := enclosureOrdersRow.holds Tryz.pinned (OpenSpec.ofChange enclosureOrdersWrong)

/-- 'schismalaw14.EnclosureEnds': WHATEVER THE INPUT: true; the input reads as it did. -/
def enclosureEndsSpec : ChangeSpec := { name := "enclosureEnds", fn := fun _ => fun
  | [d1, d2, d3] => { results := [.lit (.bool true)], args := [d1, d2, d3] }
  | _ => none }
def enclosureEndsRow : OpenClaim := { program := "ytnjedhgcfeoemaagreatdoor", sum := "fd7cc5364ad88947a5809cb99767d4e7b470943f4099ffbcc922eb8142494c25", func := "schisma/schismalaw14.EnclosureEnds", spec := "enclosureEnds", inPlace := ["math/bits.Add64", "internal/abi.NoEscape", "internal/bytealg.MakeNoZero"], unfollowed := true, recurses := true, named := ["internal/strconv.uint64pow10", "math/bits.deBruijn32tab", "math/bits.deBruijn64tab", "strconv.ErrSyntax", "strconv.ErrRange"], apart := false, laid := [("math/bits.deBruijn32tab", laid_math_bits_deBruijn32tab), ("math/bits.deBruijn64tab", laid_math_bits_deBruijn64tab), ("internal/strconv.uint64pow10", laid_internal_strconv_uint64pow10), ("strconv.ErrRange", laid_strconv_ErrRange), ("strconv.ErrSyntax", laid_strconv_ErrSyntax)] }
def EnclosureEndsSaid : Prop := enclosureEndsRow.holds Tryz.pinned (OpenSpec.ofChange enclosureEndsSpec)

/-- ITS FALSE NEIGHBOUR: 'it returns false'. Refute it at one input. -/
def enclosureEndsWrong : ChangeSpec := { name := "enclosureEnds", fn := fun _ => fun
  | [d1, d2, d3] => { results := [.lit (.bool false)], args := [d1, d2, d3] }
  | _ => none }
def EnclosureEndsWrongFalsely : Prop := enclosureEndsRow.holds Tryz.pinned (OpenSpec.ofChange enclosureEndsWrong)

/-- 'schismalaw14.EnclosureNarrows': WHATEVER THE INPUT: true; the input reads as it did. -/
def enclosureNarrowsSpec : ChangeSpec := { name := "enclosureNarrows", fn := fun _ => fun
  | [d1, d2, d3] => { results := [.lit (.bool true)], args := [d1, d2, d3] }
  | _ => none }
def enclosureNarrowsRow : OpenClaim := { program := "ytnjedhgcfeoemaagreatdoor", sum := "fd7cc5364ad88947a5809cb99767d4e7b470943f4099ffbcc922eb8142494c25", func := "schisma/schismalaw14.EnclosureNarrows", spec := "enclosureNarrows", inPlace := ["math/bits.Add64", "internal/abi.NoEscape", "internal/bytealg.MakeNoZero"], unfollowed := true, recurses := true, named := ["internal/strconv.uint64pow10", "math/bits.deBruijn32tab", "math/bits.deBruijn64tab", "strconv.ErrSyntax", "strconv.ErrRange"], apart := false, laid := [("math/bits.deBruijn32tab", laid_math_bits_deBruijn32tab), ("math/bits.deBruijn64tab", laid_math_bits_deBruijn64tab), ("internal/strconv.uint64pow10", laid_internal_strconv_uint64pow10), ("strconv.ErrRange", laid_strconv_ErrRange), ("strconv.ErrSyntax", laid_strconv_ErrSyntax)] }
def EnclosureNarrowsSaid : Prop := enclosureNarrowsRow.holds Tryz.pinned (OpenSpec.ofChange enclosureNarrowsSpec)

/-- ITS FALSE NEIGHBOUR: 'it returns false'. Refute it at one input. -/
def enclosureNarrowsWrong : ChangeSpec := { name := "enclosureNarrows", fn := fun _ => fun
  | [d1, d2, d3] => { results := [.lit (.bool false)], args := [d1, d2, d3] }
  | _ => none }
def EnclosureNarrowsWrongFalsely : Prop := enclosureNarrowsRow.holds Tryz.pinned (OpenSpec.ofChange enclosureNarrowsWrong)

/-- 'schismalaw14.EnclosureBounds': WHATEVER THE INPUT: true; the input reads as it did. -/
def enclosureBoundsSpec : ChangeSpec := { name := "enclosureBounds", fn := fun _ => fun
  | [d1, d2] => { results := [.lit (.bool true)], args := [d1, d2] }
  | _ => none }
def enclosureBoundsRow : OpenClaim := { program := "ytnjedhgcfeoemaagreatdoor", sum := "fd7cc5364ad88947a5809cb99767d4e7b470943f4099ffbcc922eb8142494c25", func := "schisma/schismalaw14.EnclosureBounds", spec := "enclosureBounds", inPlace := ["math/bits.Add64", "internal/abi.NoEscape", "internal/bytealg.MakeNoZero"], unfollowed := true, recurses := true, named := ["internal/strconv.uint64pow10", "math/bits.deBruijn32tab", "math/bits.deBruijn64tab", "strconv.ErrSyntax", "strconv.ErrRange"], apart := false, laid := [("math/bits.deBruijn32tab", laid_math_bits_deBruijn32tab), ("math/bits.deBruijn64tab", laid_math_bits_deBruijn64tab), ("internal/strconv.uint64pow10", laid_internal_strconv_uint64pow10), ("strconv.ErrRange", laid_strconv_ErrRange), ("strconv.ErrSyntax", laid_strconv_ErrSyntax)] }
def EnclosureBoundsSaid : Prop := enclosureBoundsRow.holds Tryz.pinned (OpenSpec.ofChange enclosureBoundsSpec)

/-- ITS FALSE NEIGHBOUR: 'it returns false'. Refute it at one input. -/
def enclosureBoundsWrong : ChangeSpec := { name := "enclosureBounds", fn := fun _ => fun
  | [d1, d2] => { results := [.lit (.bool false)], args := [d1, d2] }
  | _ => none }
def EnclosureBoundsWrongFalsely : Prop := enclosureBoundsRow.holds Tryz.pinned (OpenSpec.ofChange enclosureBoundsWrong)

/-- 'schismalaw14.EnclosureChecks': WHATEVER THE INPUT: true; the input reads as it did. -/
def enclosureChecksSpec : ChangeSpec := { name := "enclosureChecks", fn := fun _ => fun
  | [d] => { results := [.lit (.bool true)], args := [d] }
  | _ => none }
def enclosureChecksRow : OpenClaim := { program := "ytnjedhgcfeoemaagreatdoor", sum := "fd7cc5364ad88947a5809cb99767d4e7b470943f4099ffbcc922eb8142494c25", func := "schisma/schismalaw14.EnclosureChecks", spec := "enclosureChecks", inPlace := ["math/bits.Add64", "internal/abi.NoEscape", "internal/bytealg.MakeNoZero"], unfollowed := true, recurses := true, named := ["internal/strconv.uint64pow10", "math/bits.deBruijn32tab", "math/bits.deBruijn64tab", "strconv.ErrSyntax", "strconv.ErrRange"], apart := false, laid := [("math/bits.deBruijn32tab", laid_math_bits_deBruijn32tab), ("math/bits.deBruijn64tab", laid_math_bits_deBruijn64tab), ("internal/strconv.uint64pow10", laid_internal_strconv_uint64pow10), ("strconv.ErrRange", laid_strconv_ErrRange), ("strconv.ErrSyntax", laid_strconv_ErrSyntax)] }
def EnclosureChecksSaid : Prop := enclosureChecksRow.holds Tryz.pinned (OpenSpec.ofChange enclosureChecksSpec)

/-- ITS FALSE NEIGHBOUR: 'it returns false'. Refute it at one input. -/
def enclosureChecksWrong : ChangeSpec := { name := "enclosureChecks", fn := fun _ => fun
  | [d] => { results := [.lit (.bool false)], args := [d] }
  | _ => none }
def EnclosureChecksWrongFalsely : Prop := enclosureChecksRow.holds Tryz.pinned (OpenSpec.ofChange enclosureChecksWrong)

/-- 'schismalaw34.WordBuilds': WHATEVER THE INPUT: true; the input reads as it did. -/
def wordBuildsSpec : ChangeSpec := { name := "wordBuilds", fn := fun _ => fun
  | [d1, d2] => { results := [.lit (.bool true)], args := [d1, d2] }
  | _ => none }
def wordBuildsRow : OpenClaim := { program := "ytnjedhgcfeoemaagreatdoor", sum := "fd7cc5364ad88947a5809cb99767d4e7b470943f4099ffbcc922eb8142494c25", func := "schisma/schismalaw34.WordBuilds", spec := "wordBuilds", inPlace := ["internal/abi.NoEscape"], unfollowed := true, recurses := true, named := ["internal/strconv.uint64pow10", "math/bits.deBruijn32tab", "math/bits.deBruijn64tab", "strconv.ErrSyntax", "strconv.ErrRange"], apart := false, laid := [("math/bits.deBruijn32tab", laid_math_bits_deBruijn32tab), ("math/bits.deBruijn64tab", laid_math_bits_deBruijn64tab), ("internal/strconv.uint64pow10", laid_internal_strconv_uint64pow10), ("strconv.ErrRange", laid_strconv_ErrRange), ("strconv.ErrSyntax", laid_strconv_ErrSyntax)] }
def WordBuildsSaid : Prop := wordBuildsRow.holds Tryz.pinned (OpenSpec.ofChange wordBuildsSpec)

/-- ITS FALSE NEIGHBOUR: 'it returns false'. Refute it at one input. -/
def wordBuildsWrong : ChangeSpec := { name := "wordBuilds", fn := fun _ => fun
  | [d1, d2] => { results := [.lit (.bool false)], args := [d1, d2] }
  | _ => none }
def WordBuildsWrongFalsely : Prop := wordBuildsRow.holds Tryz.pinned (OpenSpec.ofChange wordBuildsWrong)

/-- 'schismalaw14.EnclosureVerifies': WHATEVER THE INPUT: true; the input reads as it did. -/
def enclosureVerifiesSpec : ChangeSpec := { name := "enclosureVerifies", fn := fun _ => fun
  | [d1, d2, d3] => { results := [.lit (.bool true)], args := [d1, d2, d3] }
  | _ => none }
def enclosureVerifiesRow : OpenClaim := { program := "ytnjedhgcfeoemaagreatdoor", sum := "fd7cc5364ad88947a5809cb99767d4e7b470943f4099ffbcc922eb8142494c25", func := "schisma/schismalaw14.EnclosureVerifies", spec := "enclosureVerifies", inPlace := ["math/bits.Add64", "internal/abi.NoEscape", "internal/bytealg.MakeNoZero"], unfollowed := true, recurses := true, named := ["internal/strconv.uint64pow10", "math/bits.deBruijn32tab", "math/bits.deBruijn64tab", "strconv.ErrSyntax", "strconv.ErrRange"], apart := false, laid := [("math/bits.deBruijn32tab", laid_math_bits_deBruijn32tab), ("math/bits.deBruijn64tab", laid_math_bits_deBruijn64tab), ("internal/strconv.uint64pow10", laid_internal_strconv_uint64pow10), ("strconv.ErrRange", laid_strconv_ErrRange), ("strconv.ErrSyntax", laid_strconv_ErrSyntax)] }
def EnclosureVerifiesSaid : Prop := enclosureVerifiesRow.holds Tryz.pinned (OpenSpec.ofChange enclosureVerifiesSpec)

/-- ITS FALSE NEIGHBOUR: 'it returns false'. Refute it at one input. -/
def enclosureVerifiesWrong : ChangeSpec := { name := "enclosureVerifies", fn := fun _ => fun
  | [d1, d2, d3] => { results := [.lit (.bool false)], args := [d1, d2, d3] }
  | _ => none }
def EnclosureVerifiesWrongFalsely : Prop := enclosureVerifiesRow.holds Tryz.pinned (OpenSpec.ofChange enclosureVerifiesWrong)

/-- 'schismalaw14.EnclosureCents': WHATEVER THE INPUT: true; the input reads as it did. -/
def enclosureCentsSpec : ChangeSpec := { name := "enclosureCents", fn := fun _ => fun
  | [d1, d2, d3] => { results := [.lit (.bool true)], args := [d1, d2, d3] }
  | _ => none }
def enclosureCentsRow : OpenClaim := { program := "ytnjedhgcfeoemaagreatdoor", sum := "fd7cc5364ad88947a5809cb99767d4e7b470943f4099ffbcc922eb8142494c25", func := "schisma/schismalaw14.EnclosureCents", spec := "enclosureCents", inPlace := ["math/bits.Add64", "internal/abi.NoEscape", "internal/bytealg.MakeNoZero"], unfollowed := true, recurses := true, named := ["internal/strconv.uint64pow10", "math/bits.deBruijn32tab", "math/bits.deBruijn64tab", "strconv.ErrSyntax", "strconv.ErrRange"], apart := false, laid := [("math/bits.deBruijn32tab", laid_math_bits_deBruijn32tab), ("math/bits.deBruijn64tab", laid_math_bits_deBruijn64tab), ("internal/strconv.uint64pow10", laid_internal_strconv_uint64pow10), ("strconv.ErrRange", laid_strconv_ErrRange), ("strconv.ErrSyntax", laid_strconv_ErrSyntax)] }
def EnclosureCentsSaid : Prop := enclosureCentsRow.holds Tryz.pinned (OpenSpec.ofChange enclosureCentsSpec)

/-- ITS FALSE NEIGHBOUR: 'it returns false'. Refute it at one input. -/
def enclosureCentsWrong : ChangeSpec := { name := "enclosureCents", fn := fun _ => fun
  | [d1, d2, d3] => { results := [.lit (.bool false)], args := [d1, d2, d3] }
  | _ => none }
def EnclosureCentsWrongFalsely : Prop := enclosureCentsRow.holds Tryz.pinned (OpenSpec.ofChange enclosureCentsWrong)

/-- 'schismalaw14.EnclosureDecides': WHATEVER THE INPUT: true; the input reads as it did. -/
def enclosureDecidesSpec : ChangeSpec := { name := "enclosureDecides", fn := fun _ => fun
  | [d1, d2] => { results := [.lit (.bool true)], args := [d1, d2] }
  | _ => none }
def enclosureDecidesRow : OpenClaim := { program := "ytnjedhgcfeoemaagreatdoor", sum := "fd7cc5364ad88947a5809cb99767d4e7b470943f4099ffbcc922eb8142494c25", func := "schisma/schismalaw14.EnclosureDecides", spec := "enclosureDecides", inPlace := ["math/bits.Add64", "internal/abi.NoEscape", "internal/bytealg.MakeNoZero"], unfollowed := true, recurses := true, named := ["internal/strconv.uint64pow10", "math/bits.deBruijn32tab", "math/bits.deBruijn64tab", "strconv.ErrSyntax", "strconv.ErrRange"], apart := false, laid := [("math/bits.deBruijn32tab", laid_math_bits_deBruijn32tab), ("math/bits.deBruijn64tab", laid_math_bits_deBruijn64tab), ("internal/strconv.uint64pow10", laid_internal_strconv_uint64pow10), ("strconv.ErrRange", laid_strconv_ErrRange), ("strconv.ErrSyntax", laid_strconv_ErrSyntax)] }
def EnclosureDecidesSaid : Prop := enclosureDecidesRow.holds Tryz.pinned (OpenSpec.ofChange enclosureDecidesSpec)

/-- ITS FALSE NEIGHBOUR: 'it returns false'. Refute it at one input. -/
def enclosureDecidesWrong : ChangeSpec := { name := "enclosureDecides", fn := fun _ => fun
  | [d1, d2] => { results := [.lit (.bool false)], args := [d1, d2] }
  | _ => none }
def EnclosureDecidesWrongFalsely : Prop := enclosureDecidesRow.holds Tryz.pinned (OpenSpec.ofChange enclosureDecidesWrong)

/- THE SECOND FORM. 'bulk': how many values and letters a reading holds, each counted each time it is reached (what is shared counts as often as it is met; a slice's spare places count too). A statement '..UptoSaid' is the law's where the arguments, and the package variables that the reading takes, are together of bulk at most 1048576: NARROWER than '..Said'. Prove '..Said' where nothing that the law and all that it calls make is longer than what came in: it says more and counts as full. Else prove '..UptoSaid'. A law counts once. -/
mutual
def uptoBulk {H : Type} : DataW H → Nat
  | .lit (.string bytes) => bytes.length + 1
  | .lit _ => 1
  | .nil => 1
  | .ptr d => uptoBulk d + 1
  | .slice elems spare => uptoBulkAll elems + uptoBulkAll spare + 1
  | .agg parts => uptoBulkAll parts + 1
  | .iface _ d => uptoBulk d + 1
  | .map entries => uptoBulkEntries entries + 1
  | .held _ => 1
def uptoBulkAll {H : Type} : List (DataW H) → Nat
  | [] => 0
  | d :: r => uptoBulk d + uptoBulkAll r
def uptoBulkEntries {H : Type} : List (Lit × DataW H) → Nat
  | [] => 0
  | x :: r => uptoBulkEntry x + uptoBulkEntries r
def uptoBulkEntry {H : Type} : Lit × DataW H → Nat
  | (.string bytes, d) => bytes.length + uptoBulk d + 1
  | (_, d) => uptoBulk d + 1
 end
def uptoSmall : (H : Type) → List (DataW H) → Bool := fun _ ds => decide (uptoBulkAll ds ≤ 1048576)
def OpenSpec.upto (s : _root_.Go.ChangeSpec) : _root_.Go.OpenSpec := { _root_.Go.OpenSpec.ofChange s with cond := some uptoSmall }

/-- 'schismalaw14.EnclosureGrows', WHERE WHAT IT READS IS OF BULK AT MOST 1048576: true; the input reads as it did. -/
def enclosureGrowsUptoRow : OpenClaim := { program := "ytnjedhgcfeoemaagreatdoor", sum := "fd7cc5364ad88947a5809cb99767d4e7b470943f4099ffbcc922eb8142494c25", func := "schisma/schismalaw14.EnclosureGrows", spec := "enclosureGrows", inPlace := ["math/bits.Add64", "internal/abi.NoEscape", "internal/bytealg.MakeNoZero"], unfollowed := true, recurses := true, named := ["internal/strconv.uint64pow10", "math/bits.deBruijn32tab", "math/bits.deBruijn64tab", "strconv.ErrSyntax", "strconv.ErrRange"], apart := false, laid := [("math/bits.deBruijn32tab", laid_math_bits_deBruijn32tab), ("math/bits.deBruijn64tab", laid_math_bits_deBruijn64tab), ("internal/strconv.uint64pow10", laid_internal_strconv_uint64pow10), ("strconv.ErrRange", laid_strconv_ErrRange), ("strconv.ErrSyntax", laid_strconv_ErrSyntax)], narrowed := true }
def EnclosureGrowsUptoSaid : Prop := enclosureGrowsUptoRow.holds Tryz.pinned (OpenSpec.upto enclosureGrowsSpec)

/-- 'schismalaw14.EnclosureErrors', WHERE WHAT IT READS IS OF BULK AT MOST 1048576: true; the input reads as it did. -/
def enclosureErrorsUptoRow : OpenClaim := { program := "ytnjedhgcfeoemaagreatdoor", sum := "fd7cc5364ad88947a5809cb99767d4e7b470943f4099ffbcc922eb8142494c25", func := "schisma/schismalaw14.EnclosureErrors", spec := "enclosureErrors", inPlace := ["math/bits.Add64", "internal/abi.NoEscape", "internal/bytealg.MakeNoZero"], unfollowed := true, recurses := true, named := ["internal/strconv.uint64pow10", "math/bits.deBruijn32tab", "math/bits.deBruijn64tab", "strconv.ErrSyntax", "strconv.ErrRange"], apart := false, laid := [("math/bits.deBruijn32tab", laid_math_bits_deBruijn32tab), ("math/bits.deBruijn64tab", laid_math_bits_deBruijn64tab), ("internal/strconv.uint64pow10", laid_internal_strconv_uint64pow10), ("strconv.ErrRange", laid_strconv_ErrRange), ("strconv.ErrSyntax", laid_strconv_ErrSyntax)], narrowed := true }
def EnclosureErrorsUptoSaid : Prop := enclosureErrorsUptoRow.holds Tryz.pinned (OpenSpec.upto enclosureErrorsSpec)

/-- 'schismalaw34.WordOf', WHERE WHAT IT READS IS OF BULK AT MOST 1048576: true; the input reads as it did. -/
def wordOfUptoRow : OpenClaim := { program := "ytnjedhgcfeoemaagreatdoor", sum := "fd7cc5364ad88947a5809cb99767d4e7b470943f4099ffbcc922eb8142494c25", func := "schisma/schismalaw34.WordOf", spec := "wordOf", inPlace := ["internal/abi.NoEscape"], unfollowed := true, recurses := true, named := ["internal/strconv.uint64pow10", "math/bits.deBruijn32tab", "math/bits.deBruijn64tab", "strconv.ErrSyntax", "strconv.ErrRange"], apart := false, laid := [("math/bits.deBruijn32tab", laid_math_bits_deBruijn32tab), ("math/bits.deBruijn64tab", laid_math_bits_deBruijn64tab), ("internal/strconv.uint64pow10", laid_internal_strconv_uint64pow10), ("strconv.ErrRange", laid_strconv_ErrRange), ("strconv.ErrSyntax", laid_strconv_ErrSyntax)], narrowed := true }
def WordOfUptoSaid : Prop := wordOfUptoRow.holds Tryz.pinned (OpenSpec.upto wordOfSpec)

/-- 'schismalaw14.EnclosureOrders', WHERE WHAT IT READS IS OF BULK AT MOST 1048576: true; the input reads as it did. -/
def enclosureOrdersUptoRow : OpenClaim := { program := "ytnjedhgcfeoemaagreatdoor", sum := "fd7cc5364ad88947a5809cb99767d4e7b470943f4099ffbcc922eb8142494c25", func := "schisma/schismalaw14.EnclosureOrders", spec := "enclosureOrders", inPlace := ["math/bits.Add64", "internal/abi.NoEscape", "internal/bytealg.MakeNoZero"], unfollowed := true, recurses := true, named := ["internal/strconv.uint64pow10", "math/bits.deBruijn32tab", "math/bits.deBruijn64tab", "strconv.ErrSyntax", "strconv.ErrRange"], apart := false, laid := [("math/bits.deBruijn32tab", laid_math_bits_deBruijn32tab), ("math/bits.deBruijn64tab", laid_math_bits_deBruijn64tab), ("internal/strconv.uint64pow10", laid_internal_strconv_uint64pow10), ("strconv.ErrRange", laid_strconv_ErrRange), ("strconv.ErrSyntax", laid_strconv_ErrSyntax)], narrowed := true }
def EnclosureOrdersUptoSaid : Prop := enclosureOrdersUptoRow.holds Tryz.pinned (OpenSpec.upto enclosureOrdersSpec)

/-- 'schismalaw14.EnclosureEnds', WHERE WHAT IT READS IS OF BULK AT MOST 1048576: true; the input reads as it did. -/
def enclosureEndsUptoRow : OpenClaim := { program := "ytnjedhgcfeoemaagreatdoor", sum := "fd7cc5364ad88947a5809cb99767d4e7b470943f4099ffbcc922eb8142494c25", func := "schisma/schismalaw14.EnclosureEnds", spec := "enclosureEnds", inPlace := ["math/bits.Add64", "internal/abi.NoEscape", "internal/bytealg.MakeNoZero"], unfollowed := true, recurses := true, named := ["internal/strconv.uint64pow10", "math/bits.deBruijn32tab", "math/bits.deBruijn64tab", "strconv.ErrSyntax", "strconv.ErrRange"], apart := false, laid := [("math/bits.deBruijn32tab", laid_math_bits_deBruijn32tab), ("math/bits.deBruijn64tab", laid_math_bits_deBruijn64tab), ("internal/strconv.uint64pow10", laid_internal_strconv_uint64pow10), ("strconv.ErrRange", laid_strconv_ErrRange), ("strconv.ErrSyntax", laid_strconv_ErrSyntax)], narrowed := true }
def EnclosureEndsUptoSaid : Prop := enclosureEndsUptoRow.holds Tryz.pinned (OpenSpec.upto enclosureEndsSpec)

/-- 'schismalaw14.EnclosureNarrows', WHERE WHAT IT READS IS OF BULK AT MOST 1048576: true; the input reads as it did. -/
def enclosureNarrowsUptoRow : OpenClaim := { program := "ytnjedhgcfeoemaagreatdoor", sum := "fd7cc5364ad88947a5809cb99767d4e7b470943f4099ffbcc922eb8142494c25", func := "schisma/schismalaw14.EnclosureNarrows", spec := "enclosureNarrows", inPlace := ["math/bits.Add64", "internal/abi.NoEscape", "internal/bytealg.MakeNoZero"], unfollowed := true, recurses := true, named := ["internal/strconv.uint64pow10", "math/bits.deBruijn32tab", "math/bits.deBruijn64tab", "strconv.ErrSyntax", "strconv.ErrRange"], apart := false, laid := [("math/bits.deBruijn32tab", laid_math_bits_deBruijn32tab), ("math/bits.deBruijn64tab", laid_math_bits_deBruijn64tab), ("internal/strconv.uint64pow10", laid_internal_strconv_uint64pow10), ("strconv.ErrRange", laid_strconv_ErrRange), ("strconv.ErrSyntax", laid_strconv_ErrSyntax)], narrowed := true }
def EnclosureNarrowsUptoSaid : Prop := enclosureNarrowsUptoRow.holds Tryz.pinned (OpenSpec.upto enclosureNarrowsSpec)

/-- 'schismalaw14.EnclosureBounds', WHERE WHAT IT READS IS OF BULK AT MOST 1048576: true; the input reads as it did. -/
def enclosureBoundsUptoRow : OpenClaim := { program := "ytnjedhgcfeoemaagreatdoor", sum := "fd7cc5364ad88947a5809cb99767d4e7b470943f4099ffbcc922eb8142494c25", func := "schisma/schismalaw14.EnclosureBounds", spec := "enclosureBounds", inPlace := ["math/bits.Add64", "internal/abi.NoEscape", "internal/bytealg.MakeNoZero"], unfollowed := true, recurses := true, named := ["internal/strconv.uint64pow10", "math/bits.deBruijn32tab", "math/bits.deBruijn64tab", "strconv.ErrSyntax", "strconv.ErrRange"], apart := false, laid := [("math/bits.deBruijn32tab", laid_math_bits_deBruijn32tab), ("math/bits.deBruijn64tab", laid_math_bits_deBruijn64tab), ("internal/strconv.uint64pow10", laid_internal_strconv_uint64pow10), ("strconv.ErrRange", laid_strconv_ErrRange), ("strconv.ErrSyntax", laid_strconv_ErrSyntax)], narrowed := true }
def EnclosureBoundsUptoSaid : Prop := enclosureBoundsUptoRow.holds Tryz.pinned (OpenSpec.upto enclosureBoundsSpec)

/-- 'schismalaw14.EnclosureChecks', WHERE WHAT IT READS IS OF BULK AT MOST 1048576: true; the input reads as it did. -/
def enclosureChecksUptoRow : OpenClaim := { program := "ytnjedhgcfeoemaagreatdoor", sum := "fd7cc5364ad88947a5809cb99767d4e7b470943f4099ffbcc922eb8142494c25", func := "schisma/schismalaw14.EnclosureChecks", spec := "enclosureChecks", inPlace := ["math/bits.Add64", "internal/abi.NoEscape", "internal/bytealg.MakeNoZero"], unfollowed := true, recurses := true, named := ["internal/strconv.uint64pow10", "math/bits.deBruijn32tab", "math/bits.deBruijn64tab", "strconv.ErrSyntax", "strconv.ErrRange"], apart := false, laid := [("math/bits.deBruijn32tab", laid_math_bits_deBruijn32tab), ("math/bits.deBruijn64tab", laid_math_bits_deBruijn64tab), ("internal/strconv.uint64pow10", laid_internal_strconv_uint64pow10), ("strconv.ErrRange", laid_strconv_ErrRange), ("strconv.ErrSyntax", laid_strconv_ErrSyntax)], narrowed := true }
def EnclosureChecksUptoSaid : Prop := enclosureChecksUptoRow.holds Tryz.pinned (OpenSpec.upto enclosureChecksSpec)

/-- 'schismalaw34.WordBuilds', WHERE WHAT IT READS IS OF BULK AT MOST 1048576: true; the input reads as it did. -/
def wordBuildsUptoRow : OpenClaim := { program := "ytnjedhgcfeoemaagreatdoor", sum := "fd7cc5364ad88947a5809cb99767d4e7b470943f4099ffbcc922eb8142494c25", func := "schisma/schismalaw34.WordBuilds", spec := "wordBuilds", inPlace := ["internal/abi.NoEscape"], unfollowed := true, recurses := true, named := ["internal/strconv.uint64pow10", "math/bits.deBruijn32tab", "math/bits.deBruijn64tab", "strconv.ErrSyntax", "strconv.ErrRange"], apart := false, laid := [("math/bits.deBruijn32tab", laid_math_bits_deBruijn32tab), ("math/bits.deBruijn64tab", laid_math_bits_deBruijn64tab), ("internal/strconv.uint64pow10", laid_internal_strconv_uint64pow10), ("strconv.ErrRange", laid_strconv_ErrRange), ("strconv.ErrSyntax", laid_strconv_ErrSyntax)], narrowed := true }
def WordBuildsUptoSaid : Prop := wordBuildsUptoRow.holds Tryz.pinned (OpenSpec.upto wordBuildsSpec)

/-- 'schismalaw14.EnclosureVerifies', WHERE WHAT IT READS IS OF BULK AT MOST 1048576: true; the input reads as it did. -/
def enclosureVerifiesUptoRow : OpenClaim := { program := "ytnjedhgcfeoemaagreatdoor", sum := "fd7cc5364ad88947a5809cb99767d4e7b470943f4099ffbcc922eb8142494c25", func := "schisma/schismalaw14.EnclosureVerifies", spec := "enclosureVerifies", inPlace := ["math/bits.Add64", "internal/abi.NoEscape", "internal/bytealg.MakeNoZero"], unfollowed := true, recurses := true, named := ["internal/strconv.uint64pow10", "math/bits.deBruijn32tab", "math/bits.deBruijn64tab", "strconv.ErrSyntax", "strconv.ErrRange"], apart := false, laid := [("math/bits.deBruijn32tab", laid_math_bits_deBruijn32tab), ("math/bits.deBruijn64tab", laid_math_bits_deBruijn64tab), ("internal/strconv.uint64pow10", laid_internal_strconv_uint64pow10), ("strconv.ErrRange", laid_strconv_ErrRange), ("strconv.ErrSyntax", laid_strconv_ErrSyntax)], narrowed := true }
def EnclosureVerifiesUptoSaid : Prop := enclosureVerifiesUptoRow.holds Tryz.pinned (OpenSpec.upto enclosureVerifiesSpec)

/-- 'schismalaw14.EnclosureCents', WHERE WHAT IT READS IS OF BULK AT MOST 1048576: true; the input reads as it did. -/
def enclosureCentsUptoRow : OpenClaim := { program := "ytnjedhgcfeoemaagreatdoor", sum := "fd7cc5364ad88947a5809cb99767d4e7b470943f4099ffbcc922eb8142494c25", func := "schisma/schismalaw14.EnclosureCents", spec := "enclosureCents", inPlace := ["math/bits.Add64", "internal/abi.NoEscape", "internal/bytealg.MakeNoZero"], unfollowed := true, recurses := true, named := ["internal/strconv.uint64pow10", "math/bits.deBruijn32tab", "math/bits.deBruijn64tab", "strconv.ErrSyntax", "strconv.ErrRange"], apart := false, laid := [("math/bits.deBruijn32tab", laid_math_bits_deBruijn32tab), ("math/bits.deBruijn64tab", laid_math_bits_deBruijn64tab), ("internal/strconv.uint64pow10", laid_internal_strconv_uint64pow10), ("strconv.ErrRange", laid_strconv_ErrRange), ("strconv.ErrSyntax", laid_strconv_ErrSyntax)], narrowed := true }
def EnclosureCentsUptoSaid : Prop := enclosureCentsUptoRow.holds Tryz.pinned (OpenSpec.upto enclosureCentsSpec)

/-- 'schismalaw14.EnclosureDecides', WHERE WHAT IT READS IS OF BULK AT MOST 1048576: true; the input reads as it did. -/
def enclosureDecidesUptoRow : OpenClaim := { program := "ytnjedhgcfeoemaagreatdoor", sum := "fd7cc5364ad88947a5809cb99767d4e7b470943f4099ffbcc922eb8142494c25", func := "schisma/schismalaw14.EnclosureDecides", spec := "enclosureDecides", inPlace := ["math/bits.Add64", "internal/abi.NoEscape", "internal/bytealg.MakeNoZero"], unfollowed := true, recurses := true, named := ["internal/strconv.uint64pow10", "math/bits.deBruijn32tab", "math/bits.deBruijn64tab", "strconv.ErrSyntax", "strconv.ErrRange"], apart := false, laid := [("math/bits.deBruijn32tab", laid_math_bits_deBruijn32tab), ("math/bits.deBruijn64tab", laid_math_bits_deBruijn64tab), ("internal/strconv.uint64pow10", laid_internal_strconv_uint64pow10), ("strconv.ErrRange", laid_strconv_ErrRange), ("strconv.ErrSyntax", laid_strconv_ErrSyntax)], narrowed := true }
def EnclosureDecidesUptoSaid : Prop := enclosureDecidesUptoRow.holds Tryz.pinned (OpenSpec.upto enclosureDecidesSpec)

end Rows
end Go.Proofs.YtnjedhgcfeoemaaGreatDoor
