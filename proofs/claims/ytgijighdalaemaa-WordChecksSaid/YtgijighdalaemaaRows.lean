/-
  No cell of these rows narrows 'for every input' (looked for: loops, veiled, ifaces, maps, wideKeys, modest, calm, conditions, laid).
  DERIVED. THE GIVEN ROWS OF THIS SEAT. 8 by the template 'for every input the law returns true; each argument reads behind the call as it read before'; 0 by the template 'total and deterministic' (their statements: YtgijighdalaemaaTotals.lean).
  GIVEN WITH THE SEED: the statements are not yours to turn. If you find one false, say at which input.
  Laid BY PROGRAM, IN A SANDBOX (cutbox-rows.mjs): the forced cells as the released guide's own fill.sh prints them over the translation fb2f53c4a6965df7… (all of the seat's roots in one cut). By AI agents, Wed Nov 11 2026. No macro, syntax, notation, axiom, sorry.
-/
import Derived.Test.YtgijighdalaemaaChecked
import GoSem.Claim
import GoSem.ClaimJoined
import GoSem.ClaimMapViews
import Derived.JoinedTies
import Derived.KernelRfl
namespace Go.Proofs.Ytgijighdalaemaa
/- THE CELL 'sum', in the pinned program and in every row, IS THE sha256 OF THE DUMP (.gsa) THAT YtgijighdalaemaaProg.lean LOADS. Nothing in Lean hashes anything: it is a label: what it is worth is what the hold of that sum in a sandbox is worth. -/
noncomputable def Try.pinned : Pinned := { name := "ytgijighdalaemaa", sum := "fb2f53c4a6965df73d46e47af93494507d35b2b83d8fca1d3c2893abff9daa50", checked := Try.checked }
namespace Rows
def none {H : Type} : Left H := { results := [], args := [] }

/-- 'schismalaw34.WordBalances': WHATEVER THE INPUT: true; the input reads as it did. -/
def wordBalancesSpec : ChangeSpec := { name := "wordBalances", fn := fun _ => fun
  | [d] => { results := [.lit (.bool true)], args := [d] }
  | _ => none }
def wordBalancesRow : OpenClaim := { program := "ytgijighdalaemaa", sum := "fb2f53c4a6965df73d46e47af93494507d35b2b83d8fca1d3c2893abff9daa50", func := "schisma/schismalaw34.WordBalances", spec := "wordBalances", inPlace := ["internal/abi.NoEscape"], recurses := true, apart := false }
def WordBalancesSaid : Prop := wordBalancesRow.holds Try.pinned (OpenSpec.ofChange wordBalancesSpec)

/-- ITS FALSE NEIGHBOUR: 'it returns false'. Refute it at one input. -/
def wordBalancesWrong : ChangeSpec := { name := "wordBalances", fn := fun _ => fun
  | [d] => { results := [.lit (.bool false)], args := [d] }
  | _ => none }
def WordBalancesWrongFalsely : Prop := wordBalancesRow.holds Try.pinned (OpenSpec.ofChange wordBalancesWrong)

/-- 'schismalaw34.WordChristoffel': WHATEVER THE INPUT: true; the input reads as it did. -/
def wordChristoffelSpec : ChangeSpec := { name := "wordChristoffel", fn := fun _ => fun
  | [d1, d2] => { results := [.lit (.bool true)], args := [d1, d2] }
  | _ => none }
def wordChristoffelRow : OpenClaim := { program := "ytgijighdalaemaa", sum := "fb2f53c4a6965df73d46e47af93494507d35b2b83d8fca1d3c2893abff9daa50", func := "schisma/schismalaw34.WordChristoffel", spec := "wordChristoffel", inPlace := ["internal/abi.NoEscape"], recurses := true, apart := false }
def WordChristoffelSaid : Prop := wordChristoffelRow.holds Try.pinned (OpenSpec.ofChange wordChristoffelSpec)

/-- ITS FALSE NEIGHBOUR: 'it returns false'. Refute it at one input. -/
def wordChristoffelWrong : ChangeSpec := { name := "wordChristoffel", fn := fun _ => fun
  | [d1, d2] => { results := [.lit (.bool false)], args := [d1, d2] }
  | _ => none }
def WordChristoffelWrongFalsely : Prop := wordChristoffelRow.holds Try.pinned (OpenSpec.ofChange wordChristoffelWrong)

/-- 'schismalaw34.WordNecklaces': WHATEVER THE INPUT: true; the input reads as it did. -/
def wordNecklacesSpec : ChangeSpec := { name := "wordNecklaces", fn := fun _ => fun
  | [d] => { results := [.lit (.bool true)], args := [d] }
  | _ => none }
def wordNecklacesRow : OpenClaim := { program := "ytgijighdalaemaa", sum := "fb2f53c4a6965df73d46e47af93494507d35b2b83d8fca1d3c2893abff9daa50", func := "schisma/schismalaw34.WordNecklaces", spec := "wordNecklaces", inPlace := ["internal/abi.NoEscape"], recurses := true, apart := false }
def WordNecklacesSaid : Prop := wordNecklacesRow.holds Try.pinned (OpenSpec.ofChange wordNecklacesSpec)

/-- ITS FALSE NEIGHBOUR: 'it returns false'. Refute it at one input. -/
def wordNecklacesWrong : ChangeSpec := { name := "wordNecklaces", fn := fun _ => fun
  | [d] => { results := [.lit (.bool false)], args := [d] }
  | _ => none }
def WordNecklacesWrongFalsely : Prop := wordNecklacesRow.holds Try.pinned (OpenSpec.ofChange wordNecklacesWrong)

/-- 'schismalaw34.WordMany': WHATEVER THE INPUT: true; the input reads as it did. -/
def wordManySpec : ChangeSpec := { name := "wordMany", fn := fun _ => fun
  | [d] => { results := [.lit (.bool true)], args := [d] }
  | _ => none }
def wordManyRow : OpenClaim := { program := "ytgijighdalaemaa", sum := "fb2f53c4a6965df73d46e47af93494507d35b2b83d8fca1d3c2893abff9daa50", func := "schisma/schismalaw34.WordMany", spec := "wordMany", inPlace := ["internal/abi.NoEscape"], recurses := true, apart := false }
def WordManySaid : Prop := wordManyRow.holds Try.pinned (OpenSpec.ofChange wordManySpec)

/-- ITS FALSE NEIGHBOUR: 'it returns false'. Refute it at one input. -/
def wordManyWrong : ChangeSpec := { name := "wordMany", fn := fun _ => fun
  | [d] => { results := [.lit (.bool false)], args := [d] }
  | _ => none }
def WordManyWrongFalsely : Prop := wordManyRow.holds Try.pinned (OpenSpec.ofChange wordManyWrong)

/-- 'schismalaw34.WordRotations': WHATEVER THE INPUT: true; the input reads as it did. -/
def wordRotationsSpec : ChangeSpec := { name := "wordRotations", fn := fun _ => fun
  | [d1, d2] => { results := [.lit (.bool true)], args := [d1, d2] }
  | _ => none }
def wordRotationsRow : OpenClaim := { program := "ytgijighdalaemaa", sum := "fb2f53c4a6965df73d46e47af93494507d35b2b83d8fca1d3c2893abff9daa50", func := "schisma/schismalaw34.WordRotations", spec := "wordRotations", inPlace := ["internal/abi.NoEscape"], recurses := true, apart := false }
def WordRotationsSaid : Prop := wordRotationsRow.holds Try.pinned (OpenSpec.ofChange wordRotationsSpec)

/-- ITS FALSE NEIGHBOUR: 'it returns false'. Refute it at one input. -/
def wordRotationsWrong : ChangeSpec := { name := "wordRotations", fn := fun _ => fun
  | [d1, d2] => { results := [.lit (.bool false)], args := [d1, d2] }
  | _ => none }
def WordRotationsWrongFalsely : Prop := wordRotationsRow.holds Try.pinned (OpenSpec.ofChange wordRotationsWrong)

/-- 'schismalaw34.WordLaws': WHATEVER THE INPUT: true; the input reads as it did. -/
def wordLawsSpec : ChangeSpec := { name := "wordLaws", fn := fun _ => fun
  | [d1, d2, d3] => { results := [.lit (.bool true)], args := [d1, d2, d3] }
  | _ => none }
def wordLawsRow : OpenClaim := { program := "ytgijighdalaemaa", sum := "fb2f53c4a6965df73d46e47af93494507d35b2b83d8fca1d3c2893abff9daa50", func := "schisma/schismalaw34.WordLaws", spec := "wordLaws", inPlace := ["internal/abi.NoEscape"], recurses := true, apart := false }
def WordLawsSaid : Prop := wordLawsRow.holds Try.pinned (OpenSpec.ofChange wordLawsSpec)

/-- ITS FALSE NEIGHBOUR: 'it returns false'. Refute it at one input. -/
def wordLawsWrong : ChangeSpec := { name := "wordLaws", fn := fun _ => fun
  | [d1, d2, d3] => { results := [.lit (.bool false)], args := [d1, d2, d3] }
  | _ => none }
def WordLawsWrongFalsely : Prop := wordLawsRow.holds Try.pinned (OpenSpec.ofChange wordLawsWrong)

/-- 'schismalaw34.WordConjugates': WHATEVER THE INPUT: true; the input reads as it did. -/
def wordConjugatesSpec : ChangeSpec := { name := "wordConjugates", fn := fun _ => fun
  | [d] => { results := [.lit (.bool true)], args := [d] }
  | _ => none }
def wordConjugatesRow : OpenClaim := { program := "ytgijighdalaemaa", sum := "fb2f53c4a6965df73d46e47af93494507d35b2b83d8fca1d3c2893abff9daa50", func := "schisma/schismalaw34.WordConjugates", spec := "wordConjugates", inPlace := ["internal/abi.NoEscape", "internal/bytealg.CountString", "internal/bytealg.IndexByteString", "internal/bytealg.IndexString"], recurses := true, named := ["internal/bytealg.MaxLen"], apart := false }
def WordConjugatesSaid : Prop := wordConjugatesRow.holds Try.pinned (OpenSpec.ofChange wordConjugatesSpec)

/-- ITS FALSE NEIGHBOUR: 'it returns false'. Refute it at one input. -/
def wordConjugatesWrong : ChangeSpec := { name := "wordConjugates", fn := fun _ => fun
  | [d] => { results := [.lit (.bool false)], args := [d] }
  | _ => none }
def WordConjugatesWrongFalsely : Prop := wordConjugatesRow.holds Try.pinned (OpenSpec.ofChange wordConjugatesWrong)

/-- 'schismalaw34.WordChecks': WHATEVER THE INPUT: true; the input reads as it did. -/
def wordChecksSpec : ChangeSpec := { name := "wordChecks", fn := fun _ => fun
  | [d1, d2] => { results := [.lit (.bool true)], args := [d1, d2] }
  | _ => none }
def wordChecksRow : OpenClaim := { program := "ytgijighdalaemaa", sum := "fb2f53c4a6965df73d46e47af93494507d35b2b83d8fca1d3c2893abff9daa50", func := "schisma/schismalaw34.WordChecks", spec := "wordChecks", inPlace := ["internal/abi.NoEscape", "internal/bytealg.CountString", "internal/bytealg.IndexByteString", "internal/bytealg.IndexString"], recurses := true, named := ["internal/bytealg.MaxLen"], apart := false }
def WordChecksSaid : Prop := wordChecksRow.holds Try.pinned (OpenSpec.ofChange wordChecksSpec)

/-- ITS FALSE NEIGHBOUR: 'it returns false'. Refute it at one input. -/
def wordChecksWrong : ChangeSpec := { name := "wordChecks", fn := fun _ => fun
  | [d1, d2] => { results := [.lit (.bool false)], args := [d1, d2] }
  | _ => none }
def WordChecksWrongFalsely : Prop := wordChecksRow.holds Try.pinned (OpenSpec.ofChange wordChecksWrong)

/- THE SECOND FORM. 'bulk': how many values and letters a reading holds, each counted each time it is reached (what is shared counts as often as it is met; a slice's spare places count too). A statement '..UptoSaid' is the law's where the arguments, and the package variables that the reading takes, are together of bulk at most 1048576: NARROWER than '..Said'. Prove '..Said' where nothing that the law and all that it calls make is longer than what came in: it says more and counts as full. Else prove '..UptoSaid'. A law counts once. -/
mutual
def uptoBulk {H : Type} : DataW H → Nat
  | .lit (.string bytes) => bytes.length + 1
  | .lit _ => 1
  | .nil => 1
  | .ptr d => uptoBulk d + 1
  | .slice elems spare => uptoBulkAll elems + uptoBulkAll spare + 1
  | .agg parts => uptoBulkAll parts + 1
  | .iface _ d => uptoBulk d + 1
  | .map entries => uptoBulkEntries entries + 1
  | .held _ => 1
def uptoBulkAll {H : Type} : List (DataW H) → Nat
  | [] => 0
  | d :: r => uptoBulk d + uptoBulkAll r
def uptoBulkEntries {H : Type} : List (Lit × DataW H) → Nat
  | [] => 0
  | x :: r => uptoBulkEntry x + uptoBulkEntries r
def uptoBulkEntry {H : Type} : Lit × DataW H → Nat
  | (.string bytes, d) => bytes.length + uptoBulk d + 1
  | (_, d) => uptoBulk d + 1
 end
def uptoSmall : (H : Type) → List (DataW H) → Bool := fun _ ds => decide (uptoBulkAll ds ≤ 1048576)
def OpenSpec.upto (s : _root_.Go.ChangeSpec) : _root_.Go.OpenSpec := { _root_.Go.OpenSpec.ofChange s with cond := some uptoSmall }

/-- 'schismalaw34.WordBalances', WHERE WHAT IT READS IS OF BULK AT MOST 1048576: true; the input reads as it did. -/
def wordBalancesUptoRow : OpenClaim := { program := "ytgijighdalaemaa", sum := "fb2f53c4a6965df73d46e47af93494507d35b2b83d8fca1d3c2893abff9daa50", func := "schisma/schismalaw34.WordBalances", spec := "wordBalances", inPlace := ["internal/abi.NoEscape"], recurses := true, apart := false, narrowed := true }
def WordBalancesUptoSaid : Prop := wordBalancesUptoRow.holds Try.pinned (OpenSpec.upto wordBalancesSpec)

/-- 'schismalaw34.WordChristoffel', WHERE WHAT IT READS IS OF BULK AT MOST 1048576: true; the input reads as it did. -/
def wordChristoffelUptoRow : OpenClaim := { program := "ytgijighdalaemaa", sum := "fb2f53c4a6965df73d46e47af93494507d35b2b83d8fca1d3c2893abff9daa50", func := "schisma/schismalaw34.WordChristoffel", spec := "wordChristoffel", inPlace := ["internal/abi.NoEscape"], recurses := true, apart := false, narrowed := true }
def WordChristoffelUptoSaid : Prop := wordChristoffelUptoRow.holds Try.pinned (OpenSpec.upto wordChristoffelSpec)

/-- 'schismalaw34.WordNecklaces', WHERE WHAT IT READS IS OF BULK AT MOST 1048576: true; the input reads as it did. -/
def wordNecklacesUptoRow : OpenClaim := { program := "ytgijighdalaemaa", sum := "fb2f53c4a6965df73d46e47af93494507d35b2b83d8fca1d3c2893abff9daa50", func := "schisma/schismalaw34.WordNecklaces", spec := "wordNecklaces", inPlace := ["internal/abi.NoEscape"], recurses := true, apart := false, narrowed := true }
def WordNecklacesUptoSaid : Prop := wordNecklacesUptoRow.holds Try.pinned (OpenSpec.upto wordNecklacesSpec)

/-- 'schismalaw34.WordMany', WHERE WHAT IT READS IS OF BULK AT MOST 1048576: true; the input reads as it did. -/
def wordManyUptoRow : OpenClaim := { program := "ytgijighdalaemaa", sum := "fb2f53c4a6965df73d46e47af93494507d35b2b83d8fca1d3c2893abff9daa50", func := "schisma/schismalaw34.WordMany", spec := "wordMany", inPlace := ["internal/abi.NoEscape"], recurses := true, apart := false, narrowed := true }
def WordManyUptoSaid : Prop := wordManyUptoRow.holds Try.pinned (OpenSpec.upto wordManySpec)

/-- 'schismalaw34.WordRotations', WHERE WHAT IT READS IS OF BULK AT MOST 1048576: true; the input reads as it did. -/
def wordRotationsUptoRow : OpenClaim := { program := "ytgijighdalaemaa", sum := "fb2f53c4a6965df73d46e47af93494507d35b2b83d8fca1d3c2893abff9daa50", func := "schisma/schismalaw34.WordRotations", spec := "wordRotations", inPlace := ["internal/abi.NoEscape"], recurses := true, apart := false, narrowed := true }
def WordRotationsUptoSaid : Prop := wordRotationsUptoRow.holds Try.pinned (OpenSpec.upto wordRotationsSpec)

/-- 'schismalaw34.WordLaws', WHERE WHAT IT READS IS OF BULK AT MOST 1048576: true; the input reads as it did. -/
def wordLawsUptoRow : OpenClaim := { program := "ytgijighdalaemaa", sum := "fb2f53c4a6965df73d46e47af93494507d35b2b83d8fca1d3c2893abff9daa50", func := "schisma/schismalaw34.WordLaws", spec := "wordLaws", inPlace := ["internal/abi.NoEscape"], recurses := true, apart := false, narrowed := true }
def WordLawsUptoSaid : Prop := wordLawsUptoRow.holds Try.pinned (OpenSpec.upto wordLawsSpec)

/-- 'schismalaw34.WordConjugates', WHERE WHAT IT READS IS OF BULK AT MOST 1048576: true; the input reads as it did. -/
def wordConjugatesUptoRow : OpenClaim := { program := "ytgijighdalaemaa", sum := "fb2f53c4a6965df73d46e47af93494507d35b2b83d8fca1d3c2893abff9daa50", func := "schisma/schismalaw34.WordConjugates", spec := "wordConjugates", inPlace := ["internal/abi.NoEscape", "internal/bytealg.CountString", "internal/bytealg.IndexByteString", "internal/bytealg.IndexString"], recurses := true, named := ["internal/bytealg.MaxLen"], apart := false, narrowed := true }
def WordConjugatesUptoSaid : Prop := wordConjugatesUptoRow.holds Try.pinned (OpenSpec.upto wordConjugatesSpec)

/-- 'schismalaw34.WordChecks', WHERE WHAT IT READS IS OF BULK AT MOST 1048576: true; the input reads as it did. -/
def wordChecksUptoRow : OpenClaim := { program := "ytgijighdalaemaa", sum := "fb2f53c4a6965df73d46e47af93494507d35b2b83d8fca1d3c2893abff9daa50", func := "schisma/schismalaw34.WordChecks", spec := "wordChecks", inPlace := ["internal/abi.NoEscape", "internal/bytealg.CountString", "internal/bytealg.IndexByteString", "internal/bytealg.IndexString"], recurses := true, named := ["internal/bytealg.MaxLen"], apart := false, narrowed := true }
def WordChecksUptoSaid : Prop := wordChecksUptoRow.holds Try.pinned (OpenSpec.upto wordChecksSpec)

end Rows
end Go.Proofs.Ytgijighdalaemaa
