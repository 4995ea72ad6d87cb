/-
  DERIVED. GIVEN WITH THE SEED: THE CARDS: each row of YtkoicfghplmghaaGreatDoorRows.lean that lists a variable, with what it lists TIED to the program's text (the seventh form; the later family's looks); each row that meets fmt, with fmt's text TOLD by the authors' own Lean function (tested against real Go, not proved from fmt's source: count such statements apart). THE CARD IS WHAT COUNTS. Prove the row's statement (the work); the ties are given (YtkoicfghplmghaaGreatDoorTie.lean); close each card by the builder's one call (the guide's Derived/Test/ToyasCard.lean, 'card_holds'). Laid BY PROGRAM, IN A SANDBOX (cutbox-door.mjs). By AI agents, Wed Nov 11 2026. No macro, syntax, notation, axiom, sorry.
-/
import Derived.Test.YtkoicfghplmghaaGreatDoorRows
import GoSem.ClaimSeven
namespace Go.Proofs.YtkoicfghplmghaaGreatDoor
namespace Rows

/-- THE TIED CARD OF 'schismalaw15.IntervalMany'. -/
def intervalManyCard : Claim7 := { stood := { row := intervalManyRow, standIns := [], harness := (true, "cb96a70b224c9dff2171d8a311c822f6c3303103ab56b429b3e7badcb6920c3b"), looks := true }, kinds := [], alts := [], laidByText := true, laidKinds := [.data, .data, .data, .sentinel, .sentinel], laidTests := true, laidLooks := .later }
def IntervalManyCardSaid : Prop := Claim7.holds Tryz.pinned (.plain (OpenSpec.ofChange intervalManySpec)) intervalManyCard

/-- THE TIED CARD OF 'schismalaw15.IntervalWithin'. -/
def intervalWithinCard : Claim7 := { stood := { row := intervalWithinRow, standIns := [], harness := (true, "cb96a70b224c9dff2171d8a311c822f6c3303103ab56b429b3e7badcb6920c3b"), looks := true }, kinds := [], alts := [], laidByText := true, laidKinds := [.data, .data, .data, .sentinel, .sentinel], laidTests := true, laidLooks := .later }
def IntervalWithinCardSaid : Prop := Claim7.holds Tryz.pinned (.plain (OpenSpec.ofChange intervalWithinSpec)) intervalWithinCard

/-- THE TIED CARD OF 'schismalaw34.WordOf'. -/
def wordOfCard : Claim7 := { stood := { row := wordOfRow, standIns := [], harness := (true, "cb96a70b224c9dff2171d8a311c822f6c3303103ab56b429b3e7badcb6920c3b"), looks := true }, kinds := [], alts := [], laidByText := true, laidKinds := [.data, .data, .data, .sentinel, .sentinel], laidTests := true, laidLooks := .later }
def WordOfCardSaid : Prop := Claim7.holds Tryz.pinned (.plain (OpenSpec.ofChange wordOfSpec)) wordOfCard

/-- THE TIED CARD OF 'schismalaw15.IntervalLists'. -/
def intervalListsCard : Claim7 := { stood := { row := intervalListsRow, standIns := [], harness := (true, "cb96a70b224c9dff2171d8a311c822f6c3303103ab56b429b3e7badcb6920c3b"), looks := true }, kinds := [], alts := [], laidByText := true, laidKinds := [.data, .data, .data, .sentinel, .sentinel], laidTests := true, laidLooks := .later }
def IntervalListsCardSaid : Prop := Claim7.holds Tryz.pinned (.plain (OpenSpec.ofChange intervalListsSpec)) intervalListsCard

/-- THE TIED CARD OF 'schismalaw15.IntervalClasses'. -/
def intervalClassesCard : Claim7 := { stood := { row := intervalClassesRow, standIns := [], harness := (true, "cb96a70b224c9dff2171d8a311c822f6c3303103ab56b429b3e7badcb6920c3b"), looks := true }, kinds := [], alts := [], laidByText := true, laidKinds := [.data, .data, .data, .sentinel, .sentinel], laidTests := true, laidLooks := .later }
def IntervalClassesCardSaid : Prop := Claim7.holds Tryz.pinned (.plain (OpenSpec.ofChange intervalClassesSpec)) intervalClassesCard

/-- THE TIED CARD OF 'schismalaw15.IntervalReduces'. -/
def intervalReducesCard : Claim7 := { stood := { row := intervalReducesRow, standIns := [], harness := (true, "cb96a70b224c9dff2171d8a311c822f6c3303103ab56b429b3e7badcb6920c3b"), looks := true }, kinds := [], alts := [], laidByText := true, laidKinds := [.data, .data, .data, .sentinel, .sentinel], laidTests := true, laidLooks := .later }
def IntervalReducesCardSaid : Prop := Claim7.holds Tryz.pinned (.plain (OpenSpec.ofChange intervalReducesSpec)) intervalReducesCard

/-- THE TIED CARD OF 'schismalaw15.IntervalSteps'. -/
def intervalStepsCard : Claim7 := { stood := { row := intervalStepsRow, standIns := [], harness := (true, "cb96a70b224c9dff2171d8a311c822f6c3303103ab56b429b3e7badcb6920c3b"), looks := true }, kinds := [], alts := [], laidByText := true, laidKinds := [.data, .data, .data, .sentinel, .sentinel], laidTests := true, laidLooks := .later }
def IntervalStepsCardSaid : Prop := Claim7.holds Tryz.pinned (.plain (OpenSpec.ofChange intervalStepsSpec)) intervalStepsCard

/-- THE TIED CARD OF 'schismalaw34.WordBuilds'. -/
def wordBuildsCard : Claim7 := { stood := { row := wordBuildsRow, standIns := [], harness := (true, "cb96a70b224c9dff2171d8a311c822f6c3303103ab56b429b3e7badcb6920c3b"), looks := true }, kinds := [], alts := [], laidByText := true, laidKinds := [.data, .data, .data, .sentinel, .sentinel], laidTests := true, laidLooks := .later }
def WordBuildsCardSaid : Prop := Claim7.holds Tryz.pinned (.plain (OpenSpec.ofChange wordBuildsSpec)) wordBuildsCard

/-- THE TIED CARD OF 'schismalaw15.IntervalSorts'. -/
def intervalSortsCard : Claim7 := { stood := { row := intervalSortsRow, standIns := [], harness := (true, "cb96a70b224c9dff2171d8a311c822f6c3303103ab56b429b3e7badcb6920c3b"), looks := true }, kinds := [], alts := [], laidByText := true, laidKinds := [.data, .data, .data, .sentinel, .sentinel], laidTests := true, laidLooks := .later }
def IntervalSortsCardSaid : Prop := Claim7.holds Tryz.pinned (.plain (OpenSpec.ofChange intervalSortsSpec)) intervalSortsCard

/-- THE SECOND FORM's CARD OF 'schismalaw15.IntervalMany'. -/
def intervalManyUptoCard : Claim7 := { stood := { row := intervalManyUptoRow, standIns := [], harness := (true, "cb96a70b224c9dff2171d8a311c822f6c3303103ab56b429b3e7badcb6920c3b"), looks := true }, kinds := [], alts := [], laidByText := true, laidKinds := [.data, .data, .data, .sentinel, .sentinel], laidTests := true, laidLooks := .later }
def IntervalManyUptoCardSaid : Prop := Claim7.holds Tryz.pinned (.plain (OpenSpec.upto intervalManySpec)) intervalManyUptoCard

/-- THE SECOND FORM's CARD OF 'schismalaw15.IntervalWithin'. -/
def intervalWithinUptoCard : Claim7 := { stood := { row := intervalWithinUptoRow, standIns := [], harness := (true, "cb96a70b224c9dff2171d8a311c822f6c3303103ab56b429b3e7badcb6920c3b"), looks := true }, kinds := [], alts := [], laidByText := true, laidKinds := [.data, .data, .data, .sentinel, .sentinel], laidTests := true, laidLooks := .later }
def IntervalWithinUptoCardSaid : Prop := Claim7.holds Tryz.pinned (.plain (OpenSpec.upto intervalWithinSpec)) intervalWithinUptoCard

/-- THE SECOND FORM's CARD OF 'schismalaw34.WordOf'. -/
def wordOfUptoCard : Claim7 := { stood := { row := wordOfUptoRow, standIns := [], harness := (true, "cb96a70b224c9dff2171d8a311c822f6c3303103ab56b429b3e7badcb6920c3b"), looks := true }, kinds := [], alts := [], laidByText := true, laidKinds := [.data, .data, .data, .sentinel, .sentinel], laidTests := true, laidLooks := .later }
def WordOfUptoCardSaid : Prop := Claim7.holds Tryz.pinned (.plain (OpenSpec.upto wordOfSpec)) wordOfUptoCard

/-- THE SECOND FORM's CARD OF 'schismalaw15.IntervalLists'. -/
def intervalListsUptoCard : Claim7 := { stood := { row := intervalListsUptoRow, standIns := [], harness := (true, "cb96a70b224c9dff2171d8a311c822f6c3303103ab56b429b3e7badcb6920c3b"), looks := true }, kinds := [], alts := [], laidByText := true, laidKinds := [.data, .data, .data, .sentinel, .sentinel], laidTests := true, laidLooks := .later }
def IntervalListsUptoCardSaid : Prop := Claim7.holds Tryz.pinned (.plain (OpenSpec.upto intervalListsSpec)) intervalListsUptoCard

/-- THE SECOND FORM's CARD OF 'schismalaw15.IntervalClasses'. -/
def intervalClassesUptoCard : Claim7 := { stood := { row := intervalClassesUptoRow, standIns := [], harness := (true, "cb96a70b224c9dff2171d8a311c822f6c3303103ab56b429b3e7badcb6920c3b"), looks := true }, kinds := [], alts := [], laidByText := true, laidKinds := [.data, .data, .data, .sentinel, .sentinel], laidTests := true, laidLooks := .later }
def IntervalClassesUptoCardSaid : Prop := Claim7.holds Tryz.pinned (.plain (OpenSpec.upto intervalClassesSpec)) intervalClassesUptoCard

/-- THE SECOND FORM's CARD OF 'schismalaw15.IntervalReduces'. -/
def intervalReducesUptoCard : Claim7 := { stood := { row := intervalReducesUptoRow, standIns := [], harness := (true, "cb96a70b224c9dff2171d8a311c822f6c3303103ab56b429b3e7badcb6920c3b"), looks := true }, kinds := [], alts := [], laidByText := true, laidKinds := [.data, .data, .data, .sentinel, .sentinel], laidTests := true, laidLooks := .later }
def IntervalReducesUptoCardSaid : Prop := Claim7.holds Tryz.pinned (.plain (OpenSpec.upto intervalReducesSpec)) intervalReducesUptoCard

/-- THE SECOND FORM's CARD OF 'schismalaw15.IntervalSteps'. -/
def intervalStepsUptoCard : Claim7 := { stood := { row := intervalStepsUptoRow, standIns := [], harness := (true, "cb96a70b224c9dff2171d8a311c822f6c3303103ab56b429b3e7badcb6920c3b"), looks := true }, kinds := [], alts := [], laidByText := true, laidKinds := [.data, .data, .data, .sentinel, .sentinel], laidTests := true, laidLooks := .later }
def IntervalStepsUptoCardSaid : Prop := Claim7.holds Tryz.pinned (.plain (OpenSpec.upto intervalStepsSpec)) intervalStepsUptoCard

/-- THE SECOND FORM's CARD OF 'schismalaw34.WordBuilds'. -/
def wordBuildsUptoCard : Claim7 := { stood := { row := wordBuildsUptoRow, standIns := [], harness := (true, "cb96a70b224c9dff2171d8a311c822f6c3303103ab56b429b3e7badcb6920c3b"), looks := true }, kinds := [], alts := [], laidByText := true, laidKinds := [.data, .data, .data, .sentinel, .sentinel], laidTests := true, laidLooks := .later }
def WordBuildsUptoCardSaid : Prop := Claim7.holds Tryz.pinned (.plain (OpenSpec.upto wordBuildsSpec)) wordBuildsUptoCard

/-- THE SECOND FORM's CARD OF 'schismalaw15.IntervalSorts'. -/
def intervalSortsUptoCard : Claim7 := { stood := { row := intervalSortsUptoRow, standIns := [], harness := (true, "cb96a70b224c9dff2171d8a311c822f6c3303103ab56b429b3e7badcb6920c3b"), looks := true }, kinds := [], alts := [], laidByText := true, laidKinds := [.data, .data, .data, .sentinel, .sentinel], laidTests := true, laidLooks := .later }
def IntervalSortsUptoCardSaid : Prop := Claim7.holds Tryz.pinned (.plain (OpenSpec.upto intervalSortsSpec)) intervalSortsUptoCard
end Rows
end Go.Proofs.YtkoicfghplmghaaGreatDoor
