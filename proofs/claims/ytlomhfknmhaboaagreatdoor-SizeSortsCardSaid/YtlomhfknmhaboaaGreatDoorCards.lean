/-
  DERIVED. GIVEN WITH THE SEED: THE CARDS: each row of YtlomhfknmhaboaaGreatDoorRows.lean that lists a variable, with what it lists TIED to the program's text (the seventh form; the later family's looks); each row that meets fmt, with fmt's text TOLD by the authors' own Lean function (tested against real Go, not proved from fmt's source: count such statements apart). THE CARD IS WHAT COUNTS. Prove the row's statement (the work); the ties are given (YtlomhfknmhaboaaGreatDoorTie.lean); close each card by the builder's one call (the guide's Derived/Test/ToyasCard.lean, 'card_holds'). Laid BY PROGRAM, IN A SANDBOX (cutbox-door.mjs). By AI agents, Wed Nov 11 2026. No macro, syntax, notation, axiom, sorry.
-/
import Derived.Test.YtlomhfknmhaboaaGreatDoorRows
import GoSem.ClaimSeven
namespace Go.Proofs.YtlomhfknmhaboaaGreatDoor
namespace Rows

/-- THE TIED CARD OF 'schismalaw13.SizeCombines'. -/
def sizeCombinesCard : Claim7 := { stood := { row := sizeCombinesRow, standIns := [], harness := (true, "9d0d2a1671fb7254a0d6cd7f535de0290e91414b206b40d6b5ae62423c22e5c1"), looks := true }, kinds := [], alts := [], laidByText := true, laidKinds := [.data, .data, .data, .sentinel, .sentinel], laidTests := true, laidLooks := .later }
def SizeCombinesCardSaid : Prop := Claim7.holds Tryz.pinned (.plain (OpenSpec.ofChange sizeCombinesSpec)) sizeCombinesCard

/-- THE TIED CARD OF 'schismalaw13.SizeOrders'. -/
def sizeOrdersCard : Claim7 := { stood := { row := sizeOrdersRow, standIns := [], harness := (true, "9d0d2a1671fb7254a0d6cd7f535de0290e91414b206b40d6b5ae62423c22e5c1"), looks := true }, kinds := [], alts := [], laidByText := true, laidKinds := [.data, .data, .data, .sentinel, .sentinel], laidTests := true, laidLooks := .later }
def SizeOrdersCardSaid : Prop := Claim7.holds Tryz.pinned (.plain (OpenSpec.ofChange sizeOrdersSpec)) sizeOrdersCard

/-- THE TIED CARD OF 'schismalaw13.SizeAdds'. -/
def sizeAddsCard : Claim7 := { stood := { row := sizeAddsRow, standIns := [], harness := (true, "9d0d2a1671fb7254a0d6cd7f535de0290e91414b206b40d6b5ae62423c22e5c1"), looks := true }, kinds := [], alts := [], laidByText := true, laidKinds := [.data, .data, .data, .sentinel, .sentinel], laidTests := true, laidLooks := .later }
def SizeAddsCardSaid : Prop := Claim7.holds Tryz.pinned (.plain (OpenSpec.ofChange sizeAddsSpec)) sizeAddsCard

/-- THE TIED CARD OF 'schismalaw13.SizeSigns'. -/
def sizeSignsCard : Claim7 := { stood := { row := sizeSignsRow, standIns := [], harness := (true, "9d0d2a1671fb7254a0d6cd7f535de0290e91414b206b40d6b5ae62423c22e5c1"), looks := true }, kinds := [], alts := [], laidByText := true, laidKinds := [.data, .data, .data, .sentinel, .sentinel], laidTests := true, laidLooks := .later }
def SizeSignsCardSaid : Prop := Claim7.holds Tryz.pinned (.plain (OpenSpec.ofChange sizeSignsSpec)) sizeSignsCard

/-- THE TIED CARD OF 'schismalaw13.SizeFloors'. -/
def sizeFloorsCard : Claim7 := { stood := { row := sizeFloorsRow, standIns := [], harness := (true, "9d0d2a1671fb7254a0d6cd7f535de0290e91414b206b40d6b5ae62423c22e5c1"), looks := true }, kinds := [], alts := [], laidByText := true, laidKinds := [.data, .data, .data, .sentinel, .sentinel], laidTests := true, laidLooks := .later }
def SizeFloorsCardSaid : Prop := Claim7.holds Tryz.pinned (.plain (OpenSpec.ofChange sizeFloorsSpec)) sizeFloorsCard

/-- THE TIED CARD OF 'schismalaw13.SizeIntervals'. -/
def sizeIntervalsCard : Claim7 := { stood := { row := sizeIntervalsRow, standIns := [], harness := (true, "9d0d2a1671fb7254a0d6cd7f535de0290e91414b206b40d6b5ae62423c22e5c1"), looks := true }, kinds := [], alts := [], laidByText := true, laidKinds := [.data, .data, .data, .sentinel, .sentinel], laidTests := true, laidLooks := .later }
def SizeIntervalsCardSaid : Prop := Claim7.holds Tryz.pinned (.plain (OpenSpec.ofChange sizeIntervalsSpec)) sizeIntervalsCard

/-- THE TIED CARD OF 'schismalaw13.SizeMatches'. -/
def sizeMatchesCard : Claim7 := { stood := { row := sizeMatchesRow, standIns := [], harness := (true, "9d0d2a1671fb7254a0d6cd7f535de0290e91414b206b40d6b5ae62423c22e5c1"), looks := true }, kinds := [], alts := [], laidByText := true, laidKinds := [.data, .data, .data, .sentinel, .sentinel], laidTests := true, laidLooks := .later }
def SizeMatchesCardSaid : Prop := Claim7.holds Tryz.pinned (.plain (OpenSpec.ofChange sizeMatchesSpec)) sizeMatchesCard

/-- THE TIED CARD OF 'schismalaw13.SizeSorts'. -/
def sizeSortsCard : Claim7 := { stood := { row := sizeSortsRow, standIns := [], harness := (true, "9d0d2a1671fb7254a0d6cd7f535de0290e91414b206b40d6b5ae62423c22e5c1"), looks := true }, kinds := [], alts := [], laidByText := true, laidKinds := [.data, .data, .data, .sentinel, .sentinel], laidTests := true, laidLooks := .later }
def SizeSortsCardSaid : Prop := Claim7.holds Tryz.pinned (.plain (OpenSpec.ofChange sizeSortsSpec)) sizeSortsCard

/-- THE TIED CARD OF 'schismalaw13.SizeChecks'. -/
def sizeChecksCard : Claim7 := { stood := { row := sizeChecksRow, standIns := [], harness := (true, "9d0d2a1671fb7254a0d6cd7f535de0290e91414b206b40d6b5ae62423c22e5c1"), looks := true }, kinds := [], alts := [], laidByText := true, laidKinds := [.data, .data, .data, .sentinel, .sentinel], laidTests := true, laidLooks := .later }
def SizeChecksCardSaid : Prop := Claim7.holds Tryz.pinned (.plain (OpenSpec.ofChange sizeChecksSpec)) sizeChecksCard

/-- THE SECOND FORM's CARD OF 'schismalaw13.SizeCombines'. -/
def sizeCombinesUptoCard : Claim7 := { stood := { row := sizeCombinesUptoRow, standIns := [], harness := (true, "9d0d2a1671fb7254a0d6cd7f535de0290e91414b206b40d6b5ae62423c22e5c1"), looks := true }, kinds := [], alts := [], laidByText := true, laidKinds := [.data, .data, .data, .sentinel, .sentinel], laidTests := true, laidLooks := .later }
def SizeCombinesUptoCardSaid : Prop := Claim7.holds Tryz.pinned (.plain (OpenSpec.upto sizeCombinesSpec)) sizeCombinesUptoCard

/-- THE SECOND FORM's CARD OF 'schismalaw13.SizeOrders'. -/
def sizeOrdersUptoCard : Claim7 := { stood := { row := sizeOrdersUptoRow, standIns := [], harness := (true, "9d0d2a1671fb7254a0d6cd7f535de0290e91414b206b40d6b5ae62423c22e5c1"), looks := true }, kinds := [], alts := [], laidByText := true, laidKinds := [.data, .data, .data, .sentinel, .sentinel], laidTests := true, laidLooks := .later }
def SizeOrdersUptoCardSaid : Prop := Claim7.holds Tryz.pinned (.plain (OpenSpec.upto sizeOrdersSpec)) sizeOrdersUptoCard

/-- THE SECOND FORM's CARD OF 'schismalaw13.SizeAdds'. -/
def sizeAddsUptoCard : Claim7 := { stood := { row := sizeAddsUptoRow, standIns := [], harness := (true, "9d0d2a1671fb7254a0d6cd7f535de0290e91414b206b40d6b5ae62423c22e5c1"), looks := true }, kinds := [], alts := [], laidByText := true, laidKinds := [.data, .data, .data, .sentinel, .sentinel], laidTests := true, laidLooks := .later }
def SizeAddsUptoCardSaid : Prop := Claim7.holds Tryz.pinned (.plain (OpenSpec.upto sizeAddsSpec)) sizeAddsUptoCard

/-- THE SECOND FORM's CARD OF 'schismalaw13.SizeSigns'. -/
def sizeSignsUptoCard : Claim7 := { stood := { row := sizeSignsUptoRow, standIns := [], harness := (true, "9d0d2a1671fb7254a0d6cd7f535de0290e91414b206b40d6b5ae62423c22e5c1"), looks := true }, kinds := [], alts := [], laidByText := true, laidKinds := [.data, .data, .data, .sentinel, .sentinel], laidTests := true, laidLooks := .later }
def SizeSignsUptoCardSaid : Prop := Claim7.holds Tryz.pinned (.plain (OpenSpec.upto sizeSignsSpec)) sizeSignsUptoCard

/-- THE SECOND FORM's CARD OF 'schismalaw13.SizeFloors'. -/
def sizeFloorsUptoCard : Claim7 := { stood := { row := sizeFloorsUptoRow, standIns := [], harness := (true, "9d0d2a1671fb7254a0d6cd7f535de0290e91414b206b40d6b5ae62423c22e5c1"), looks := true }, kinds := [], alts := [], laidByText := true, laidKinds := [.data, .data, .data, .sentinel, .sentinel], laidTests := true, laidLooks := .later }
def SizeFloorsUptoCardSaid : Prop := Claim7.holds Tryz.pinned (.plain (OpenSpec.upto sizeFloorsSpec)) sizeFloorsUptoCard

/-- THE SECOND FORM's CARD OF 'schismalaw13.SizeIntervals'. -/
def sizeIntervalsUptoCard : Claim7 := { stood := { row := sizeIntervalsUptoRow, standIns := [], harness := (true, "9d0d2a1671fb7254a0d6cd7f535de0290e91414b206b40d6b5ae62423c22e5c1"), looks := true }, kinds := [], alts := [], laidByText := true, laidKinds := [.data, .data, .data, .sentinel, .sentinel], laidTests := true, laidLooks := .later }
def SizeIntervalsUptoCardSaid : Prop := Claim7.holds Tryz.pinned (.plain (OpenSpec.upto sizeIntervalsSpec)) sizeIntervalsUptoCard

/-- THE SECOND FORM's CARD OF 'schismalaw13.SizeMatches'. -/
def sizeMatchesUptoCard : Claim7 := { stood := { row := sizeMatchesUptoRow, standIns := [], harness := (true, "9d0d2a1671fb7254a0d6cd7f535de0290e91414b206b40d6b5ae62423c22e5c1"), looks := true }, kinds := [], alts := [], laidByText := true, laidKinds := [.data, .data, .data, .sentinel, .sentinel], laidTests := true, laidLooks := .later }
def SizeMatchesUptoCardSaid : Prop := Claim7.holds Tryz.pinned (.plain (OpenSpec.upto sizeMatchesSpec)) sizeMatchesUptoCard

/-- THE SECOND FORM's CARD OF 'schismalaw13.SizeSorts'. -/
def sizeSortsUptoCard : Claim7 := { stood := { row := sizeSortsUptoRow, standIns := [], harness := (true, "9d0d2a1671fb7254a0d6cd7f535de0290e91414b206b40d6b5ae62423c22e5c1"), looks := true }, kinds := [], alts := [], laidByText := true, laidKinds := [.data, .data, .data, .sentinel, .sentinel], laidTests := true, laidLooks := .later }
def SizeSortsUptoCardSaid : Prop := Claim7.holds Tryz.pinned (.plain (OpenSpec.upto sizeSortsSpec)) sizeSortsUptoCard

/-- THE SECOND FORM's CARD OF 'schismalaw13.SizeChecks'. -/
def sizeChecksUptoCard : Claim7 := { stood := { row := sizeChecksUptoRow, standIns := [], harness := (true, "9d0d2a1671fb7254a0d6cd7f535de0290e91414b206b40d6b5ae62423c22e5c1"), looks := true }, kinds := [], alts := [], laidByText := true, laidKinds := [.data, .data, .data, .sentinel, .sentinel], laidTests := true, laidLooks := .later }
def SizeChecksUptoCardSaid : Prop := Claim7.holds Tryz.pinned (.plain (OpenSpec.upto sizeChecksSpec)) sizeChecksUptoCard
end Rows
end Go.Proofs.YtlomhfknmhaboaaGreatDoor
