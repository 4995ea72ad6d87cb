/-
  DERIVED. GIVEN WITH THE SEED: THE CARDS: each row of YtpbapojnbmbdlaaGreatDoorRows.lean that lists a variable, with what it lists TIED to the program's text (the seventh form; the later family's looks); each row that meets fmt, with fmt's text TOLD by the authors' own Lean function (tested against real Go, not proved from fmt's source: count such statements apart). THE CARD IS WHAT COUNTS. Prove the row's statement (the work); the ties are given (YtpbapojnbmbdlaaGreatDoorTie.lean); close each card by the builder's one call (the guide's Derived/Test/ToyasCard.lean, 'card_holds'). Laid BY PROGRAM, IN A SANDBOX (cutbox-door.mjs). By AI agents, Wed Nov 11 2026. No macro, syntax, notation, axiom, sorry.
-/
import Derived.Test.YtpbapojnbmbdlaaGreatDoorRows
import GoSem.ClaimSeven
namespace Go.Proofs.YtpbapojnbmbdlaaGreatDoor
namespace Rows

/-- THE TIED CARD OF 'schismalaw17.ValSteps'. -/
def valStepsCard : Claim7 := { stood := { row := valStepsRow, standIns := [], harness := (true, "fdd5cf16a0dfa912f21ac7df3c3821fe8636e355fa4475fc24e324710bbe61d6"), looks := true }, kinds := [], alts := [], laidByText := true, laidKinds := [.data, .data, .data, .sentinel, .sentinel], laidTests := true, laidLooks := .later }
def ValStepsCardSaid : Prop := Claim7.holds Tryz.pinned (.plain (OpenSpec.ofChange valStepsSpec)) valStepsCard

/-- THE TIED CARD OF 'schismalaw17.ValLinear'. -/
def valLinearCard : Claim7 := { stood := { row := valLinearRow, standIns := [], harness := (true, "fdd5cf16a0dfa912f21ac7df3c3821fe8636e355fa4475fc24e324710bbe61d6"), looks := true }, kinds := [], alts := [], laidByText := true, laidKinds := [.data, .data, .data, .sentinel, .sentinel], laidTests := true, laidLooks := .later }
def ValLinearCardSaid : Prop := Claim7.holds Tryz.pinned (.plain (OpenSpec.ofChange valLinearSpec)) valLinearCard

/-- THE TIED CARD OF 'schismalaw17.ValPatents'. -/
def valPatentsCard : Claim7 := { stood := { row := valPatentsRow, standIns := [], harness := (true, "fdd5cf16a0dfa912f21ac7df3c3821fe8636e355fa4475fc24e324710bbe61d6"), looks := true }, kinds := [], alts := [], laidByText := true, laidKinds := [.data, .data, .data, .sentinel, .sentinel], laidTests := true, laidLooks := .later }
def ValPatentsCardSaid : Prop := Claim7.holds Tryz.pinned (.plain (OpenSpec.ofChange valPatentsSpec)) valPatentsCard

/-- THE TIED CARD OF 'schismalaw17.ValUniform'. -/
def valUniformCard : Claim7 := { stood := { row := valUniformRow, standIns := [], harness := (true, "fdd5cf16a0dfa912f21ac7df3c3821fe8636e355fa4475fc24e324710bbe61d6"), looks := true }, kinds := [], alts := [], laidByText := true, laidKinds := [.data, .data, .data, .sentinel, .sentinel], laidTests := true, laidLooks := .later }
def ValUniformCardSaid : Prop := Claim7.holds Tryz.pinned (.plain (OpenSpec.ofChange valUniformSpec)) valUniformCard

/-- THE TIED CARD OF 'schismalaw17.ValLists'. -/
def valListsCard : Claim7 := { stood := { row := valListsRow, standIns := [], harness := (true, "fdd5cf16a0dfa912f21ac7df3c3821fe8636e355fa4475fc24e324710bbe61d6"), looks := true }, kinds := [], alts := [], laidByText := true, laidKinds := [.data, .data, .data, .sentinel, .sentinel], laidTests := true, laidLooks := .later }
def ValListsCardSaid : Prop := Claim7.holds Tryz.pinned (.plain (OpenSpec.ofChange valListsSpec)) valListsCard

/-- THE TIED CARD OF 'schismalaw17.ValNeighbours'. -/
def valNeighboursCard : Claim7 := { stood := { row := valNeighboursRow, standIns := [], harness := (true, "fdd5cf16a0dfa912f21ac7df3c3821fe8636e355fa4475fc24e324710bbe61d6"), looks := true }, kinds := [], alts := [], laidByText := true, laidKinds := [.data, .data, .data, .sentinel, .sentinel], laidTests := true, laidLooks := .later }
def ValNeighboursCardSaid : Prop := Claim7.holds Tryz.pinned (.plain (OpenSpec.ofChange valNeighboursSpec)) valNeighboursCard

/-- THE TIED CARD OF 'schismalaw17.ValParses'. -/
def valParsesCard : Claim7 := { stood := { row := valParsesRow, standIns := [], harness := (true, "fdd5cf16a0dfa912f21ac7df3c3821fe8636e355fa4475fc24e324710bbe61d6"), looks := true }, kinds := [], alts := [], laidByText := true, laidKinds := [.data, .data, .data, .data, .sentinel, .sentinel, .pinned], laidTests := true, laidLooks := .later }
def ValParsesCardSaid : Prop := Claim7.holds Tryz.pinned (.plain (OpenSpec.ofChange valParsesSpec)) valParsesCard

/-- THE TIED CARD OF 'schismalaw17.ValChecks'. -/
def valChecksCard : Claim7 := { stood := { row := valChecksRow, standIns := [], harness := (true, "fdd5cf16a0dfa912f21ac7df3c3821fe8636e355fa4475fc24e324710bbe61d6"), looks := true }, kinds := [], alts := [], laidByText := true, laidKinds := [.data, .data, .data, .data, .sentinel, .sentinel, .pinned], laidTests := true, laidLooks := .later }
def ValChecksCardSaid : Prop := Claim7.holds Tryz.pinned (.plain (OpenSpec.ofChange valChecksSpec)) valChecksCard

/-- THE TIED CARD OF 'schismalaw17.ValNames'. -/
def valNamesCard : Claim7 := { stood := { row := valNamesRow, standIns := [], harness := (true, "fdd5cf16a0dfa912f21ac7df3c3821fe8636e355fa4475fc24e324710bbe61d6"), looks := true }, kinds := [], alts := [], laidByText := true, laidKinds := [.data, .data, .data, .data, .sentinel, .sentinel, .pinned], laidTests := true, laidLooks := .later }
def ValNamesCardSaid : Prop := Claim7.holds Tryz.pinned (.plain (OpenSpec.ofChange valNamesSpec)) valNamesCard

/-- THE SECOND FORM's CARD OF 'schismalaw17.ValSteps'. -/
def valStepsUptoCard : Claim7 := { stood := { row := valStepsUptoRow, standIns := [], harness := (true, "fdd5cf16a0dfa912f21ac7df3c3821fe8636e355fa4475fc24e324710bbe61d6"), looks := true }, kinds := [], alts := [], laidByText := true, laidKinds := [.data, .data, .data, .sentinel, .sentinel], laidTests := true, laidLooks := .later }
def ValStepsUptoCardSaid : Prop := Claim7.holds Tryz.pinned (.plain (OpenSpec.upto valStepsSpec)) valStepsUptoCard

/-- THE SECOND FORM's CARD OF 'schismalaw17.ValLinear'. -/
def valLinearUptoCard : Claim7 := { stood := { row := valLinearUptoRow, standIns := [], harness := (true, "fdd5cf16a0dfa912f21ac7df3c3821fe8636e355fa4475fc24e324710bbe61d6"), looks := true }, kinds := [], alts := [], laidByText := true, laidKinds := [.data, .data, .data, .sentinel, .sentinel], laidTests := true, laidLooks := .later }
def ValLinearUptoCardSaid : Prop := Claim7.holds Tryz.pinned (.plain (OpenSpec.upto valLinearSpec)) valLinearUptoCard

/-- THE SECOND FORM's CARD OF 'schismalaw17.ValPatents'. -/
def valPatentsUptoCard : Claim7 := { stood := { row := valPatentsUptoRow, standIns := [], harness := (true, "fdd5cf16a0dfa912f21ac7df3c3821fe8636e355fa4475fc24e324710bbe61d6"), looks := true }, kinds := [], alts := [], laidByText := true, laidKinds := [.data, .data, .data, .sentinel, .sentinel], laidTests := true, laidLooks := .later }
def ValPatentsUptoCardSaid : Prop := Claim7.holds Tryz.pinned (.plain (OpenSpec.upto valPatentsSpec)) valPatentsUptoCard

/-- THE SECOND FORM's CARD OF 'schismalaw17.ValUniform'. -/
def valUniformUptoCard : Claim7 := { stood := { row := valUniformUptoRow, standIns := [], harness := (true, "fdd5cf16a0dfa912f21ac7df3c3821fe8636e355fa4475fc24e324710bbe61d6"), looks := true }, kinds := [], alts := [], laidByText := true, laidKinds := [.data, .data, .data, .sentinel, .sentinel], laidTests := true, laidLooks := .later }
def ValUniformUptoCardSaid : Prop := Claim7.holds Tryz.pinned (.plain (OpenSpec.upto valUniformSpec)) valUniformUptoCard

/-- THE SECOND FORM's CARD OF 'schismalaw17.ValLists'. -/
def valListsUptoCard : Claim7 := { stood := { row := valListsUptoRow, standIns := [], harness := (true, "fdd5cf16a0dfa912f21ac7df3c3821fe8636e355fa4475fc24e324710bbe61d6"), looks := true }, kinds := [], alts := [], laidByText := true, laidKinds := [.data, .data, .data, .sentinel, .sentinel], laidTests := true, laidLooks := .later }
def ValListsUptoCardSaid : Prop := Claim7.holds Tryz.pinned (.plain (OpenSpec.upto valListsSpec)) valListsUptoCard

/-- THE SECOND FORM's CARD OF 'schismalaw17.ValNeighbours'. -/
def valNeighboursUptoCard : Claim7 := { stood := { row := valNeighboursUptoRow, standIns := [], harness := (true, "fdd5cf16a0dfa912f21ac7df3c3821fe8636e355fa4475fc24e324710bbe61d6"), looks := true }, kinds := [], alts := [], laidByText := true, laidKinds := [.data, .data, .data, .sentinel, .sentinel], laidTests := true, laidLooks := .later }
def ValNeighboursUptoCardSaid : Prop := Claim7.holds Tryz.pinned (.plain (OpenSpec.upto valNeighboursSpec)) valNeighboursUptoCard

/-- THE SECOND FORM's CARD OF 'schismalaw17.ValParses'. -/
def valParsesUptoCard : Claim7 := { stood := { row := valParsesUptoRow, standIns := [], harness := (true, "fdd5cf16a0dfa912f21ac7df3c3821fe8636e355fa4475fc24e324710bbe61d6"), looks := true }, kinds := [], alts := [], laidByText := true, laidKinds := [.data, .data, .data, .data, .sentinel, .sentinel, .pinned], laidTests := true, laidLooks := .later }
def ValParsesUptoCardSaid : Prop := Claim7.holds Tryz.pinned (.plain (OpenSpec.upto valParsesSpec)) valParsesUptoCard

/-- THE SECOND FORM's CARD OF 'schismalaw17.ValChecks'. -/
def valChecksUptoCard : Claim7 := { stood := { row := valChecksUptoRow, standIns := [], harness := (true, "fdd5cf16a0dfa912f21ac7df3c3821fe8636e355fa4475fc24e324710bbe61d6"), looks := true }, kinds := [], alts := [], laidByText := true, laidKinds := [.data, .data, .data, .data, .sentinel, .sentinel, .pinned], laidTests := true, laidLooks := .later }
def ValChecksUptoCardSaid : Prop := Claim7.holds Tryz.pinned (.plain (OpenSpec.upto valChecksSpec)) valChecksUptoCard

/-- THE SECOND FORM's CARD OF 'schismalaw17.ValNames'. -/
def valNamesUptoCard : Claim7 := { stood := { row := valNamesUptoRow, standIns := [], harness := (true, "fdd5cf16a0dfa912f21ac7df3c3821fe8636e355fa4475fc24e324710bbe61d6"), looks := true }, kinds := [], alts := [], laidByText := true, laidKinds := [.data, .data, .data, .data, .sentinel, .sentinel, .pinned], laidTests := true, laidLooks := .later }
def ValNamesUptoCardSaid : Prop := Claim7.holds Tryz.pinned (.plain (OpenSpec.upto valNamesSpec)) valNamesUptoCard
end Rows
end Go.Proofs.YtpbapojnbmbdlaaGreatDoor
