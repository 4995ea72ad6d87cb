/-
  DERIVED. GIVEN WITH THE SEED: THE CARDS: each row of YtnjedhgcfeoemaaGreatDoorRows.lean that lists a variable, with what it lists TIED to the program's text (the seventh form; the later family's looks); each row that meets fmt, with fmt's text TOLD by the authors' own Lean function (tested against real Go, not proved from fmt's source: count such statements apart). THE CARD IS WHAT COUNTS. Prove the row's statement (the work); the ties are given (YtnjedhgcfeoemaaGreatDoorTie.lean); close each card by the builder's one call (the guide's Derived/Test/ToyasCard.lean, 'card_holds'). Laid BY PROGRAM, IN A SANDBOX (cutbox-door.mjs). By AI agents, Wed Nov 11 2026. No macro, syntax, notation, axiom, sorry.
-/
import Derived.Test.YtnjedhgcfeoemaaGreatDoorRows
import GoSem.ClaimSeven
namespace Go.Proofs.YtnjedhgcfeoemaaGreatDoor
namespace Rows

/-- THE TIED CARD OF 'schismalaw14.EnclosureGrows'. -/
def enclosureGrowsCard : Claim7 := { stood := { row := enclosureGrowsRow, standIns := [], harness := (true, "ba4f0ebd937b8c478f6b8602b07dc9ed40b3407eab14e232b02ef4da435dc970"), looks := true }, kinds := [], alts := [], laidByText := true, laidKinds := [.data, .data, .data, .sentinel, .sentinel], laidTests := true, laidLooks := .later }
def EnclosureGrowsCardSaid : Prop := Claim7.holds Tryz.pinned (.plain (OpenSpec.ofChange enclosureGrowsSpec)) enclosureGrowsCard

/-- THE TIED CARD OF 'schismalaw14.EnclosureErrors'. -/
def enclosureErrorsCard : Claim7 := { stood := { row := enclosureErrorsRow, standIns := [], harness := (true, "ba4f0ebd937b8c478f6b8602b07dc9ed40b3407eab14e232b02ef4da435dc970"), looks := true }, kinds := [], alts := [], laidByText := true, laidKinds := [.data, .data, .data, .sentinel, .sentinel], laidTests := true, laidLooks := .later }
def EnclosureErrorsCardSaid : Prop := Claim7.holds Tryz.pinned (.plain (OpenSpec.ofChange enclosureErrorsSpec)) enclosureErrorsCard

/-- THE TIED CARD OF 'schismalaw34.WordOf'. -/
def wordOfCard : Claim7 := { stood := { row := wordOfRow, standIns := [], harness := (true, "ba4f0ebd937b8c478f6b8602b07dc9ed40b3407eab14e232b02ef4da435dc970"), looks := true }, kinds := [], alts := [], laidByText := true, laidKinds := [.data, .data, .data, .sentinel, .sentinel], laidTests := true, laidLooks := .later }
def WordOfCardSaid : Prop := Claim7.holds Tryz.pinned (.plain (OpenSpec.ofChange wordOfSpec)) wordOfCard

/-- THE TIED CARD OF 'schismalaw14.EnclosureOrders'. -/
def enclosureOrdersCard : Claim7 := { stood := { row := enclosureOrdersRow, standIns := [], harness := (true, "ba4f0ebd937b8c478f6b8602b07dc9ed40b3407eab14e232b02ef4da435dc970"), looks := true }, kinds := [], alts := [], laidByText := true, laidKinds := [.data, .data, .data, .sentinel, .sentinel], laidTests := true, laidLooks := .later }
def EnclosureOrdersCardSaid : Prop := Claim7.holds Tryz.pinned (.plain (OpenSpec.ofChange enclosureOrdersSpec)) enclosureOrdersCard

/-- THE TIED CARD OF 'schismalaw14.EnclosureEnds'. -/
def enclosureEndsCard : Claim7 := { stood := { row := enclosureEndsRow, standIns := [], harness := (true, "ba4f0ebd937b8c478f6b8602b07dc9ed40b3407eab14e232b02ef4da435dc970"), looks := true }, kinds := [], alts := [], laidByText := true, laidKinds := [.data, .data, .data, .sentinel, .sentinel], laidTests := true, laidLooks := .later }
def EnclosureEndsCardSaid : Prop := Claim7.holds Tryz.pinned (.plain (OpenSpec.ofChange enclosureEndsSpec)) enclosureEndsCard

/-- THE TIED CARD OF 'schismalaw14.EnclosureNarrows'. -/
def enclosureNarrowsCard : Claim7 := { stood := { row := enclosureNarrowsRow, standIns := [], harness := (true, "ba4f0ebd937b8c478f6b8602b07dc9ed40b3407eab14e232b02ef4da435dc970"), looks := true }, kinds := [], alts := [], laidByText := true, laidKinds := [.data, .data, .data, .sentinel, .sentinel], laidTests := true, laidLooks := .later }
def EnclosureNarrowsCardSaid : Prop := Claim7.holds Tryz.pinned (.plain (OpenSpec.ofChange enclosureNarrowsSpec)) enclosureNarrowsCard

/-- THE TIED CARD OF 'schismalaw14.EnclosureBounds'. -/
def enclosureBoundsCard : Claim7 := { stood := { row := enclosureBoundsRow, standIns := [], harness := (true, "ba4f0ebd937b8c478f6b8602b07dc9ed40b3407eab14e232b02ef4da435dc970"), looks := true }, kinds := [], alts := [], laidByText := true, laidKinds := [.data, .data, .data, .sentinel, .sentinel], laidTests := true, laidLooks := .later }
def EnclosureBoundsCardSaid : Prop := Claim7.holds Tryz.pinned (.plain (OpenSpec.ofChange enclosureBoundsSpec)) enclosureBoundsCard

/-- THE TIED CARD OF 'schismalaw14.EnclosureChecks'. -/
def enclosureChecksCard : Claim7 := { stood := { row := enclosureChecksRow, standIns := [], harness := (true, "ba4f0ebd937b8c478f6b8602b07dc9ed40b3407eab14e232b02ef4da435dc970"), looks := true }, kinds := [], alts := [], laidByText := true, laidKinds := [.data, .data, .data, .sentinel, .sentinel], laidTests := true, laidLooks := .later }
def EnclosureChecksCardSaid : Prop := Claim7.holds Tryz.pinned (.plain (OpenSpec.ofChange enclosureChecksSpec)) enclosureChecksCard

/-- THE TIED CARD OF 'schismalaw34.WordBuilds'. -/
def wordBuildsCard : Claim7 := { stood := { row := wordBuildsRow, standIns := [], harness := (true, "ba4f0ebd937b8c478f6b8602b07dc9ed40b3407eab14e232b02ef4da435dc970"), looks := true }, kinds := [], alts := [], laidByText := true, laidKinds := [.data, .data, .data, .sentinel, .sentinel], laidTests := true, laidLooks := .later }
def WordBuildsCardSaid : Prop := Claim7.holds Tryz.pinned (.plain (OpenSpec.ofChange wordBuildsSpec)) wordBuildsCard

/-- THE TIED CARD OF 'schismalaw14.EnclosureVerifies'. -/
def enclosureVerifiesCard : Claim7 := { stood := { row := enclosureVerifiesRow, standIns := [], harness := (true, "ba4f0ebd937b8c478f6b8602b07dc9ed40b3407eab14e232b02ef4da435dc970"), looks := true }, kinds := [], alts := [], laidByText := true, laidKinds := [.data, .data, .data, .sentinel, .sentinel], laidTests := true, laidLooks := .later }
def EnclosureVerifiesCardSaid : Prop := Claim7.holds Tryz.pinned (.plain (OpenSpec.ofChange enclosureVerifiesSpec)) enclosureVerifiesCard

/-- THE TIED CARD OF 'schismalaw14.EnclosureCents'. -/
def enclosureCentsCard : Claim7 := { stood := { row := enclosureCentsRow, standIns := [], harness := (true, "ba4f0ebd937b8c478f6b8602b07dc9ed40b3407eab14e232b02ef4da435dc970"), looks := true }, kinds := [], alts := [], laidByText := true, laidKinds := [.data, .data, .data, .sentinel, .sentinel], laidTests := true, laidLooks := .later }
def EnclosureCentsCardSaid : Prop := Claim7.holds Tryz.pinned (.plain (OpenSpec.ofChange enclosureCentsSpec)) enclosureCentsCard

/-- THE TIED CARD OF 'schismalaw14.EnclosureDecides'. -/
def enclosureDecidesCard : Claim7 := { stood := { row := enclosureDecidesRow, standIns := [], harness := (true, "ba4f0ebd937b8c478f6b8602b07dc9ed40b3407eab14e232b02ef4da435dc970"), looks := true }, kinds := [], alts := [], laidByText := true, laidKinds := [.data, .data, .data, .sentinel, .sentinel], laidTests := true, laidLooks := .later }
def EnclosureDecidesCardSaid : Prop := Claim7.holds Tryz.pinned (.plain (OpenSpec.ofChange enclosureDecidesSpec)) enclosureDecidesCard

/-- THE SECOND FORM's CARD OF 'schismalaw14.EnclosureGrows'. -/
def enclosureGrowsUptoCard : Claim7 := { stood := { row := enclosureGrowsUptoRow, standIns := [], harness := (true, "ba4f0ebd937b8c478f6b8602b07dc9ed40b3407eab14e232b02ef4da435dc970"), looks := true }, kinds := [], alts := [], laidByText := true, laidKinds := [.data, .data, .data, .sentinel, .sentinel], laidTests := true, laidLooks := .later }
def EnclosureGrowsUptoCardSaid : Prop := Claim7.holds Tryz.pinned (.plain (OpenSpec.upto enclosureGrowsSpec)) enclosureGrowsUptoCard

/-- THE SECOND FORM's CARD OF 'schismalaw14.EnclosureErrors'. -/
def enclosureErrorsUptoCard : Claim7 := { stood := { row := enclosureErrorsUptoRow, standIns := [], harness := (true, "ba4f0ebd937b8c478f6b8602b07dc9ed40b3407eab14e232b02ef4da435dc970"), looks := true }, kinds := [], alts := [], laidByText := true, laidKinds := [.data, .data, .data, .sentinel, .sentinel], laidTests := true, laidLooks := .later }
def EnclosureErrorsUptoCardSaid : Prop := Claim7.holds Tryz.pinned (.plain (OpenSpec.upto enclosureErrorsSpec)) enclosureErrorsUptoCard

/-- THE SECOND FORM's CARD OF 'schismalaw34.WordOf'. -/
def wordOfUptoCard : Claim7 := { stood := { row := wordOfUptoRow, standIns := [], harness := (true, "ba4f0ebd937b8c478f6b8602b07dc9ed40b3407eab14e232b02ef4da435dc970"), looks := true }, kinds := [], alts := [], laidByText := true, laidKinds := [.data, .data, .data, .sentinel, .sentinel], laidTests := true, laidLooks := .later }
def WordOfUptoCardSaid : Prop := Claim7.holds Tryz.pinned (.plain (OpenSpec.upto wordOfSpec)) wordOfUptoCard

/-- THE SECOND FORM's CARD OF 'schismalaw14.EnclosureOrders'. -/
def enclosureOrdersUptoCard : Claim7 := { stood := { row := enclosureOrdersUptoRow, standIns := [], harness := (true, "ba4f0ebd937b8c478f6b8602b07dc9ed40b3407eab14e232b02ef4da435dc970"), looks := true }, kinds := [], alts := [], laidByText := true, laidKinds := [.data, .data, .data, .sentinel, .sentinel], laidTests := true, laidLooks := .later }
def EnclosureOrdersUptoCardSaid : Prop := Claim7.holds Tryz.pinned (.plain (OpenSpec.upto enclosureOrdersSpec)) enclosureOrdersUptoCard

/-- THE SECOND FORM's CARD OF 'schismalaw14.EnclosureEnds'. -/
def enclosureEndsUptoCard : Claim7 := { stood := { row := enclosureEndsUptoRow, standIns := [], harness := (true, "ba4f0ebd937b8c478f6b8602b07dc9ed40b3407eab14e232b02ef4da435dc970"), looks := true }, kinds := [], alts := [], laidByText := true, laidKinds := [.data, .data, .data, .sentinel, .sentinel], laidTests := true, laidLooks := .later }
def EnclosureEndsUptoCardSaid : Prop := Claim7.holds Tryz.pinned (.plain (OpenSpec.upto enclosureEndsSpec)) enclosureEndsUptoCard

/-- THE SECOND FORM's CARD OF 'schismalaw14.EnclosureNarrows'. -/
def enclosureNarrowsUptoCard : Claim7 := { stood := { row := enclosureNarrowsUptoRow, standIns := [], harness := (true, "ba4f0ebd937b8c478f6b8602b07dc9ed40b3407eab14e232b02ef4da435dc970"), looks := true }, kinds := [], alts := [], laidByText := true, laidKinds := [.data, .data, .data, .sentinel, .sentinel], laidTests := true, laidLooks := .later }
def EnclosureNarrowsUptoCardSaid : Prop := Claim7.holds Tryz.pinned (.plain (OpenSpec.upto enclosureNarrowsSpec)) enclosureNarrowsUptoCard

/-- THE SECOND FORM's CARD OF 'schismalaw14.EnclosureBounds'. -/
def enclosureBoundsUptoCard : Claim7 := { stood := { row := enclosureBoundsUptoRow, standIns := [], harness := (true, "ba4f0ebd937b8c478f6b8602b07dc9ed40b3407eab14e232b02ef4da435dc970"), looks := true }, kinds := [], alts := [], laidByText := true, laidKinds := [.data, .data, .data, .sentinel, .sentinel], laidTests := true, laidLooks := .later }
def EnclosureBoundsUptoCardSaid : Prop := Claim7.holds Tryz.pinned (.plain (OpenSpec.upto enclosureBoundsSpec)) enclosureBoundsUptoCard

/-- THE SECOND FORM's CARD OF 'schismalaw14.EnclosureChecks'. -/
def enclosureChecksUptoCard : Claim7 := { stood := { row := enclosureChecksUptoRow, standIns := [], harness := (true, "ba4f0ebd937b8c478f6b8602b07dc9ed40b3407eab14e232b02ef4da435dc970"), looks := true }, kinds := [], alts := [], laidByText := true, laidKinds := [.data, .data, .data, .sentinel, .sentinel], laidTests := true, laidLooks := .later }
def EnclosureChecksUptoCardSaid : Prop := Claim7.holds Tryz.pinned (.plain (OpenSpec.upto enclosureChecksSpec)) enclosureChecksUptoCard

/-- THE SECOND FORM's CARD OF 'schismalaw34.WordBuilds'. -/
def wordBuildsUptoCard : Claim7 := { stood := { row := wordBuildsUptoRow, standIns := [], harness := (true, "ba4f0ebd937b8c478f6b8602b07dc9ed40b3407eab14e232b02ef4da435dc970"), looks := true }, kinds := [], alts := [], laidByText := true, laidKinds := [.data, .data, .data, .sentinel, .sentinel], laidTests := true, laidLooks := .later }
def WordBuildsUptoCardSaid : Prop := Claim7.holds Tryz.pinned (.plain (OpenSpec.upto wordBuildsSpec)) wordBuildsUptoCard

/-- THE SECOND FORM's CARD OF 'schismalaw14.EnclosureVerifies'. -/
def enclosureVerifiesUptoCard : Claim7 := { stood := { row := enclosureVerifiesUptoRow, standIns := [], harness := (true, "ba4f0ebd937b8c478f6b8602b07dc9ed40b3407eab14e232b02ef4da435dc970"), looks := true }, kinds := [], alts := [], laidByText := true, laidKinds := [.data, .data, .data, .sentinel, .sentinel], laidTests := true, laidLooks := .later }
def EnclosureVerifiesUptoCardSaid : Prop := Claim7.holds Tryz.pinned (.plain (OpenSpec.upto enclosureVerifiesSpec)) enclosureVerifiesUptoCard

/-- THE SECOND FORM's CARD OF 'schismalaw14.EnclosureCents'. -/
def enclosureCentsUptoCard : Claim7 := { stood := { row := enclosureCentsUptoRow, standIns := [], harness := (true, "ba4f0ebd937b8c478f6b8602b07dc9ed40b3407eab14e232b02ef4da435dc970"), looks := true }, kinds := [], alts := [], laidByText := true, laidKinds := [.data, .data, .data, .sentinel, .sentinel], laidTests := true, laidLooks := .later }
def EnclosureCentsUptoCardSaid : Prop := Claim7.holds Tryz.pinned (.plain (OpenSpec.upto enclosureCentsSpec)) enclosureCentsUptoCard

/-- THE SECOND FORM's CARD OF 'schismalaw14.EnclosureDecides'. -/
def enclosureDecidesUptoCard : Claim7 := { stood := { row := enclosureDecidesUptoRow, standIns := [], harness := (true, "ba4f0ebd937b8c478f6b8602b07dc9ed40b3407eab14e232b02ef4da435dc970"), looks := true }, kinds := [], alts := [], laidByText := true, laidKinds := [.data, .data, .data, .sentinel, .sentinel], laidTests := true, laidLooks := .later }
def EnclosureDecidesUptoCardSaid : Prop := Claim7.holds Tryz.pinned (.plain (OpenSpec.upto enclosureDecidesSpec)) enclosureDecidesUptoCard
end Rows
end Go.Proofs.YtnjedhgcfeoemaaGreatDoor
