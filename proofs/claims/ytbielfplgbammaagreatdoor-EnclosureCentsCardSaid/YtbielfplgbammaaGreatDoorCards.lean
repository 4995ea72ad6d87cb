/-
  DERIVED. GIVEN WITH THE SEED: THE CARDS: each row of YtbielfplgbammaaGreatDoorRows.lean that lists a variable, with what it lists TIED to the program's text (the seventh form; the later family's looks); each row that meets fmt, with fmt's text TOLD by the authors' own Lean function (tested against real Go, not proved from fmt's source: count such statements apart). THE CARD IS WHAT COUNTS. Prove the row's statement (the work); the ties are given (YtbielfplgbammaaGreatDoorTie.lean); close each card by the builder's one call (the guide's Derived/Test/ToyasCard.lean, 'card_holds'). Laid BY PROGRAM, IN A SANDBOX (cutbox-door.mjs). By AI agents, Wed Nov 11 2026. No macro, syntax, notation, axiom, sorry.
-/
import Derived.Test.YtbielfplgbammaaGreatDoorRows
import GoSem.ClaimSeven
namespace Go.Proofs.YtbielfplgbammaaGreatDoor
namespace Rows

/-- THE TIED CARD OF 'schismatop.TopIntervalsAreFractions'. -/
def topIntervalsAreFractionsCard : Claim7 := { stood := { row := topIntervalsAreFractionsRow, standIns := [], harness := (true, "b9200d03b209745768cc394bd8a77d2626a7d9aa5e6cbe87beb9833488d81725"), looks := true }, kinds := [], alts := [], laidByText := true, laidKinds := [.data, .data, .data, .sentinel, .sentinel], laidTests := true, laidLooks := .later }
def TopIntervalsAreFractionsCardSaid : Prop := Claim7.holds Tryz.pinned (.plain (OpenSpec.ofChange topIntervalsAreFractionsSpec)) topIntervalsAreFractionsCard

/-- THE TIED CARD OF 'schismalaw34.WordRefuses'. -/
def wordRefusesCard : Claim7 := { stood := { row := wordRefusesRow, standIns := [], harness := (true, "b9200d03b209745768cc394bd8a77d2626a7d9aa5e6cbe87beb9833488d81725"), looks := true }, kinds := [], alts := [], laidByText := true, laidKinds := [.data, .data, .data, .sentinel, .sentinel], laidTests := true, laidLooks := .later }
def WordRefusesCardSaid : Prop := Claim7.holds Tryz.pinned (.plain (OpenSpec.ofChange wordRefusesSpec)) wordRefusesCard

/-- THE TIED CARD OF 'schismalaw15.IntervalSteps'. -/
def intervalStepsCard : Claim7 := { stood := { row := intervalStepsRow, standIns := [], harness := (true, "b9200d03b209745768cc394bd8a77d2626a7d9aa5e6cbe87beb9833488d81725"), looks := true }, kinds := [], alts := [], laidByText := true, laidKinds := [.data, .data, .data, .sentinel, .sentinel], laidTests := true, laidLooks := .later }
def IntervalStepsCardSaid : Prop := Claim7.holds Tryz.pinned (.plain (OpenSpec.ofChange intervalStepsSpec)) intervalStepsCard

/-- THE TIED CARD OF 'schismalaw34.WordBuilds'. -/
def wordBuildsCard : Claim7 := { stood := { row := wordBuildsRow, standIns := [], harness := (true, "b9200d03b209745768cc394bd8a77d2626a7d9aa5e6cbe87beb9833488d81725"), looks := true }, kinds := [], alts := [], laidByText := true, laidKinds := [.data, .data, .data, .sentinel, .sentinel], laidTests := true, laidLooks := .later }
def WordBuildsCardSaid : Prop := Claim7.holds Tryz.pinned (.plain (OpenSpec.ofChange wordBuildsSpec)) wordBuildsCard

/-- THE TIED CARD OF 'schismalaw14.EnclosureCents'. -/
def enclosureCentsCard : Claim7 := { stood := { row := enclosureCentsRow, standIns := [], harness := (true, "b9200d03b209745768cc394bd8a77d2626a7d9aa5e6cbe87beb9833488d81725"), looks := true }, kinds := [], alts := [], laidByText := true, laidKinds := [.data, .data, .data, .sentinel, .sentinel], laidTests := true, laidLooks := .later }
def EnclosureCentsCardSaid : Prop := Claim7.holds Tryz.pinned (.plain (OpenSpec.ofChange enclosureCentsSpec)) enclosureCentsCard

/-- THE TIED CARD OF 'schismatop.TopComparisonsAreReal'. -/
def topComparisonsAreRealCard : Claim7 := { stood := { row := topComparisonsAreRealRow, standIns := [], harness := (true, "b9200d03b209745768cc394bd8a77d2626a7d9aa5e6cbe87beb9833488d81725"), looks := true }, kinds := [], alts := [], laidByText := true, laidKinds := [.data, .data, .data, .sentinel, .sentinel], laidTests := true, laidLooks := .later }
def TopComparisonsAreRealCardSaid : Prop := Claim7.holds Tryz.pinned (.plain (OpenSpec.ofChange topComparisonsAreRealSpec)) topComparisonsAreRealCard

/-- THE SECOND FORM's CARD OF 'schismatop.TopIntervalsAreFractions'. -/
def topIntervalsAreFractionsUptoCard : Claim7 := { stood := { row := topIntervalsAreFractionsUptoRow, standIns := [], harness := (true, "b9200d03b209745768cc394bd8a77d2626a7d9aa5e6cbe87beb9833488d81725"), looks := true }, kinds := [], alts := [], laidByText := true, laidKinds := [.data, .data, .data, .sentinel, .sentinel], laidTests := true, laidLooks := .later }
def TopIntervalsAreFractionsUptoCardSaid : Prop := Claim7.holds Tryz.pinned (.plain (OpenSpec.upto topIntervalsAreFractionsSpec)) topIntervalsAreFractionsUptoCard

/-- THE SECOND FORM's CARD OF 'schismalaw34.WordRefuses'. -/
def wordRefusesUptoCard : Claim7 := { stood := { row := wordRefusesUptoRow, standIns := [], harness := (true, "b9200d03b209745768cc394bd8a77d2626a7d9aa5e6cbe87beb9833488d81725"), looks := true }, kinds := [], alts := [], laidByText := true, laidKinds := [.data, .data, .data, .sentinel, .sentinel], laidTests := true, laidLooks := .later }
def WordRefusesUptoCardSaid : Prop := Claim7.holds Tryz.pinned (.plain (OpenSpec.upto wordRefusesSpec)) wordRefusesUptoCard

/-- THE SECOND FORM's CARD OF 'schismalaw15.IntervalSteps'. -/
def intervalStepsUptoCard : Claim7 := { stood := { row := intervalStepsUptoRow, standIns := [], harness := (true, "b9200d03b209745768cc394bd8a77d2626a7d9aa5e6cbe87beb9833488d81725"), looks := true }, kinds := [], alts := [], laidByText := true, laidKinds := [.data, .data, .data, .sentinel, .sentinel], laidTests := true, laidLooks := .later }
def IntervalStepsUptoCardSaid : Prop := Claim7.holds Tryz.pinned (.plain (OpenSpec.upto intervalStepsSpec)) intervalStepsUptoCard

/-- THE SECOND FORM's CARD OF 'schismalaw34.WordBuilds'. -/
def wordBuildsUptoCard : Claim7 := { stood := { row := wordBuildsUptoRow, standIns := [], harness := (true, "b9200d03b209745768cc394bd8a77d2626a7d9aa5e6cbe87beb9833488d81725"), looks := true }, kinds := [], alts := [], laidByText := true, laidKinds := [.data, .data, .data, .sentinel, .sentinel], laidTests := true, laidLooks := .later }
def WordBuildsUptoCardSaid : Prop := Claim7.holds Tryz.pinned (.plain (OpenSpec.upto wordBuildsSpec)) wordBuildsUptoCard

/-- THE SECOND FORM's CARD OF 'schismalaw14.EnclosureCents'. -/
def enclosureCentsUptoCard : Claim7 := { stood := { row := enclosureCentsUptoRow, standIns := [], harness := (true, "b9200d03b209745768cc394bd8a77d2626a7d9aa5e6cbe87beb9833488d81725"), looks := true }, kinds := [], alts := [], laidByText := true, laidKinds := [.data, .data, .data, .sentinel, .sentinel], laidTests := true, laidLooks := .later }
def EnclosureCentsUptoCardSaid : Prop := Claim7.holds Tryz.pinned (.plain (OpenSpec.upto enclosureCentsSpec)) enclosureCentsUptoCard

/-- THE SECOND FORM's CARD OF 'schismatop.TopComparisonsAreReal'. -/
def topComparisonsAreRealUptoCard : Claim7 := { stood := { row := topComparisonsAreRealUptoRow, standIns := [], harness := (true, "b9200d03b209745768cc394bd8a77d2626a7d9aa5e6cbe87beb9833488d81725"), looks := true }, kinds := [], alts := [], laidByText := true, laidKinds := [.data, .data, .data, .sentinel, .sentinel], laidTests := true, laidLooks := .later }
def TopComparisonsAreRealUptoCardSaid : Prop := Claim7.holds Tryz.pinned (.plain (OpenSpec.upto topComparisonsAreRealSpec)) topComparisonsAreRealUptoCard
end Rows
end Go.Proofs.YtbielfplgbammaaGreatDoor
