/-
  DERIVED. GIVEN WITH THE SEED: THE CARDS: each row of YtepicfdhphiiaaaGreatDoorRows.lean that lists a variable, with what it lists TIED to the program's text (the seventh form; the later family's looks); each row that meets fmt, with fmt's text TOLD by the authors' own Lean function (tested against real Go, not proved from fmt's source: count such statements apart). THE CARD IS WHAT COUNTS. Prove the row's statement (the work); the ties are given (YtepicfdhphiiaaaGreatDoorTie.lean); close each card by the builder's one call (the guide's Derived/Test/ToyasCard.lean, 'card_holds'). Laid BY PROGRAM, IN A SANDBOX (cutbox-door.mjs). By AI agents, Wed Nov 11 2026. No macro, syntax, notation, axiom, sorry.
-/
import Derived.Test.YtepicfdhphiiaaaGreatDoorRows
import GoSem.ClaimSeven
namespace Go.Proofs.YtepicfdhphiiaaaGreatDoor
namespace Rows

/-- THE TIED CARD OF 'schismatop.TopRefinementIsALattice'. -/
def topRefinementIsALatticeCard : Claim7 := { stood := { row := topRefinementIsALatticeRow, standIns := [], harness := (true, "166bba04c8fb45ec300ca333ba64e2c6ab140cfc0899e1b3c4db06436502d665"), looks := true }, kinds := [], alts := [], laidByText := true, laidKinds := [.data, .data, .data, .sentinel, .sentinel], laidTests := true, laidLooks := .later }
def TopRefinementIsALatticeCardSaid : Prop := Claim7.holds Tryz.pinned (.plain (OpenSpec.ofChange topRefinementIsALatticeSpec)) topRefinementIsALatticeCard

/-- THE TIED CARD OF 'schismatop.TopRanksAddUp'. -/
def topRanksAddUpCard : Claim7 := { stood := { row := topRanksAddUpRow, standIns := [], harness := (true, "166bba04c8fb45ec300ca333ba64e2c6ab140cfc0899e1b3c4db06436502d665"), looks := true }, kinds := [], alts := [], laidByText := true, laidKinds := [.data, .data, .data, .sentinel, .sentinel], laidTests := true, laidLooks := .later }
def TopRanksAddUpCardSaid : Prop := Claim7.holds Tryz.pinned (.plain (OpenSpec.ofChange topRanksAddUpSpec)) topRanksAddUpCard

/-- THE SECOND FORM's CARD OF 'schismatop.TopRefinementIsALattice'. -/
def topRefinementIsALatticeUptoCard : Claim7 := { stood := { row := topRefinementIsALatticeUptoRow, standIns := [], harness := (true, "166bba04c8fb45ec300ca333ba64e2c6ab140cfc0899e1b3c4db06436502d665"), looks := true }, kinds := [], alts := [], laidByText := true, laidKinds := [.data, .data, .data, .sentinel, .sentinel], laidTests := true, laidLooks := .later }
def TopRefinementIsALatticeUptoCardSaid : Prop := Claim7.holds Tryz.pinned (.plain (OpenSpec.upto topRefinementIsALatticeSpec)) topRefinementIsALatticeUptoCard

/-- THE SECOND FORM's CARD OF 'schismatop.TopRanksAddUp'. -/
def topRanksAddUpUptoCard : Claim7 := { stood := { row := topRanksAddUpUptoRow, standIns := [], harness := (true, "166bba04c8fb45ec300ca333ba64e2c6ab140cfc0899e1b3c4db06436502d665"), looks := true }, kinds := [], alts := [], laidByText := true, laidKinds := [.data, .data, .data, .sentinel, .sentinel], laidTests := true, laidLooks := .later }
def TopRanksAddUpUptoCardSaid : Prop := Claim7.holds Tryz.pinned (.plain (OpenSpec.upto topRanksAddUpSpec)) topRanksAddUpUptoCard
end Rows
end Go.Proofs.YtepicfdhphiiaaaGreatDoor
