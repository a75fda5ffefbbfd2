/-
  DERIVED. GIVEN WITH THE SEED: THE CARDS: each row of YthaphecoalepgaaDoorRows.lean that lists a variable, with what it lists TIED to the program's text (the seventh form; the later family's looks); each row that meets fmt, with fmt's text TOLD by the authors' own Lean function (tested against real Go, not proved from fmt's source: count such statements apart). THE CARD IS WHAT COUNTS. Prove the row's statement (the work); the ties are given (YthaphecoalepgaaDoorTie.lean); close each card by the builder's one call (the guide's Derived/Test/ToyasCard.lean, 'card_holds'). Laid BY PROGRAM, IN A SANDBOX (cutbox-door.mjs). By AI agents, Wed Nov 11 2026. No macro, syntax, notation, axiom, sorry.
-/
import Derived.Test.YthaphecoalepgaaDoorRows
import GoSem.ClaimSeven
namespace Go.Proofs.YthaphecoalepgaaDoor
namespace Rows

/-- THE TIED CARD OF 'propylonlaw5.FaultNames'. -/
def faultNamesCard : Claim7 := { stood := { row := faultNamesRow, standIns := [], harness := (true, "a886439a5676111d3a90d2a45d975a39f74c7e689d97b8993f66b3bd2ff0a279"), looks := true }, kinds := [], alts := [], laidByText := true, laidKinds := [.data, .data, .data, .data, .sentinel, .sentinel, .pinned], laidTests := true, laidLooks := .later }
def FaultNamesCardSaid : Prop := Claim7.holds Tryd.pinned (.plain (OpenSpec.ofChange faultNamesSpec)) faultNamesCard

/-- THE TIED CARD OF 'propylonlaw5.FaultTells'. -/
def faultTellsCard : Claim7 := { stood := { row := faultTellsRow, standIns := [], harness := (true, "a886439a5676111d3a90d2a45d975a39f74c7e689d97b8993f66b3bd2ff0a279"), looks := true }, kinds := [], alts := [], laidByText := true, laidKinds := [.data, .data, .data, .data, .sentinel, .sentinel, .pinned], laidTests := true, laidLooks := .later }
def FaultTellsCardSaid : Prop := Claim7.holds Tryd.pinned (.plain (OpenSpec.ofChange faultTellsSpec)) faultTellsCard

/-- THE TIED CARD OF 'propylonlaw5.FaultBack'. -/
def faultBackCard : Claim7 := { stood := { row := faultBackRow, standIns := [], harness := (true, "a886439a5676111d3a90d2a45d975a39f74c7e689d97b8993f66b3bd2ff0a279"), looks := true }, kinds := [], alts := [], laidByText := true, laidKinds := [.data, .data, .data, .data, .sentinel, .sentinel, .pinned], laidTests := true, laidLooks := .later }
def FaultBackCardSaid : Prop := Claim7.holds Tryd.pinned (.plain (OpenSpec.ofChange faultBackSpec)) faultBackCard

/-- THE TIED CARD OF 'propylonlaw5.FaultOne'. -/
def faultOneCard : Claim7 := { stood := { row := faultOneRow, standIns := [], harness := (true, "a886439a5676111d3a90d2a45d975a39f74c7e689d97b8993f66b3bd2ff0a279"), looks := true }, kinds := [], alts := [], laidByText := true, laidKinds := [.data, .data, .data, .data, .sentinel, .sentinel, .pinned], laidTests := true, laidLooks := .later }
def FaultOneCardSaid : Prop := Claim7.holds Tryd.pinned (.plain (OpenSpec.ofChange faultOneSpec)) faultOneCard

/-- THE TIED CARD OF 'propylonlaw5.FaultWithin'. -/
def faultWithinCard : Claim7 := { stood := { row := faultWithinRow, standIns := [], harness := (true, "a886439a5676111d3a90d2a45d975a39f74c7e689d97b8993f66b3bd2ff0a279"), looks := true }, kinds := [], alts := [], laidByText := true, laidKinds := [.data, .data, .data, .data, .sentinel, .sentinel, .pinned], laidTests := true, laidLooks := .later }
def FaultWithinCardSaid : Prop := Claim7.holds Tryd.pinned (.plain (OpenSpec.ofChange faultWithinSpec)) faultWithinCard

/-- THE SECOND FORM's CARD OF 'propylonlaw5.FaultNames'. -/
def faultNamesUptoCard : Claim7 := { stood := { row := faultNamesUptoRow, standIns := [], harness := (true, "a886439a5676111d3a90d2a45d975a39f74c7e689d97b8993f66b3bd2ff0a279"), looks := true }, kinds := [], alts := [], laidByText := true, laidKinds := [.data, .data, .data, .data, .sentinel, .sentinel, .pinned], laidTests := true, laidLooks := .later }
def FaultNamesUptoCardSaid : Prop := Claim7.holds Tryd.pinned (.plain (OpenSpec.upto faultNamesSpec)) faultNamesUptoCard

/-- THE SECOND FORM's CARD OF 'propylonlaw5.FaultTells'. -/
def faultTellsUptoCard : Claim7 := { stood := { row := faultTellsUptoRow, standIns := [], harness := (true, "a886439a5676111d3a90d2a45d975a39f74c7e689d97b8993f66b3bd2ff0a279"), looks := true }, kinds := [], alts := [], laidByText := true, laidKinds := [.data, .data, .data, .data, .sentinel, .sentinel, .pinned], laidTests := true, laidLooks := .later }
def FaultTellsUptoCardSaid : Prop := Claim7.holds Tryd.pinned (.plain (OpenSpec.upto faultTellsSpec)) faultTellsUptoCard

/-- THE SECOND FORM's CARD OF 'propylonlaw5.FaultBack'. -/
def faultBackUptoCard : Claim7 := { stood := { row := faultBackUptoRow, standIns := [], harness := (true, "a886439a5676111d3a90d2a45d975a39f74c7e689d97b8993f66b3bd2ff0a279"), looks := true }, kinds := [], alts := [], laidByText := true, laidKinds := [.data, .data, .data, .data, .sentinel, .sentinel, .pinned], laidTests := true, laidLooks := .later }
def FaultBackUptoCardSaid : Prop := Claim7.holds Tryd.pinned (.plain (OpenSpec.upto faultBackSpec)) faultBackUptoCard

/-- THE SECOND FORM's CARD OF 'propylonlaw5.FaultOne'. -/
def faultOneUptoCard : Claim7 := { stood := { row := faultOneUptoRow, standIns := [], harness := (true, "a886439a5676111d3a90d2a45d975a39f74c7e689d97b8993f66b3bd2ff0a279"), looks := true }, kinds := [], alts := [], laidByText := true, laidKinds := [.data, .data, .data, .data, .sentinel, .sentinel, .pinned], laidTests := true, laidLooks := .later }
def FaultOneUptoCardSaid : Prop := Claim7.holds Tryd.pinned (.plain (OpenSpec.upto faultOneSpec)) faultOneUptoCard

/-- THE SECOND FORM's CARD OF 'propylonlaw5.FaultWithin'. -/
def faultWithinUptoCard : Claim7 := { stood := { row := faultWithinUptoRow, standIns := [], harness := (true, "a886439a5676111d3a90d2a45d975a39f74c7e689d97b8993f66b3bd2ff0a279"), looks := true }, kinds := [], alts := [], laidByText := true, laidKinds := [.data, .data, .data, .data, .sentinel, .sentinel, .pinned], laidTests := true, laidLooks := .later }
def FaultWithinUptoCardSaid : Prop := Claim7.holds Tryd.pinned (.plain (OpenSpec.upto faultWithinSpec)) faultWithinUptoCard
end Rows
end Go.Proofs.YthaphecoalepgaaDoor
