/-
  DERIVED. GIVEN WITH THE SEED: THE CARDS: each row of YtihnfhhopldllaaGreatDoorRows.lean that lists a variable, with what it lists TIED to the program's text (the seventh form; the later family's looks); each row that meets fmt, with fmt's text TOLD by the authors' own Lean function (tested against real Go, not proved from fmt's source: count such statements apart). THE CARD IS WHAT COUNTS. Prove the row's statement (the work); the ties are given (YtihnfhhopldllaaGreatDoorTie.lean); close each card by the builder's one call (the guide's Derived/Test/ToyasCard.lean, 'card_holds'). Laid BY PROGRAM, IN A SANDBOX (cutbox-door.mjs). By AI agents, Wed Nov 11 2026. No macro, syntax, notation, axiom, sorry.
-/
import Derived.Test.YtihnfhhopldllaaGreatDoorRows
import GoSem.ClaimSeven
namespace Go.Proofs.YtihnfhhopldllaaGreatDoor
namespace Rows

/-- THE TIED CARD OF 'propylontop.TopOne'. -/
def topOneCard : Claim7 := { stood := { row := topOneRow, standIns := [], harness := (true, "87f6c2ad17ed06cb584fb6264a59f34b0cd6ad0e844331b905c69282397644e2"), looks := true }, kinds := [], alts := [], laidByText := true, laidKinds := [.data, .data, .data, .data, .sentinel, .sentinel, .pinned], laidTests := true, laidLooks := .later }
def TopOneCardSaid : Prop := Claim7.holds Tryz.pinned (.plain (OpenSpec.ofChange topOneSpec)) topOneCard

/-- THE TIED CARD OF 'propylontop.TopApart'. -/
def topApartCard : Claim7 := { stood := { row := topApartRow, standIns := [], harness := (true, "87f6c2ad17ed06cb584fb6264a59f34b0cd6ad0e844331b905c69282397644e2"), looks := true }, kinds := [], alts := [], laidByText := true, laidKinds := [.data, .data, .data, .data, .sentinel, .sentinel, .pinned], laidTests := true, laidLooks := .later }
def TopApartCardSaid : Prop := Claim7.holds Tryz.pinned (.plain (OpenSpec.ofChange topApartSpec)) topApartCard

/-- THE TIED CARD OF 'propylontop.TopLooks'. -/
def topLooksCard : Claim7 := { stood := { row := topLooksRow, standIns := [], harness := (true, "87f6c2ad17ed06cb584fb6264a59f34b0cd6ad0e844331b905c69282397644e2"), looks := true }, kinds := [], alts := [], laidByText := true, laidKinds := [.data, .data, .data, .data, .sentinel, .sentinel, .pinned], laidTests := true, laidLooks := .later }
def TopLooksCardSaid : Prop := Claim7.holds Tryz.pinned (.plain (OpenSpec.ofChange topLooksSpec)) topLooksCard

/-- THE TIED CARD OF 'propylontop.TopLimits'. -/
def topLimitsCard : Claim7 := { stood := { row := topLimitsRow, standIns := [], harness := (true, "87f6c2ad17ed06cb584fb6264a59f34b0cd6ad0e844331b905c69282397644e2"), looks := true }, kinds := [], alts := [], laidByText := true, laidKinds := [.data, .data, .data, .data, .sentinel, .sentinel, .pinned], laidTests := true, laidLooks := .later }
def TopLimitsCardSaid : Prop := Claim7.holds Tryz.pinned (.plain (OpenSpec.ofChange topLimitsSpec)) topLimitsCard

/-- THE SECOND FORM's CARD OF 'propylontop.TopOne'. -/
def topOneUptoCard : Claim7 := { stood := { row := topOneUptoRow, standIns := [], harness := (true, "87f6c2ad17ed06cb584fb6264a59f34b0cd6ad0e844331b905c69282397644e2"), looks := true }, kinds := [], alts := [], laidByText := true, laidKinds := [.data, .data, .data, .data, .sentinel, .sentinel, .pinned], laidTests := true, laidLooks := .later }
def TopOneUptoCardSaid : Prop := Claim7.holds Tryz.pinned (.plain (OpenSpec.upto topOneSpec)) topOneUptoCard

/-- THE SECOND FORM's CARD OF 'propylontop.TopApart'. -/
def topApartUptoCard : Claim7 := { stood := { row := topApartUptoRow, standIns := [], harness := (true, "87f6c2ad17ed06cb584fb6264a59f34b0cd6ad0e844331b905c69282397644e2"), looks := true }, kinds := [], alts := [], laidByText := true, laidKinds := [.data, .data, .data, .data, .sentinel, .sentinel, .pinned], laidTests := true, laidLooks := .later }
def TopApartUptoCardSaid : Prop := Claim7.holds Tryz.pinned (.plain (OpenSpec.upto topApartSpec)) topApartUptoCard

/-- THE SECOND FORM's CARD OF 'propylontop.TopLooks'. -/
def topLooksUptoCard : Claim7 := { stood := { row := topLooksUptoRow, standIns := [], harness := (true, "87f6c2ad17ed06cb584fb6264a59f34b0cd6ad0e844331b905c69282397644e2"), looks := true }, kinds := [], alts := [], laidByText := true, laidKinds := [.data, .data, .data, .data, .sentinel, .sentinel, .pinned], laidTests := true, laidLooks := .later }
def TopLooksUptoCardSaid : Prop := Claim7.holds Tryz.pinned (.plain (OpenSpec.upto topLooksSpec)) topLooksUptoCard

/-- THE SECOND FORM's CARD OF 'propylontop.TopLimits'. -/
def topLimitsUptoCard : Claim7 := { stood := { row := topLimitsUptoRow, standIns := [], harness := (true, "87f6c2ad17ed06cb584fb6264a59f34b0cd6ad0e844331b905c69282397644e2"), looks := true }, kinds := [], alts := [], laidByText := true, laidKinds := [.data, .data, .data, .data, .sentinel, .sentinel, .pinned], laidTests := true, laidLooks := .later }
def TopLimitsUptoCardSaid : Prop := Claim7.holds Tryz.pinned (.plain (OpenSpec.upto topLimitsSpec)) topLimitsUptoCard
end Rows
end Go.Proofs.YtihnfhhopldllaaGreatDoor
