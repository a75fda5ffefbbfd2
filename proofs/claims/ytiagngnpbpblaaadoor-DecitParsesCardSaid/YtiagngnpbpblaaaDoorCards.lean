/-
  DERIVED. GIVEN WITH THE SEED: THE CARDS: each row of YtiagngnpbpblaaaDoorRows.lean that lists a variable, with what it lists TIED to the program's text (the seventh form; the later family's looks); each row that meets fmt, with fmt's text TOLD by the authors' own Lean function (tested against real Go, not proved from fmt's source: count such statements apart). THE CARD IS WHAT COUNTS. Prove the row's statement (the work); the ties are given (YtiagngnpbpblaaaDoorTie.lean); close each card by the builder's one call (the guide's Derived/Test/ToyasCard.lean, 'card_holds'). Laid BY PROGRAM, IN A SANDBOX (cutbox-door.mjs). By AI agents, Wed Nov 11 2026. No macro, syntax, notation, axiom, sorry.
-/
import Derived.Test.YtiagngnpbpblaaaDoorRows
import GoSem.ClaimSeven
namespace Go.Proofs.YtiagngnpbpblaaaDoor
namespace Rows

/-- THE TIED CARD OF 'propylonlaw15.DecitParses'. -/
def decitParsesCard : Claim7 := { stood := { row := decitParsesRow, standIns := [], harness := (true, "026d4da98cc8558304e30a2f0538aca5d382219e17c4b0b8f62e8707be93470f"), looks := false }, kinds := [], alts := [], laidByText := true, laidKinds := [.data, .data, .data, .data, .pinned], laidTests := true, laidLooks := .later }
def DecitParsesCardSaid : Prop := Claim7.holds Tryd.pinned (.plain (OpenSpec.ofChange decitParsesSpec)) decitParsesCard

/-- THE SECOND FORM's CARD OF 'propylonlaw15.DecitParses'. -/
def decitParsesUptoCard : Claim7 := { stood := { row := decitParsesUptoRow, standIns := [], harness := (true, "026d4da98cc8558304e30a2f0538aca5d382219e17c4b0b8f62e8707be93470f"), looks := false }, kinds := [], alts := [], laidByText := true, laidKinds := [.data, .data, .data, .data, .pinned], laidTests := true, laidLooks := .later }
def DecitParsesUptoCardSaid : Prop := Claim7.holds Tryd.pinned (.plain (OpenSpec.upto decitParsesSpec)) decitParsesUptoCard
end Rows
end Go.Proofs.YtiagngnpbpblaaaDoor
