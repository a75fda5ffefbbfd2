/-
  DERIVED. GIVEN WITH THE SEED: THE CARDS: each row of YtogmmhacjndebaaDoorRows.lean that lists a variable, with what it lists TIED to the program's text (the seventh form; the later family's looks); each row that meets fmt, with fmt's text TOLD by the authors' own Lean function (tested against real Go, not proved from fmt's source: count such statements apart). THE CARD IS WHAT COUNTS. Prove the row's statement (the work); the ties are given (YtogmmhacjndebaaDoorTie.lean); close each card by the builder's one call (the guide's Derived/Test/ToyasCard.lean, 'card_holds'). Laid BY PROGRAM, IN A SANDBOX (cutbox-door.mjs). By AI agents, Wed Nov 11 2026. No macro, syntax, notation, axiom, sorry.
-/
import Derived.Test.YtogmmhacjndebaaDoorRows
import GoSem.ClaimSeven
namespace Go.Proofs.YtogmmhacjndebaaDoor
namespace Rows

/-- THE TIED CARD OF 'propylonlaw9.BigDivs'. -/
def bigDivsCard : Claim7 := { stood := { row := bigDivsRow, standIns := [], harness := (true, "2d83fb5a99816b8b3d74433e07a7765f1dba5a418a6dc08850fc854480244311"), looks := false }, kinds := [], alts := [], laidByText := true, laidKinds := [.data, .data, .data], laidTests := true, laidLooks := .later }
def BigDivsCardSaid : Prop := Claim7.holds Tryd.pinned (.plain (OpenSpec.ofChange bigDivsSpec)) bigDivsCard

/-- THE SECOND FORM's CARD OF 'propylonlaw9.BigDivs'. -/
def bigDivsUptoCard : Claim7 := { stood := { row := bigDivsUptoRow, standIns := [], harness := (true, "2d83fb5a99816b8b3d74433e07a7765f1dba5a418a6dc08850fc854480244311"), looks := false }, kinds := [], alts := [], laidByText := true, laidKinds := [.data, .data, .data], laidTests := true, laidLooks := .later }
def BigDivsUptoCardSaid : Prop := Claim7.holds Tryd.pinned (.plain (OpenSpec.upto bigDivsSpec)) bigDivsUptoCard
end Rows
end Go.Proofs.YtogmmhacjndebaaDoor
