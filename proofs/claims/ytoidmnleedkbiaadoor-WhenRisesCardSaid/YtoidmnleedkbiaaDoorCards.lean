/-
  DERIVED. GIVEN WITH THE SEED: THE CARDS: each row of YtoidmnleedkbiaaDoorRows.lean that lists a variable, with what it lists TIED to the program's text (the seventh form; the later family's looks); each row that meets fmt, with fmt's text TOLD by the authors' own Lean function (tested against real Go, not proved from fmt's source: count such statements apart). THE CARD IS WHAT COUNTS. Prove the row's statement (the work); the ties are given (YtoidmnleedkbiaaDoorTie.lean); close each card by the builder's one call (the guide's Derived/Test/ToyasCard.lean, 'card_holds'). Laid BY PROGRAM, IN A SANDBOX (cutbox-door.mjs). By AI agents, Wed Nov 11 2026. No macro, syntax, notation, axiom, sorry.
-/
import Derived.Test.YtoidmnleedkbiaaDoorRows
import GoSem.ClaimSeven
namespace Go.Proofs.YtoidmnleedkbiaaDoor
namespace Rows

/-- THE TIED CARD OF 'propylonlaw16.WhenParses'. -/
def whenParsesCard : Claim7 := { stood := { row := whenParsesRow, standIns := [], harness := (true, "4d8c688a03a9e2d40ac3d42245f7f1cbb7727d029b948bc6ee00538e8b369e6f"), looks := false }, kinds := [], alts := [], laidByText := true, laidKinds := [.data, .data, .data], laidTests := true, laidLooks := .later }
def WhenParsesCardSaid : Prop := Claim7.holds Tryd.pinned (.plain (OpenSpec.ofChange whenParsesSpec)) whenParsesCard

/-- THE TIED CARD OF 'propylonlaw16.WhenRises'. -/
def whenRisesCard : Claim7 := { stood := { row := whenRisesRow, standIns := [], harness := (true, "4d8c688a03a9e2d40ac3d42245f7f1cbb7727d029b948bc6ee00538e8b369e6f"), looks := false }, kinds := [], alts := [], laidByText := true, laidKinds := [.data, .data, .data], laidTests := true, laidLooks := .later }
def WhenRisesCardSaid : Prop := Claim7.holds Tryd.pinned (.plain (OpenSpec.ofChange whenRisesSpec)) whenRisesCard

/-- THE SECOND FORM's CARD OF 'propylonlaw16.WhenParses'. -/
def whenParsesUptoCard : Claim7 := { stood := { row := whenParsesUptoRow, standIns := [], harness := (true, "4d8c688a03a9e2d40ac3d42245f7f1cbb7727d029b948bc6ee00538e8b369e6f"), looks := false }, kinds := [], alts := [], laidByText := true, laidKinds := [.data, .data, .data], laidTests := true, laidLooks := .later }
def WhenParsesUptoCardSaid : Prop := Claim7.holds Tryd.pinned (.plain (OpenSpec.upto whenParsesSpec)) whenParsesUptoCard

/-- THE SECOND FORM's CARD OF 'propylonlaw16.WhenRises'. -/
def whenRisesUptoCard : Claim7 := { stood := { row := whenRisesUptoRow, standIns := [], harness := (true, "4d8c688a03a9e2d40ac3d42245f7f1cbb7727d029b948bc6ee00538e8b369e6f"), looks := false }, kinds := [], alts := [], laidByText := true, laidKinds := [.data, .data, .data], laidTests := true, laidLooks := .later }
def WhenRisesUptoCardSaid : Prop := Claim7.holds Tryd.pinned (.plain (OpenSpec.upto whenRisesSpec)) whenRisesUptoCard
end Rows
end Go.Proofs.YtoidmnleedkbiaaDoor
