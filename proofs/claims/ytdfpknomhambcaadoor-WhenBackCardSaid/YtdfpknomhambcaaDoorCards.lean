/-
  DERIVED. GIVEN WITH THE SEED: THE CARDS: each row of YtdfpknomhambcaaDoorRows.lean that lists a variable, with what it lists TIED to the program's text (the seventh form; the later family's looks); each row that meets fmt, with fmt's text TOLD by the authors' own Lean function (tested against real Go, not proved from fmt's source: count such statements apart). THE CARD IS WHAT COUNTS. Prove the row's statement (the work); the ties are given (YtdfpknomhambcaaDoorTie.lean); close each card by the builder's one call (the guide's Derived/Test/ToyasCard.lean, 'card_holds'). Laid BY PROGRAM, IN A SANDBOX (cutbox-door.mjs). By AI agents, Wed Nov 11 2026. No macro, syntax, notation, axiom, sorry.
-/
import Derived.Test.YtdfpknomhambcaaDoorRows
import GoSem.ClaimSeven
namespace Go.Proofs.YtdfpknomhambcaaDoor
namespace Rows

/-- THE TIED CARD OF 'propylonlaw16.WhenTexts'. -/
def whenTextsCard : Claim7 := { stood := { row := whenTextsRow, standIns := [], harness := (true, "6b2b2f76d564122e4fc5387103a5a9325d5dc34fedbc24c7b01f8c486ea457a5"), looks := true }, kinds := [], alts := [], laidByText := true, laidKinds := [.data, .data, .data], laidTests := true, laidLooks := .later }
def WhenTextsCardSaid : Prop := Claim7.holds Tryd.pinned (.plain (OpenSpec.ofChange whenTextsSpec)) whenTextsCard

/-- THE TIED CARD OF 'propylonlaw16.WhenParses'. -/
def whenParsesCard : Claim7 := { stood := { row := whenParsesRow, standIns := [], harness := (true, "6b2b2f76d564122e4fc5387103a5a9325d5dc34fedbc24c7b01f8c486ea457a5"), looks := true }, kinds := [], alts := [], laidByText := true, laidKinds := [.data, .data, .data], laidTests := true, laidLooks := .later }
def WhenParsesCardSaid : Prop := Claim7.holds Tryd.pinned (.plain (OpenSpec.ofChange whenParsesSpec)) whenParsesCard

/-- THE TIED CARD OF 'propylonlaw16.WhenBack'. -/
def whenBackCard : Claim7 := { stood := { row := whenBackRow, standIns := [], harness := (true, "6b2b2f76d564122e4fc5387103a5a9325d5dc34fedbc24c7b01f8c486ea457a5"), looks := true }, kinds := [], alts := [], laidByText := true, laidKinds := [.data, .data, .data], laidTests := true, laidLooks := .later }
def WhenBackCardSaid : Prop := Claim7.holds Tryd.pinned (.plain (OpenSpec.ofChange whenBackSpec)) whenBackCard

/-- THE TIED CARD OF 'propylonlaw16.WhenRises'. -/
def whenRisesCard : Claim7 := { stood := { row := whenRisesRow, standIns := [], harness := (true, "6b2b2f76d564122e4fc5387103a5a9325d5dc34fedbc24c7b01f8c486ea457a5"), looks := true }, kinds := [], alts := [], laidByText := true, laidKinds := [.data, .data, .data], laidTests := true, laidLooks := .later }
def WhenRisesCardSaid : Prop := Claim7.holds Tryd.pinned (.plain (OpenSpec.ofChange whenRisesSpec)) whenRisesCard

/-- THE TIED CARD OF 'propylonlaw10.WholeTexts'. -/
def wholeTextsCard : Claim7 := { stood := { row := wholeTextsRow, standIns := [], harness := (true, "6b2b2f76d564122e4fc5387103a5a9325d5dc34fedbc24c7b01f8c486ea457a5"), looks := true }, kinds := [], alts := [], laidByText := true, laidKinds := [.data, .data, .data, .sentinel, .sentinel], laidTests := true, laidLooks := .later }
def WholeTextsCardSaid : Prop := Claim7.holds Tryd.pinned (.plain (OpenSpec.ofChange wholeTextsSpec)) wholeTextsCard

/-- THE TIED CARD OF 'propylonlaw10.WholeLexes'. -/
def wholeLexesCard : Claim7 := { stood := { row := wholeLexesRow, standIns := [], harness := (true, "6b2b2f76d564122e4fc5387103a5a9325d5dc34fedbc24c7b01f8c486ea457a5"), looks := true }, kinds := [], alts := [], laidByText := true, laidKinds := [.data, .data, .data, .sentinel, .sentinel], laidTests := true, laidLooks := .later }
def WholeLexesCardSaid : Prop := Claim7.holds Tryd.pinned (.plain (OpenSpec.ofChange wholeLexesSpec)) wholeLexesCard

/-- THE TIED CARD OF 'propylonlaw10.WholeIs'. -/
def wholeIsCard : Claim7 := { stood := { row := wholeIsRow, standIns := [], harness := (true, "6b2b2f76d564122e4fc5387103a5a9325d5dc34fedbc24c7b01f8c486ea457a5"), looks := true }, kinds := [], alts := [], laidByText := true, laidKinds := [.data, .data, .data, .sentinel, .sentinel], laidTests := true, laidLooks := .later }
def WholeIsCardSaid : Prop := Claim7.holds Tryd.pinned (.plain (OpenSpec.ofChange wholeIsSpec)) wholeIsCard

/-- THE TIED CARD OF 'propylonlaw10.WholeGoes'. -/
def wholeGoesCard : Claim7 := { stood := { row := wholeGoesRow, standIns := [], harness := (true, "6b2b2f76d564122e4fc5387103a5a9325d5dc34fedbc24c7b01f8c486ea457a5"), looks := true }, kinds := [], alts := [], laidByText := true, laidKinds := [.data, .data, .data, .sentinel, .sentinel], laidTests := true, laidLooks := .later }
def WholeGoesCardSaid : Prop := Claim7.holds Tryd.pinned (.plain (OpenSpec.ofChange wholeGoesSpec)) wholeGoesCard

/-- THE SECOND FORM's CARD OF 'propylonlaw16.WhenTexts'. -/
def whenTextsUptoCard : Claim7 := { stood := { row := whenTextsUptoRow, standIns := [], harness := (true, "6b2b2f76d564122e4fc5387103a5a9325d5dc34fedbc24c7b01f8c486ea457a5"), looks := true }, kinds := [], alts := [], laidByText := true, laidKinds := [.data, .data, .data], laidTests := true, laidLooks := .later }
def WhenTextsUptoCardSaid : Prop := Claim7.holds Tryd.pinned (.plain (OpenSpec.upto whenTextsSpec)) whenTextsUptoCard

/-- THE SECOND FORM's CARD OF 'propylonlaw16.WhenParses'. -/
def whenParsesUptoCard : Claim7 := { stood := { row := whenParsesUptoRow, standIns := [], harness := (true, "6b2b2f76d564122e4fc5387103a5a9325d5dc34fedbc24c7b01f8c486ea457a5"), looks := true }, kinds := [], alts := [], laidByText := true, laidKinds := [.data, .data, .data], laidTests := true, laidLooks := .later }
def WhenParsesUptoCardSaid : Prop := Claim7.holds Tryd.pinned (.plain (OpenSpec.upto whenParsesSpec)) whenParsesUptoCard

/-- THE SECOND FORM's CARD OF 'propylonlaw16.WhenBack'. -/
def whenBackUptoCard : Claim7 := { stood := { row := whenBackUptoRow, standIns := [], harness := (true, "6b2b2f76d564122e4fc5387103a5a9325d5dc34fedbc24c7b01f8c486ea457a5"), looks := true }, kinds := [], alts := [], laidByText := true, laidKinds := [.data, .data, .data], laidTests := true, laidLooks := .later }
def WhenBackUptoCardSaid : Prop := Claim7.holds Tryd.pinned (.plain (OpenSpec.upto whenBackSpec)) whenBackUptoCard

/-- THE SECOND FORM's CARD OF 'propylonlaw16.WhenRises'. -/
def whenRisesUptoCard : Claim7 := { stood := { row := whenRisesUptoRow, standIns := [], harness := (true, "6b2b2f76d564122e4fc5387103a5a9325d5dc34fedbc24c7b01f8c486ea457a5"), looks := true }, kinds := [], alts := [], laidByText := true, laidKinds := [.data, .data, .data], laidTests := true, laidLooks := .later }
def WhenRisesUptoCardSaid : Prop := Claim7.holds Tryd.pinned (.plain (OpenSpec.upto whenRisesSpec)) whenRisesUptoCard

/-- THE SECOND FORM's CARD OF 'propylonlaw10.WholeTexts'. -/
def wholeTextsUptoCard : Claim7 := { stood := { row := wholeTextsUptoRow, standIns := [], harness := (true, "6b2b2f76d564122e4fc5387103a5a9325d5dc34fedbc24c7b01f8c486ea457a5"), looks := true }, kinds := [], alts := [], laidByText := true, laidKinds := [.data, .data, .data, .sentinel, .sentinel], laidTests := true, laidLooks := .later }
def WholeTextsUptoCardSaid : Prop := Claim7.holds Tryd.pinned (.plain (OpenSpec.upto wholeTextsSpec)) wholeTextsUptoCard

/-- THE SECOND FORM's CARD OF 'propylonlaw10.WholeLexes'. -/
def wholeLexesUptoCard : Claim7 := { stood := { row := wholeLexesUptoRow, standIns := [], harness := (true, "6b2b2f76d564122e4fc5387103a5a9325d5dc34fedbc24c7b01f8c486ea457a5"), looks := true }, kinds := [], alts := [], laidByText := true, laidKinds := [.data, .data, .data, .sentinel, .sentinel], laidTests := true, laidLooks := .later }
def WholeLexesUptoCardSaid : Prop := Claim7.holds Tryd.pinned (.plain (OpenSpec.upto wholeLexesSpec)) wholeLexesUptoCard

/-- THE SECOND FORM's CARD OF 'propylonlaw10.WholeIs'. -/
def wholeIsUptoCard : Claim7 := { stood := { row := wholeIsUptoRow, standIns := [], harness := (true, "6b2b2f76d564122e4fc5387103a5a9325d5dc34fedbc24c7b01f8c486ea457a5"), looks := true }, kinds := [], alts := [], laidByText := true, laidKinds := [.data, .data, .data, .sentinel, .sentinel], laidTests := true, laidLooks := .later }
def WholeIsUptoCardSaid : Prop := Claim7.holds Tryd.pinned (.plain (OpenSpec.upto wholeIsSpec)) wholeIsUptoCard

/-- THE SECOND FORM's CARD OF 'propylonlaw10.WholeGoes'. -/
def wholeGoesUptoCard : Claim7 := { stood := { row := wholeGoesUptoRow, standIns := [], harness := (true, "6b2b2f76d564122e4fc5387103a5a9325d5dc34fedbc24c7b01f8c486ea457a5"), looks := true }, kinds := [], alts := [], laidByText := true, laidKinds := [.data, .data, .data, .sentinel, .sentinel], laidTests := true, laidLooks := .later }
def WholeGoesUptoCardSaid : Prop := Claim7.holds Tryd.pinned (.plain (OpenSpec.upto wholeGoesSpec)) wholeGoesUptoCard
end Rows
end Go.Proofs.YtdfpknomhambcaaDoor
