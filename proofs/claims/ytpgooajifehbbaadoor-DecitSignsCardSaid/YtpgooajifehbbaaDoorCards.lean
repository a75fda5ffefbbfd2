/-
  DERIVED. GIVEN WITH THE SEED: THE CARDS: each row of YtpgooajifehbbaaDoorRows.lean that lists a variable, with what it lists TIED to the program's text (the seventh form; the later family's looks); each row that meets fmt, with fmt's text TOLD by the authors' own Lean function (tested against real Go, not proved from fmt's source: count such statements apart). THE CARD IS WHAT COUNTS. Prove the row's statement (the work); the ties are given (YtpgooajifehbbaaDoorTie.lean); close each card by the builder's one call (the guide's Derived/Test/ToyasCard.lean, 'card_holds'). Laid BY PROGRAM, IN A SANDBOX (cutbox-door.mjs). By AI agents, Wed Nov 11 2026. No macro, syntax, notation, axiom, sorry.
-/
import Derived.Test.YtpgooajifehbbaaDoorRows
import GoSem.ClaimSeven
namespace Go.Proofs.YtpgooajifehbbaaDoor
namespace Rows

/-- THE TIED CARD OF 'propylonlaw15.DecitTexts'. -/
def decitTextsCard : Claim7 := { stood := { row := decitTextsRow, standIns := [], harness := (true, "c90c8a7838a94afb6b985b7fc20aff1c6637e17454b1002eefb796fe2880f690"), looks := false }, kinds := [], alts := [], laidByText := true, laidKinds := [.data, .data, .data, .data, .pinned], laidTests := true, laidLooks := .later }
def DecitTextsCardSaid : Prop := Claim7.holds Tryd.pinned (.plain (OpenSpec.ofChange decitTextsSpec)) decitTextsCard

/-- THE TIED CARD OF 'propylonlaw15.DecitParses'. -/
def decitParsesCard : Claim7 := { stood := { row := decitParsesRow, standIns := [], harness := (true, "c90c8a7838a94afb6b985b7fc20aff1c6637e17454b1002eefb796fe2880f690"), looks := false }, kinds := [], alts := [], laidByText := true, laidKinds := [.data, .data, .data, .data, .pinned], laidTests := true, laidLooks := .later }
def DecitParsesCardSaid : Prop := Claim7.holds Tryd.pinned (.plain (OpenSpec.ofChange decitParsesSpec)) decitParsesCard

/-- THE TIED CARD OF 'propylonlaw15.DecitBack'. -/
def decitBackCard : Claim7 := { stood := { row := decitBackRow, standIns := [], harness := (true, "c90c8a7838a94afb6b985b7fc20aff1c6637e17454b1002eefb796fe2880f690"), looks := false }, kinds := [], alts := [], laidByText := true, laidKinds := [.data, .data, .data, .data, .pinned], laidTests := true, laidLooks := .later }
def DecitBackCardSaid : Prop := Claim7.holds Tryd.pinned (.plain (OpenSpec.ofChange decitBackSpec)) decitBackCard

/-- THE TIED CARD OF 'propylonlaw15.DecitSigns'. -/
def decitSignsCard : Claim7 := { stood := { row := decitSignsRow, standIns := [], harness := (true, "c90c8a7838a94afb6b985b7fc20aff1c6637e17454b1002eefb796fe2880f690"), looks := false }, kinds := [], alts := [], laidByText := true, laidKinds := [.data, .data, .data, .data, .pinned], laidTests := true, laidLooks := .later }
def DecitSignsCardSaid : Prop := Claim7.holds Tryd.pinned (.plain (OpenSpec.ofChange decitSignsSpec)) decitSignsCard

/-- THE TIED CARD OF 'propylonlaw15.DecitJust'. -/
def decitJustCard : Claim7 := { stood := { row := decitJustRow, standIns := [], harness := (true, "c90c8a7838a94afb6b985b7fc20aff1c6637e17454b1002eefb796fe2880f690"), looks := false }, kinds := [], alts := [], laidByText := true, laidKinds := [.data, .data, .data, .data, .pinned], laidTests := true, laidLooks := .later }
def DecitJustCardSaid : Prop := Claim7.holds Tryd.pinned (.plain (OpenSpec.ofChange decitJustSpec)) decitJustCard

/-- THE SECOND FORM's CARD OF 'propylonlaw15.DecitTexts'. -/
def decitTextsUptoCard : Claim7 := { stood := { row := decitTextsUptoRow, standIns := [], harness := (true, "c90c8a7838a94afb6b985b7fc20aff1c6637e17454b1002eefb796fe2880f690"), looks := false }, kinds := [], alts := [], laidByText := true, laidKinds := [.data, .data, .data, .data, .pinned], laidTests := true, laidLooks := .later }
def DecitTextsUptoCardSaid : Prop := Claim7.holds Tryd.pinned (.plain (OpenSpec.upto decitTextsSpec)) decitTextsUptoCard

/-- THE SECOND FORM's CARD OF 'propylonlaw15.DecitParses'. -/
def decitParsesUptoCard : Claim7 := { stood := { row := decitParsesUptoRow, standIns := [], harness := (true, "c90c8a7838a94afb6b985b7fc20aff1c6637e17454b1002eefb796fe2880f690"), looks := false }, kinds := [], alts := [], laidByText := true, laidKinds := [.data, .data, .data, .data, .pinned], laidTests := true, laidLooks := .later }
def DecitParsesUptoCardSaid : Prop := Claim7.holds Tryd.pinned (.plain (OpenSpec.upto decitParsesSpec)) decitParsesUptoCard

/-- THE SECOND FORM's CARD OF 'propylonlaw15.DecitBack'. -/
def decitBackUptoCard : Claim7 := { stood := { row := decitBackUptoRow, standIns := [], harness := (true, "c90c8a7838a94afb6b985b7fc20aff1c6637e17454b1002eefb796fe2880f690"), looks := false }, kinds := [], alts := [], laidByText := true, laidKinds := [.data, .data, .data, .data, .pinned], laidTests := true, laidLooks := .later }
def DecitBackUptoCardSaid : Prop := Claim7.holds Tryd.pinned (.plain (OpenSpec.upto decitBackSpec)) decitBackUptoCard

/-- THE SECOND FORM's CARD OF 'propylonlaw15.DecitSigns'. -/
def decitSignsUptoCard : Claim7 := { stood := { row := decitSignsUptoRow, standIns := [], harness := (true, "c90c8a7838a94afb6b985b7fc20aff1c6637e17454b1002eefb796fe2880f690"), looks := false }, kinds := [], alts := [], laidByText := true, laidKinds := [.data, .data, .data, .data, .pinned], laidTests := true, laidLooks := .later }
def DecitSignsUptoCardSaid : Prop := Claim7.holds Tryd.pinned (.plain (OpenSpec.upto decitSignsSpec)) decitSignsUptoCard

/-- THE SECOND FORM's CARD OF 'propylonlaw15.DecitJust'. -/
def decitJustUptoCard : Claim7 := { stood := { row := decitJustUptoRow, standIns := [], harness := (true, "c90c8a7838a94afb6b985b7fc20aff1c6637e17454b1002eefb796fe2880f690"), looks := false }, kinds := [], alts := [], laidByText := true, laidKinds := [.data, .data, .data, .data, .pinned], laidTests := true, laidLooks := .later }
def DecitJustUptoCardSaid : Prop := Claim7.holds Tryd.pinned (.plain (OpenSpec.upto decitJustSpec)) decitJustUptoCard
end Rows
end Go.Proofs.YtpgooajifehbbaaDoor
