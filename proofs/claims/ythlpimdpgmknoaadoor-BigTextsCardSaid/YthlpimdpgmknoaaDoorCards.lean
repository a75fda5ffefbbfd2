/-
  DERIVED. GIVEN WITH THE SEED: THE CARDS: each row of YthlpimdpgmknoaaDoorRows.lean that lists a variable, with what it lists TIED to the program's text (the seventh form; the later family's looks); each row that meets fmt, with fmt's text TOLD by the authors' own Lean function (tested against real Go, not proved from fmt's source: count such statements apart). THE CARD IS WHAT COUNTS. Prove the row's statement (the work); the ties are given (YthlpimdpgmknoaaDoorTie.lean); close each card by the builder's one call (the guide's Derived/Test/ToyasCard.lean, 'card_holds'). Laid BY PROGRAM, IN A SANDBOX (cutbox-door.mjs). By AI agents, Wed Nov 11 2026. No macro, syntax, notation, axiom, sorry.
-/
import Derived.Test.YthlpimdpgmknoaaDoorRows
import GoSem.ClaimSeven
namespace Go.Proofs.YthlpimdpgmknoaaDoor
namespace Rows

/-- THE TIED CARD OF 'propylonlaw9.BigMuls'. -/
def bigMulsCard : Claim7 := { stood := { row := bigMulsRow, standIns := [], harness := (true, "d5cbf54c877303932c1247d7ce5126c6725ae1d693d4940507eeacf0992f6659"), looks := false }, kinds := [], alts := [], laidByText := true, laidKinds := [.data, .data, .data], laidTests := true, laidLooks := .later }
def BigMulsCardSaid : Prop := Claim7.holds Tryd.pinned (.plain (OpenSpec.ofChange bigMulsSpec)) bigMulsCard

/-- THE TIED CARD OF 'propylonlaw9.BigTexts'. -/
def bigTextsCard : Claim7 := { stood := { row := bigTextsRow, standIns := [], harness := (true, "d5cbf54c877303932c1247d7ce5126c6725ae1d693d4940507eeacf0992f6659"), looks := false }, kinds := [], alts := [], laidByText := true, laidKinds := [.data, .data, .data], laidTests := true, laidLooks := .later }
def BigTextsCardSaid : Prop := Claim7.holds Tryd.pinned (.plain (OpenSpec.ofChange bigTextsSpec)) bigTextsCard

/-- THE TIED CARD OF 'propylonlaw9.BigSums'. -/
def bigSumsCard : Claim7 := { stood := { row := bigSumsRow, standIns := [], harness := (true, "d5cbf54c877303932c1247d7ce5126c6725ae1d693d4940507eeacf0992f6659"), looks := false }, kinds := [], alts := [], laidByText := true, laidKinds := [.data, .data, .data], laidTests := true, laidLooks := .later }
def BigSumsCardSaid : Prop := Claim7.holds Tryd.pinned (.plain (OpenSpec.ofChange bigSumsSpec)) bigSumsCard

/-- THE TIED CARD OF 'propylonlaw9.BigLaws'. -/
def bigLawsCard : Claim7 := { stood := { row := bigLawsRow, standIns := [], harness := (true, "d5cbf54c877303932c1247d7ce5126c6725ae1d693d4940507eeacf0992f6659"), looks := false }, kinds := [], alts := [], laidByText := true, laidKinds := [.data, .data, .data], laidTests := true, laidLooks := .later }
def BigLawsCardSaid : Prop := Claim7.holds Tryd.pinned (.plain (OpenSpec.ofChange bigLawsSpec)) bigLawsCard

/-- THE TIED CARD OF 'propylonlaw9.BigShifts'. -/
def bigShiftsCard : Claim7 := { stood := { row := bigShiftsRow, standIns := [], harness := (true, "d5cbf54c877303932c1247d7ce5126c6725ae1d693d4940507eeacf0992f6659"), looks := false }, kinds := [], alts := [], laidByText := true, laidKinds := [.data, .data, .data], laidTests := true, laidLooks := .later }
def BigShiftsCardSaid : Prop := Claim7.holds Tryd.pinned (.plain (OpenSpec.ofChange bigShiftsSpec)) bigShiftsCard

/-- THE TIED CARD OF 'propylonlaw9.BigDivs'. -/
def bigDivsCard : Claim7 := { stood := { row := bigDivsRow, standIns := [], harness := (true, "d5cbf54c877303932c1247d7ce5126c6725ae1d693d4940507eeacf0992f6659"), looks := false }, kinds := [], alts := [], laidByText := true, laidKinds := [.data, .data, .data], laidTests := true, laidLooks := .later }
def BigDivsCardSaid : Prop := Claim7.holds Tryd.pinned (.plain (OpenSpec.ofChange bigDivsSpec)) bigDivsCard

/-- THE SECOND FORM's CARD OF 'propylonlaw9.BigMuls'. -/
def bigMulsUptoCard : Claim7 := { stood := { row := bigMulsUptoRow, standIns := [], harness := (true, "d5cbf54c877303932c1247d7ce5126c6725ae1d693d4940507eeacf0992f6659"), looks := false }, kinds := [], alts := [], laidByText := true, laidKinds := [.data, .data, .data], laidTests := true, laidLooks := .later }
def BigMulsUptoCardSaid : Prop := Claim7.holds Tryd.pinned (.plain (OpenSpec.upto bigMulsSpec)) bigMulsUptoCard

/-- THE SECOND FORM's CARD OF 'propylonlaw9.BigTexts'. -/
def bigTextsUptoCard : Claim7 := { stood := { row := bigTextsUptoRow, standIns := [], harness := (true, "d5cbf54c877303932c1247d7ce5126c6725ae1d693d4940507eeacf0992f6659"), looks := false }, kinds := [], alts := [], laidByText := true, laidKinds := [.data, .data, .data], laidTests := true, laidLooks := .later }
def BigTextsUptoCardSaid : Prop := Claim7.holds Tryd.pinned (.plain (OpenSpec.upto bigTextsSpec)) bigTextsUptoCard

/-- THE SECOND FORM's CARD OF 'propylonlaw9.BigSums'. -/
def bigSumsUptoCard : Claim7 := { stood := { row := bigSumsUptoRow, standIns := [], harness := (true, "d5cbf54c877303932c1247d7ce5126c6725ae1d693d4940507eeacf0992f6659"), looks := false }, kinds := [], alts := [], laidByText := true, laidKinds := [.data, .data, .data], laidTests := true, laidLooks := .later }
def BigSumsUptoCardSaid : Prop := Claim7.holds Tryd.pinned (.plain (OpenSpec.upto bigSumsSpec)) bigSumsUptoCard

/-- THE SECOND FORM's CARD OF 'propylonlaw9.BigLaws'. -/
def bigLawsUptoCard : Claim7 := { stood := { row := bigLawsUptoRow, standIns := [], harness := (true, "d5cbf54c877303932c1247d7ce5126c6725ae1d693d4940507eeacf0992f6659"), looks := false }, kinds := [], alts := [], laidByText := true, laidKinds := [.data, .data, .data], laidTests := true, laidLooks := .later }
def BigLawsUptoCardSaid : Prop := Claim7.holds Tryd.pinned (.plain (OpenSpec.upto bigLawsSpec)) bigLawsUptoCard

/-- THE SECOND FORM's CARD OF 'propylonlaw9.BigShifts'. -/
def bigShiftsUptoCard : Claim7 := { stood := { row := bigShiftsUptoRow, standIns := [], harness := (true, "d5cbf54c877303932c1247d7ce5126c6725ae1d693d4940507eeacf0992f6659"), looks := false }, kinds := [], alts := [], laidByText := true, laidKinds := [.data, .data, .data], laidTests := true, laidLooks := .later }
def BigShiftsUptoCardSaid : Prop := Claim7.holds Tryd.pinned (.plain (OpenSpec.upto bigShiftsSpec)) bigShiftsUptoCard

/-- THE SECOND FORM's CARD OF 'propylonlaw9.BigDivs'. -/
def bigDivsUptoCard : Claim7 := { stood := { row := bigDivsUptoRow, standIns := [], harness := (true, "d5cbf54c877303932c1247d7ce5126c6725ae1d693d4940507eeacf0992f6659"), looks := false }, kinds := [], alts := [], laidByText := true, laidKinds := [.data, .data, .data], laidTests := true, laidLooks := .later }
def BigDivsUptoCardSaid : Prop := Claim7.holds Tryd.pinned (.plain (OpenSpec.upto bigDivsSpec)) bigDivsUptoCard
end Rows
end Go.Proofs.YthlpimdpgmknoaaDoor
