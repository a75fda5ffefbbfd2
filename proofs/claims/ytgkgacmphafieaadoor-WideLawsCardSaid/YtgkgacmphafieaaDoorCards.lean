/-
  DERIVED. GIVEN WITH THE SEED: THE CARDS: each row of YtgkgacmphafieaaDoorRows.lean that lists a variable, with what it lists TIED to the program's text (the seventh form; the later family's looks); each row that meets fmt, with fmt's text TOLD by the authors' own Lean function (tested against real Go, not proved from fmt's source: count such statements apart). THE CARD IS WHAT COUNTS. Prove the row's statement (the work); the ties are given (YtgkgacmphafieaaDoorTie.lean); close each card by the builder's one call (the guide's Derived/Test/ToyasCard.lean, 'card_holds'). Laid BY PROGRAM, IN A SANDBOX (cutbox-door.mjs). By AI agents, Wed Nov 11 2026. No macro, syntax, notation, axiom, sorry.
-/
import Derived.Test.YtgkgacmphafieaaDoorRows
import GoSem.ClaimSeven
namespace Go.Proofs.YtgkgacmphafieaaDoor
namespace Rows

/-- THE TIED CARD OF 'propylonlaw9.BigMuls'. -/
def bigMulsCard : Claim7 := { stood := { row := bigMulsRow, standIns := [], harness := (true, "8702a2dca1a14dd08fac32412e4034720622c89e4848d03b01a4ce5d06521e69"), looks := false }, kinds := [], alts := [], laidByText := true, laidKinds := [.data, .data, .data], laidTests := true, laidLooks := .later }
def BigMulsCardSaid : Prop := Claim7.holds Tryd.pinned (.plain (OpenSpec.ofChange bigMulsSpec)) bigMulsCard

/-- THE TIED CARD OF 'propylonlaw9.BigTexts'. -/
def bigTextsCard : Claim7 := { stood := { row := bigTextsRow, standIns := [], harness := (true, "8702a2dca1a14dd08fac32412e4034720622c89e4848d03b01a4ce5d06521e69"), looks := false }, kinds := [], alts := [], laidByText := true, laidKinds := [.data, .data, .data], laidTests := true, laidLooks := .later }
def BigTextsCardSaid : Prop := Claim7.holds Tryd.pinned (.plain (OpenSpec.ofChange bigTextsSpec)) bigTextsCard

/-- THE TIED CARD OF 'propylonlaw6.WideTimes'. -/
def wideTimesCard : Claim7 := { stood := { row := wideTimesRow, standIns := [], harness := (true, "8702a2dca1a14dd08fac32412e4034720622c89e4848d03b01a4ce5d06521e69"), looks := false }, kinds := [], alts := [], laidByText := true, laidKinds := [.data, .data, .data, .data, .pinned], laidTests := true, laidLooks := .later }
def WideTimesCardSaid : Prop := Claim7.holds Tryd.pinned (.plain (OpenSpec.ofChange wideTimesSpec)) wideTimesCard

/-- THE TIED CARD OF 'propylonlaw6.WideDivs'. -/
def wideDivsCard : Claim7 := { stood := { row := wideDivsRow, standIns := [], harness := (true, "8702a2dca1a14dd08fac32412e4034720622c89e4848d03b01a4ce5d06521e69"), looks := false }, kinds := [], alts := [], laidByText := true, laidKinds := [.data, .data, .data, .data, .pinned], laidTests := true, laidLooks := .later }
def WideDivsCardSaid : Prop := Claim7.holds Tryd.pinned (.plain (OpenSpec.ofChange wideDivsSpec)) wideDivsCard

/-- THE TIED CARD OF 'propylonlaw6.WideTexts'. -/
def wideTextsCard : Claim7 := { stood := { row := wideTextsRow, standIns := [], harness := (true, "8702a2dca1a14dd08fac32412e4034720622c89e4848d03b01a4ce5d06521e69"), looks := false }, kinds := [], alts := [], laidByText := true, laidKinds := [.data, .data, .data, .data, .pinned], laidTests := true, laidLooks := .later }
def WideTextsCardSaid : Prop := Claim7.holds Tryd.pinned (.plain (OpenSpec.ofChange wideTextsSpec)) wideTextsCard

/-- THE TIED CARD OF 'propylonlaw9.BigSums'. -/
def bigSumsCard : Claim7 := { stood := { row := bigSumsRow, standIns := [], harness := (true, "8702a2dca1a14dd08fac32412e4034720622c89e4848d03b01a4ce5d06521e69"), looks := false }, kinds := [], alts := [], laidByText := true, laidKinds := [.data, .data, .data], laidTests := true, laidLooks := .later }
def BigSumsCardSaid : Prop := Claim7.holds Tryd.pinned (.plain (OpenSpec.ofChange bigSumsSpec)) bigSumsCard

/-- THE TIED CARD OF 'propylonlaw9.BigLaws'. -/
def bigLawsCard : Claim7 := { stood := { row := bigLawsRow, standIns := [], harness := (true, "8702a2dca1a14dd08fac32412e4034720622c89e4848d03b01a4ce5d06521e69"), looks := false }, kinds := [], alts := [], laidByText := true, laidKinds := [.data, .data, .data], laidTests := true, laidLooks := .later }
def BigLawsCardSaid : Prop := Claim7.holds Tryd.pinned (.plain (OpenSpec.ofChange bigLawsSpec)) bigLawsCard

/-- THE TIED CARD OF 'propylonlaw6.WideShifts'. -/
def wideShiftsCard : Claim7 := { stood := { row := wideShiftsRow, standIns := [], harness := (true, "8702a2dca1a14dd08fac32412e4034720622c89e4848d03b01a4ce5d06521e69"), looks := false }, kinds := [], alts := [], laidByText := true, laidKinds := [.data, .data, .data, .data, .pinned], laidTests := true, laidLooks := .later }
def WideShiftsCardSaid : Prop := Claim7.holds Tryd.pinned (.plain (OpenSpec.ofChange wideShiftsSpec)) wideShiftsCard

/-- THE TIED CARD OF 'propylonlaw6.WideSums'. -/
def wideSumsCard : Claim7 := { stood := { row := wideSumsRow, standIns := [], harness := (true, "8702a2dca1a14dd08fac32412e4034720622c89e4848d03b01a4ce5d06521e69"), looks := false }, kinds := [], alts := [], laidByText := true, laidKinds := [.data, .data, .data, .data, .pinned], laidTests := true, laidLooks := .later }
def WideSumsCardSaid : Prop := Claim7.holds Tryd.pinned (.plain (OpenSpec.ofChange wideSumsSpec)) wideSumsCard

/-- THE TIED CARD OF 'propylonlaw6.WideLaws'. -/
def wideLawsCard : Claim7 := { stood := { row := wideLawsRow, standIns := [], harness := (true, "8702a2dca1a14dd08fac32412e4034720622c89e4848d03b01a4ce5d06521e69"), looks := false }, kinds := [], alts := [], laidByText := true, laidKinds := [.data, .data, .data, .data, .pinned], laidTests := true, laidLooks := .later }
def WideLawsCardSaid : Prop := Claim7.holds Tryd.pinned (.plain (OpenSpec.ofChange wideLawsSpec)) wideLawsCard

/-- THE TIED CARD OF 'propylonlaw9.BigShifts'. -/
def bigShiftsCard : Claim7 := { stood := { row := bigShiftsRow, standIns := [], harness := (true, "8702a2dca1a14dd08fac32412e4034720622c89e4848d03b01a4ce5d06521e69"), looks := false }, kinds := [], alts := [], laidByText := true, laidKinds := [.data, .data, .data], laidTests := true, laidLooks := .later }
def BigShiftsCardSaid : Prop := Claim7.holds Tryd.pinned (.plain (OpenSpec.ofChange bigShiftsSpec)) bigShiftsCard

/-- THE TIED CARD OF 'propylonlaw9.BigDivs'. -/
def bigDivsCard : Claim7 := { stood := { row := bigDivsRow, standIns := [], harness := (true, "8702a2dca1a14dd08fac32412e4034720622c89e4848d03b01a4ce5d06521e69"), looks := false }, kinds := [], alts := [], laidByText := true, laidKinds := [.data, .data, .data], laidTests := true, laidLooks := .later }
def BigDivsCardSaid : Prop := Claim7.holds Tryd.pinned (.plain (OpenSpec.ofChange bigDivsSpec)) bigDivsCard

/-- THE SECOND FORM's CARD OF 'propylonlaw9.BigMuls'. -/
def bigMulsUptoCard : Claim7 := { stood := { row := bigMulsUptoRow, standIns := [], harness := (true, "8702a2dca1a14dd08fac32412e4034720622c89e4848d03b01a4ce5d06521e69"), looks := false }, kinds := [], alts := [], laidByText := true, laidKinds := [.data, .data, .data], laidTests := true, laidLooks := .later }
def BigMulsUptoCardSaid : Prop := Claim7.holds Tryd.pinned (.plain (OpenSpec.upto bigMulsSpec)) bigMulsUptoCard

/-- THE SECOND FORM's CARD OF 'propylonlaw9.BigTexts'. -/
def bigTextsUptoCard : Claim7 := { stood := { row := bigTextsUptoRow, standIns := [], harness := (true, "8702a2dca1a14dd08fac32412e4034720622c89e4848d03b01a4ce5d06521e69"), looks := false }, kinds := [], alts := [], laidByText := true, laidKinds := [.data, .data, .data], laidTests := true, laidLooks := .later }
def BigTextsUptoCardSaid : Prop := Claim7.holds Tryd.pinned (.plain (OpenSpec.upto bigTextsSpec)) bigTextsUptoCard

/-- THE SECOND FORM's CARD OF 'propylonlaw6.WideTimes'. -/
def wideTimesUptoCard : Claim7 := { stood := { row := wideTimesUptoRow, standIns := [], harness := (true, "8702a2dca1a14dd08fac32412e4034720622c89e4848d03b01a4ce5d06521e69"), looks := false }, kinds := [], alts := [], laidByText := true, laidKinds := [.data, .data, .data, .data, .pinned], laidTests := true, laidLooks := .later }
def WideTimesUptoCardSaid : Prop := Claim7.holds Tryd.pinned (.plain (OpenSpec.upto wideTimesSpec)) wideTimesUptoCard

/-- THE SECOND FORM's CARD OF 'propylonlaw6.WideDivs'. -/
def wideDivsUptoCard : Claim7 := { stood := { row := wideDivsUptoRow, standIns := [], harness := (true, "8702a2dca1a14dd08fac32412e4034720622c89e4848d03b01a4ce5d06521e69"), looks := false }, kinds := [], alts := [], laidByText := true, laidKinds := [.data, .data, .data, .data, .pinned], laidTests := true, laidLooks := .later }
def WideDivsUptoCardSaid : Prop := Claim7.holds Tryd.pinned (.plain (OpenSpec.upto wideDivsSpec)) wideDivsUptoCard

/-- THE SECOND FORM's CARD OF 'propylonlaw6.WideTexts'. -/
def wideTextsUptoCard : Claim7 := { stood := { row := wideTextsUptoRow, standIns := [], harness := (true, "8702a2dca1a14dd08fac32412e4034720622c89e4848d03b01a4ce5d06521e69"), looks := false }, kinds := [], alts := [], laidByText := true, laidKinds := [.data, .data, .data, .data, .pinned], laidTests := true, laidLooks := .later }
def WideTextsUptoCardSaid : Prop := Claim7.holds Tryd.pinned (.plain (OpenSpec.upto wideTextsSpec)) wideTextsUptoCard

/-- THE SECOND FORM's CARD OF 'propylonlaw9.BigSums'. -/
def bigSumsUptoCard : Claim7 := { stood := { row := bigSumsUptoRow, standIns := [], harness := (true, "8702a2dca1a14dd08fac32412e4034720622c89e4848d03b01a4ce5d06521e69"), looks := false }, kinds := [], alts := [], laidByText := true, laidKinds := [.data, .data, .data], laidTests := true, laidLooks := .later }
def BigSumsUptoCardSaid : Prop := Claim7.holds Tryd.pinned (.plain (OpenSpec.upto bigSumsSpec)) bigSumsUptoCard

/-- THE SECOND FORM's CARD OF 'propylonlaw9.BigLaws'. -/
def bigLawsUptoCard : Claim7 := { stood := { row := bigLawsUptoRow, standIns := [], harness := (true, "8702a2dca1a14dd08fac32412e4034720622c89e4848d03b01a4ce5d06521e69"), looks := false }, kinds := [], alts := [], laidByText := true, laidKinds := [.data, .data, .data], laidTests := true, laidLooks := .later }
def BigLawsUptoCardSaid : Prop := Claim7.holds Tryd.pinned (.plain (OpenSpec.upto bigLawsSpec)) bigLawsUptoCard

/-- THE SECOND FORM's CARD OF 'propylonlaw6.WideShifts'. -/
def wideShiftsUptoCard : Claim7 := { stood := { row := wideShiftsUptoRow, standIns := [], harness := (true, "8702a2dca1a14dd08fac32412e4034720622c89e4848d03b01a4ce5d06521e69"), looks := false }, kinds := [], alts := [], laidByText := true, laidKinds := [.data, .data, .data, .data, .pinned], laidTests := true, laidLooks := .later }
def WideShiftsUptoCardSaid : Prop := Claim7.holds Tryd.pinned (.plain (OpenSpec.upto wideShiftsSpec)) wideShiftsUptoCard

/-- THE SECOND FORM's CARD OF 'propylonlaw6.WideSums'. -/
def wideSumsUptoCard : Claim7 := { stood := { row := wideSumsUptoRow, standIns := [], harness := (true, "8702a2dca1a14dd08fac32412e4034720622c89e4848d03b01a4ce5d06521e69"), looks := false }, kinds := [], alts := [], laidByText := true, laidKinds := [.data, .data, .data, .data, .pinned], laidTests := true, laidLooks := .later }
def WideSumsUptoCardSaid : Prop := Claim7.holds Tryd.pinned (.plain (OpenSpec.upto wideSumsSpec)) wideSumsUptoCard

/-- THE SECOND FORM's CARD OF 'propylonlaw6.WideLaws'. -/
def wideLawsUptoCard : Claim7 := { stood := { row := wideLawsUptoRow, standIns := [], harness := (true, "8702a2dca1a14dd08fac32412e4034720622c89e4848d03b01a4ce5d06521e69"), looks := false }, kinds := [], alts := [], laidByText := true, laidKinds := [.data, .data, .data, .data, .pinned], laidTests := true, laidLooks := .later }
def WideLawsUptoCardSaid : Prop := Claim7.holds Tryd.pinned (.plain (OpenSpec.upto wideLawsSpec)) wideLawsUptoCard

/-- THE SECOND FORM's CARD OF 'propylonlaw9.BigShifts'. -/
def bigShiftsUptoCard : Claim7 := { stood := { row := bigShiftsUptoRow, standIns := [], harness := (true, "8702a2dca1a14dd08fac32412e4034720622c89e4848d03b01a4ce5d06521e69"), looks := false }, kinds := [], alts := [], laidByText := true, laidKinds := [.data, .data, .data], laidTests := true, laidLooks := .later }
def BigShiftsUptoCardSaid : Prop := Claim7.holds Tryd.pinned (.plain (OpenSpec.upto bigShiftsSpec)) bigShiftsUptoCard

/-- THE SECOND FORM's CARD OF 'propylonlaw9.BigDivs'. -/
def bigDivsUptoCard : Claim7 := { stood := { row := bigDivsUptoRow, standIns := [], harness := (true, "8702a2dca1a14dd08fac32412e4034720622c89e4848d03b01a4ce5d06521e69"), looks := false }, kinds := [], alts := [], laidByText := true, laidKinds := [.data, .data, .data], laidTests := true, laidLooks := .later }
def BigDivsUptoCardSaid : Prop := Claim7.holds Tryd.pinned (.plain (OpenSpec.upto bigDivsSpec)) bigDivsUptoCard
end Rows
end Go.Proofs.YtgkgacmphafieaaDoor
