/-
  DERIVED. GIVEN WITH THE SEED: THE CARDS: each row of YtpbfbgkiamfodaaDoorRows.lean that lists a variable, with what it lists TIED to the program's text (the seventh form; the later family's looks); each row that meets fmt, with fmt's text TOLD by the authors' own Lean function (tested against real Go, not proved from fmt's source: count such statements apart). THE CARD IS WHAT COUNTS. Prove the row's statement (the work); the ties are given (YtpbfbgkiamfodaaDoorTie.lean); close each card by the builder's one call (the guide's Derived/Test/ToyasCard.lean, 'card_holds'). Laid BY PROGRAM, IN A SANDBOX (cutbox-door.mjs). By AI agents, Wed Nov 11 2026. No macro, syntax, notation, axiom, sorry.
-/
import Derived.Test.YtpbfbgkiamfodaaDoorRows
import GoSem.ClaimSeven
namespace Go.Proofs.YtpbfbgkiamfodaaDoor
namespace Rows

/-- THE TIED CARD OF 'propylonlaw11.DblJoins'. -/
def dblJoinsCard : Claim7 := { stood := { row := dblJoinsRow, standIns := [], harness := (true, "7f3bbb88207bf50e80180666d22959d91ad6dcdd906c7f2b9b5f769ef7a2686a"), looks := false }, kinds := [], alts := [], laidByText := true, laidKinds := [.data], laidTests := true, laidLooks := .later }
def DblJoinsCardSaid : Prop := Claim7.holds Tryd.pinned (.plain (OpenSpec.ofChange dblJoinsSpec)) dblJoinsCard

/-- THE TIED CARD OF 'propylonlaw11.DblWholes'. -/
def dblWholesCard : Claim7 := { stood := { row := dblWholesRow, standIns := [], harness := (true, "7f3bbb88207bf50e80180666d22959d91ad6dcdd906c7f2b9b5f769ef7a2686a"), looks := false }, kinds := [], alts := [], laidByText := true, laidKinds := [.data], laidTests := true, laidLooks := .later }
def DblWholesCardSaid : Prop := Claim7.holds Tryd.pinned (.plain (OpenSpec.ofChange dblWholesSpec)) dblWholesCard

/-- THE TIED CARD OF 'propylonlaw11.DblBack'. -/
def dblBackCard : Claim7 := { stood := { row := dblBackRow, standIns := [], harness := (true, "7f3bbb88207bf50e80180666d22959d91ad6dcdd906c7f2b9b5f769ef7a2686a"), looks := false }, kinds := [], alts := [], laidByText := true, laidKinds := [.data], laidTests := true, laidLooks := .later }
def DblBackCardSaid : Prop := Claim7.holds Tryd.pinned (.plain (OpenSpec.ofChange dblBackSpec)) dblBackCard

/-- THE SECOND FORM's CARD OF 'propylonlaw11.DblJoins'. -/
def dblJoinsUptoCard : Claim7 := { stood := { row := dblJoinsUptoRow, standIns := [], harness := (true, "7f3bbb88207bf50e80180666d22959d91ad6dcdd906c7f2b9b5f769ef7a2686a"), looks := false }, kinds := [], alts := [], laidByText := true, laidKinds := [.data], laidTests := true, laidLooks := .later }
def DblJoinsUptoCardSaid : Prop := Claim7.holds Tryd.pinned (.plain (OpenSpec.upto dblJoinsSpec)) dblJoinsUptoCard

/-- THE SECOND FORM's CARD OF 'propylonlaw11.DblWholes'. -/
def dblWholesUptoCard : Claim7 := { stood := { row := dblWholesUptoRow, standIns := [], harness := (true, "7f3bbb88207bf50e80180666d22959d91ad6dcdd906c7f2b9b5f769ef7a2686a"), looks := false }, kinds := [], alts := [], laidByText := true, laidKinds := [.data], laidTests := true, laidLooks := .later }
def DblWholesUptoCardSaid : Prop := Claim7.holds Tryd.pinned (.plain (OpenSpec.upto dblWholesSpec)) dblWholesUptoCard

/-- THE SECOND FORM's CARD OF 'propylonlaw11.DblBack'. -/
def dblBackUptoCard : Claim7 := { stood := { row := dblBackUptoRow, standIns := [], harness := (true, "7f3bbb88207bf50e80180666d22959d91ad6dcdd906c7f2b9b5f769ef7a2686a"), looks := false }, kinds := [], alts := [], laidByText := true, laidKinds := [.data], laidTests := true, laidLooks := .later }
def DblBackUptoCardSaid : Prop := Claim7.holds Tryd.pinned (.plain (OpenSpec.upto dblBackSpec)) dblBackUptoCard
end Rows
end Go.Proofs.YtpbfbgkiamfodaaDoor
