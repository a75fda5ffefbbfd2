/- TopLooks: the tied card: for every input the law returns true, and each argument reads as it read before. Condition: the listed variables hold what the program's text lays (tied). (The frame follows the kit's proof-skeleton and its worked cards.) -/
import Derived.WalkKit
import Derived.ProofKit
import Derived.OpenShut
import Derived.LaidMore
import Derived.Lib.SmallJoins
import Derived.Lib.LaidTab
import Derived.LaidSub
import Derived.Lay
import Derived.Stop.Joined
import Derived.SevenTiedAt
import Derived.Test.YtihnfhhopldllaaGreatDoorRows
import Derived.Test.YtihnfhhopldllaaGreatDoorCards
import Derived.Test.YtihnfhhopldllaaGreatDoorProg
namespace Go.Proofs.YtihnfhhopldllaaGreatDoor.topLooks
open Go.ChangeShapes Go.WideShapes Go.ChangeAt Go.WideMaps Go.WideElems Go.RowKit
set_option linter.unusedVariables false
set_option linter.unusedSimpArgs false

theorem pf1 : Rows.topLooksRow.wfByText (OpenSpec.ofChange Rows.topLooksSpec) = true := by kernel_rfl
theorem pf2 : Tryz.prog.mainIs = some (true, "87f6c2ad17ed06cb584fb6264a59f34b0cd6ad0e844331b905c69282397644e2".toList) := by kernel_rfl
theorem pf3 : true = Tryz.prog.looks [] := by kernel_rfl
theorem pf4 : ([9, 9, 49].all fun u => !Tryz.prog.wantsStandIn u) = true := by kernel_rfl
theorem pf5 : false = Rows.topLooksRow.goesBy Tryz.prog := by kernel_rfl
theorem pf6 : Tryz.prog.funcNamed "propylon/propylontop.TopLooks" = some 5 := by kernel_rfl
end Go.Proofs.YtihnfhhopldllaaGreatDoor.topLooks
