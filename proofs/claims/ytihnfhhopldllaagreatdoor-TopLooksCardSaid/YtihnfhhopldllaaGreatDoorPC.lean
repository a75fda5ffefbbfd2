/- TopLooks: the tied card: for every input the law returns true, and each argument reads as it read before. Condition: the listed variables hold what the program's text lays (tied). (The frame follows the kit's proof-skeleton and its worked cards.) -/
import Derived.Test.YtihnfhhopldllaaGreatDoorRows
import Derived.Test.YtihnfhhopldllaaGreatDoorCards
import Derived.Test.YtihnfhhopldllaaGreatDoorTie
import Derived.WalkKit
import Derived.ProofKit
import Derived.OpenShut
import Derived.LaidMore
import Derived.Lib.SmallJoins
import Derived.Lib.LaidTab
import Derived.LaidSub
import Derived.Lay
import Derived.Stop.Joined
import Derived.SevenTiedAt
import Derived.Test.YtihnfhhopldllaaGreatDoorJ9
import Derived.Test.YtihnfhhopldllaaGreatDoorJ12
import Derived.Test.YtihnfhhopldllaaGreatDoorJ4
import Derived.Test.YtihnfhhopldllaaGreatDoorJ48
import Derived.Test.YtihnfhhopldllaaGreatDoorPB
import Derived.Test.YtihnfhhopldllaaGreatDoorPM
namespace Go.Proofs.YtihnfhhopldllaaGreatDoor.topLooks
open Go.ChangeShapes Go.WideShapes Go.ChangeAt Go.WideMaps Go.WideElems Go.RowKit
set_option linter.unusedVariables false
set_option linter.unusedSimpArgs false


theorem proved : Rows.TopLooksCardSaid :=
  Claim7.holds_tied_plain_at .later [] [.data, .data, .data, .data, .sentinel, .sentinel, .pinned] true (true, "87f6c2ad17ed06cb584fb6264a59f34b0cd6ad0e844331b905c69282397644e2") true
    over (fun _ h => by cases h) pf1 (fun _ h => by cases h) topLooks_row_tie rfl ⟨rfl, rfl⟩ pf2 rfl
    (fun f fn hf hfn => by
      obtain rfl : f = 5 := Option.some.inj (pf6.symm.trans hf) |>.symm
      obtain rfl : fn = Tryz.f5 := (Option.some.inj (Tryz.func5.symm.trans hfn)).symm
      exact ⟨pf3, fun j t ht => by
        rw [Tryz.params5] at ht
        have hm : t ∈ [9, 9, 49] := by simpa using Array.mem_of_getElem? ht
        have hall : ([9, 9, 49].all fun u => !Tryz.prog.wantsStandIn u) = true := pf4
        exact (show Tryz.prog.wantsStandIn t = false by simpa using List.all_eq_true.1 hall t hm)⟩)
    pf5
end Go.Proofs.YtihnfhhopldllaaGreatDoor.topLooks
