/- The contract of the reference's Sub: the difference of two numbers of 128 bits, and whether the second is greater. No condition. -/
import Derived.Test.YtiagngnpbpblaaaDoorRAdd
namespace Go.Proofs.YtiagngnpbpblaaaDoor
open Go.RowKit
set_option linter.unusedSimpArgs false
set_option linter.unusedVariables false

theorem ret_sub {p q p' q' : Int} {b b' : Bool} (h1 : p = p') (h2 : q = q') (h3 : b = b') : Ending.returned (.tuple #[.agg #[.int .u64 p, .int .u64 q], .bool b]) = Ending.returned (.tuple #[.agg #[.int .u64 p', .int .u64 q'], .bool b']) := by rw [h1, h2, h3]
end Go.Proofs.YtiagngnpbpblaaaDoor
