/- The plain law of decimals: what is joined is told by its parts, and of what is finite the parts can be joined. No program. -/
import Derived.Test.YtiagngnpbpblaaaDoorDec5
namespace Go.Proofs.YtiagngnpbpblaaaDoor
open Go.RowKit
set_option linter.unusedSimpArgs false
set_option linter.unusedVariables false

theorem split_bounds (a b : Int) (b0 : 0 ≤ b) (b1 : b ≤ 18446744073709551615) :
    0 ≤ sHigh a b ∧ sHigh a b ≤ 18446744073709551615 ∧ 0 ≤ sLow a b ∧ sLow a b ≤ 18446744073709551615 ∧ -9223372036854775808 ≤ sExp a ∧ sExp a ≤ 9223372036854775807 := by
  unfold sHigh sLow sExp
  refine ⟨?_, ?_, ?_, ?_, ?_, ?_⟩ <;> (repeat' split) <;> omega

end Go.Proofs.YtiagngnpbpblaaaDoor
