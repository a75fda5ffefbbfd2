/- The walk of GaussNorms. No condition. -/
import Derived.Test.YtogmmhacjndebaaDoorGau8
namespace Go.Proofs.YtogmmhacjndebaaDoor
open Go.RowKit
set_option linter.unusedSimpArgs false
set_option linter.unusedVariables false

theorem q_bound (k a b : Int) (M : Int) (a0 : -M ≤ a) (a1 : a ≤ M) (b0 : -M ≤ b) (b1 : b ≤ M) : -M ≤ qre k a b ∧ qre k a b ≤ M ∧ -M ≤ qim k a b ∧ qim k a b ≤ M := by
  unfold qre qim
  (repeat' split) <;> omega
end Go.Proofs.YtogmmhacjndebaaDoor
