/- Contracts of package gauss: Quo. Conditions: as each says. -/
import Derived.Test.YtogmmhacjndebaaDoorGau5
namespace Go.Proofs.YtogmmhacjndebaaDoor
open Go.RowKit
set_option linter.unusedSimpArgs false
set_option linter.unusedVariables false

theorem tdiv_bound {R N B : Int} (h0 : -B ≤ R) (h1 : R ≤ B) : -B ≤ R.tdiv N ∧ R.tdiv N ≤ B := by
  have h := Int.natAbs_tdiv_le_natAbs R N
  omega

end Go.Proofs.YtogmmhacjndebaaDoor
