/- Contracts of package gauss: Norm; the law's own small functions; awake. Conditions: as each says. -/
import Derived.Test.YtogmmhacjndebaaDoorGau4
namespace Go.Proofs.YtogmmhacjndebaaDoor
open Go.RowKit
set_option linter.unusedSimpArgs false
set_option linter.unusedVariables false

def wi (v : Int) : Bool := decide (-33554432 ≤ v) && decide (v ≤ 33554432)
end Go.Proofs.YtogmmhacjndebaaDoor
