/- Plain laws of the calendar: days, years, months. No program. -/
import Derived.Lib.ItoaNum
namespace Go.Proofs.YtogmmhacjndebaaDoor
set_option linter.unusedSimpArgs false
set_option linter.unusedVariables false

def lp (y : Int) : Int := if y % 4 = 0 ∧ (y % 100 ≠ 0 ∨ y % 400 = 0) then 1 else 0
/-- Days ahead of a year, from 1970 on. -/
def ahd (y : Int) : Int := (y - 1) * 365 + (y - 1) / 4 - (y - 1) / 100 + (y - 1) / 400 - 719162
/-- The first guess of a year is not beyond it. -/
theorem guess (days : Int) (h0 : 0 ≤ days) (h1 : days ≤ 2932896) : ahd (1970 + days / 366) ≤ days ∧ 1970 + days / 366 ≤ 9999 := by
  unfold ahd; omega
end Go.Proofs.YtogmmhacjndebaaDoor
