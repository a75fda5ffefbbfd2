/- Plain laws of JSON's numbers as texts: runs of digits, a text's sort. No program. -/
import Derived.Lib.ItoaNum
namespace Go.Proofs.YthlpimdpgmknoaaDoor
open Go.Lib
set_option linter.unusedSimpArgs false
set_option linter.unusedVariables false

def isD (c : UInt8) : Bool := decide (48 ≤ c.toNat) && decide (c.toNat ≤ 57)
end Go.Proofs.YthlpimdpgmknoaaDoor
