/- Plain laws: which texts are whole numbers of 64 bits: what strconv.ParseInt and the reference's ParseInt tell. No program. -/
import Derived.Test.YthlpimdpgmknoaaDoorLex
import Derived.Test.YthlpimdpgmknoaaDoorNum
import Derived.Lib.ParseIntB
namespace Go.Proofs.YthlpimdpgmknoaaDoor
open Go.Lib
set_option linter.unusedSimpArgs false
set_option linter.unusedVariables false

def dval (a : Nat) (l : List UInt8) : Nat := l.foldl (fun a c => a * 10 + (c.toNat - 48)) a
end Go.Proofs.YthlpimdpgmknoaaDoor
