/- Doubles that are whole numbers: sums, differences, products, comparisons and conversions of such doubles are exact. Plain arithmetic over the kit's Ieee core; no program in sight. No condition. -/
import Ieee.Arith
import Derived.Laws.FloatArith
import Derived.Laws.ComplexArith
namespace Go.Proofs.YtiagngnpbpblaaaDoor.Fl
open Ieee

/-- A bound below all places that come up. -/
def K : Nat := 2200
attribute [local irreducible] K
/-- m * 2^e, in units of 2^-K. -/
def sc (m : Nat) (e : Int) : Nat := m * 2 ^ (e + K).toNat
def sg (s : Bool) (x : Nat) : Int := if s then -(x : Int) else (x : Int)

end Go.Proofs.YtiagngnpbpblaaaDoor.Fl
