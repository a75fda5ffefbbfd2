/- Plain laws of JSON's numbers as texts: runs of digits, a text's sort. No program. -/
import Derived.Lib.ItoaNum
namespace Go.Proofs.YthaphecoalepgaaDoor
open Go.Lib
set_option linter.unusedSimpArgs false
set_option linter.unusedVariables false

def isD (c : UInt8) : Bool := decide (48 ≤ c.toNat) && decide (c.toNat ≤ 57)
/-- Does the text begin with one of two signs? -/
def hdIs : List UInt8 → Int → Int → Bool
  | [], _, _ => false
  | x :: _, c, d => (x.toNat : Int) == c || (x.toNat : Int) == d
theorem hdIs_at {l : List UInt8} {i : Nat} (h : i < l.length) (c d : Int) : hdIs (l.drop i) c d = ((l[i].toNat : Int) == c || (l[i].toNat : Int) == d) := by
  rw [List.drop_eq_getElem_cons h]; rfl
end Go.Proofs.YthaphecoalepgaaDoor
