/- Plain laws of JSON's numbers as texts: runs of digits, a text's sort. No program. -/
import Derived.Lib.ItoaNum
namespace Go.Proofs.YtiagngnpbpblaaaDoor
open Go.Lib
set_option linter.unusedSimpArgs false
set_option linter.unusedVariables false

def isD (c : UInt8) : Bool := decide (48 ≤ c.toNat) && decide (c.toNat ≤ 57)
def runL : List UInt8 → Nat
  | [] => 0
  | c :: l => if isD c then runL l + 1 else 0
/-- Does the text begin with one of two signs? -/
def hdIs : List UInt8 → Int → Int → Bool
  | [], _, _ => false
  | x :: _, c, d => (x.toNat : Int) == c || (x.toNat : Int) == d
theorem runL_le : ∀ l, runL l ≤ l.length
  | [] => Nat.le_refl _
  | c :: l => by
    unfold runL
    have := runL_le l
    split <;> simp <;> omega
/-- Behind a run there stands no digit. -/
theorem run_step {l : List UInt8} {i : Nat} (h : i < l.length) (hd : isD l[i] = true) : runL (l.drop i) = runL (l.drop (i + 1)) + 1 := by
  rw [List.drop_eq_getElem_cons h]
  show (if isD l[i] then runL (l.drop (i + 1)) + 1 else 0) = _
  rw [if_pos hd]
theorem run_stop {l : List UInt8} {i : Nat} (h : i < l.length) (hd : isD l[i] = false) : runL (l.drop i) = 0 := by
  rw [List.drop_eq_getElem_cons h]
  show (if isD l[i] then runL (l.drop (i + 1)) + 1 else 0) = _
  rw [if_neg (by rw [hd]; decide)]
theorem run_end {l : List UInt8} {i : Nat} (h : l.length ≤ i) : runL (l.drop i) = 0 := by
  rw [List.drop_eq_nil_of_le h]; rfl
theorem hdIs_at {l : List UInt8} {i : Nat} (h : i < l.length) (c d : Int) : hdIs (l.drop i) c d = ((l[i].toNat : Int) == c || (l[i].toNat : Int) == d) := by
  rw [List.drop_eq_getElem_cons h]; rfl
end Go.Proofs.YtiagngnpbpblaaaDoor
