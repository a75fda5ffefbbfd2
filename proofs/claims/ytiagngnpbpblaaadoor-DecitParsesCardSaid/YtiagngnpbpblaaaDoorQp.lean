/- Which texts are numbers, as the program reads them: a sign, digits about a point, an exponent. No program. -/
import Derived.Test.YtiagngnpbpblaaaDoorWd5
import Derived.Test.YtiagngnpbpblaaaDoorWd10
import Derived.Test.YtiagngnpbpblaaaDoorDec2
import Derived.Test.YtiagngnpbpblaaaDoorDec3
import Derived.Test.YtiagngnpbpblaaaDoorDec5
import Derived.Deep.RegionHeld
import Derived.Test.YtiagngnpbpblaaaDoorDec8
import Derived.Test.YtiagngnpbpblaaaDoorW2
import Derived.Test.YtiagngnpbpblaaaDoorRTimes
import Derived.Test.YtiagngnpbpblaaaDoorShelf
import Derived.Test.YtiagngnpbpblaaaDoorLex2
import Derived.Test.YtiagngnpbpblaaaDoorFl
import Derived.Lib.SlTrimSet
import Derived.Lib.IndexAny
import Derived.Lib.CutLaws
namespace Go.Proofs.YtiagngnpbpblaaaDoor
open Go.Lib
set_option linter.unusedSimpArgs false
set_option linter.unusedVariables false

def digs : List UInt8 := [48, 49, 50, 51, 52, 53, 54, 55, 56, 57]
theorem digs_nat : ∀ n, n < 256 → digs.contains (UInt8.ofNat n) = isD (UInt8.ofNat n) := by decide +kernel
theorem digs_has (c : UInt8) : digs.contains c = isD c := by
  have h := digs_nat c.toNat (UInt8.toNat_lt _)
  rw [UInt8.ofNat_toNat] at h
  exact h
theorem dropW_nil {p : UInt8 → Bool} : ∀ {l : List UInt8}, l.dropWhile p = [] ↔ l.all p = true
  | [] => by simp
  | x :: l => by
    rw [List.dropWhile_cons, List.all_cons]
    cases hx : p x
    · simp
    · simp only [if_true, Bool.true_and]
      exact dropW_nil
theorem trim_digs (l : List UInt8) : trimS l digs = [] ↔ l.all isD = true := by
  have e : ∀ l : List UInt8, l.all (digs.contains ·) = l.all isD := fun l => by
    congr 1
    funext c
    exact digs_has c
  unfold trimS trimLeftS trimRightS
  rw [dropW_nil, e]
  constructor
  · intro h
    rcases hq : (l.reverse.dropWhile (digs.contains ·)) with _ | ⟨x, r⟩
    · have h2 := dropW_nil.1 hq
      rw [List.all_reverse, e] at h2
      exact h2
    · have hx := List.head_dropWhile_not (p := (digs.contains ·)) (l := l.reverse) (by rw [hq]; simp)
      simp only [hq, List.head_cons] at hx
      rw [hq, List.all_reverse, List.all_cons, Bool.and_eq_true] at h
      have h3 := h.1
      rw [← digs_has, hx] at h3
      cases h3
  · intro h
    have h2 : l.reverse.all (digs.contains ·) = true := by rw [List.all_reverse, e]; exact h
    rw [dropW_nil.2 h2]
    rfl
/-- A text without its sign. -/
def stripS (l : List UInt8) : List UInt8 := if hdIs l 43 45 then l.tail else l
/-- The exponent that some digits tell, held within a million. -/
def expM (p : List UInt8) : Int := min (decVal p : Int) 1000000
/-- What stands ahead of the exponent's letter. -/
def mantL (t : List UInt8) : List UInt8 := if 0 ≤ indexAny t [101, 69] then t.take (indexAny t [101, 69]).toNat else t
/-- What stands behind it. -/
def powL (t : List UInt8) : List UInt8 := t.drop ((indexAny t [101, 69]).toNat + 1)
def expOk (t : List UInt8) : Bool := if 0 ≤ indexAny t [101, 69] then !(stripS (powL t)).isEmpty && (stripS (powL t)).all isD else true
def expV (t : List UInt8) : Int := if 0 ≤ indexAny t [101, 69] then (if hdIs (powL t) 45 45 then -expM (stripS (powL t)) else expM (stripS (powL t))) else 0
/-- The digits of what stands ahead. -/
def digL (m : List UInt8) : List UInt8 := (cut m [46]).1 ++ (cut m [46]).2.1
def digOk (m : List UInt8) : Bool := !(digL m).isEmpty && (digL m).all isD
def behL (m : List UInt8) : Nat := (cut m [46]).2.1.length
def numOk (l : List UInt8) : Bool := expOk (stripS l) && digOk (mantL (stripS l))
end Go.Proofs.YtiagngnpbpblaaaDoor
