/- Plain laws: which texts are whole numbers of 64 bits: what strconv.ParseInt and the reference's ParseInt tell. No program. -/
import Derived.Test.YtoidmnleedkbiaaDoorLex
import Derived.Test.YtoidmnleedkbiaaDoorNum
import Derived.Lib.ParseIntB
namespace Go.Proofs.YtoidmnleedkbiaaDoor
open Go.Lib
set_option linter.unusedSimpArgs false
set_option linter.unusedVariables false

def dval (a : Nat) (l : List UInt8) : Nat := l.foldl (fun a c => a * 10 + (c.toNat - 48)) a
theorem dval_snoc (a : Nat) (l : List UInt8) (c : UInt8) : dval a (l ++ [c]) = dval a l * 10 + (c.toNat - 48) := by unfold dval; rw [List.foldl_append]; rfl
theorem isD_iff {c : UInt8} : isD c = true ↔ 48 ≤ c.toNat ∧ c.toNat ≤ 57 := by unfold isD; simp
end Go.Proofs.YtoidmnleedkbiaaDoor
