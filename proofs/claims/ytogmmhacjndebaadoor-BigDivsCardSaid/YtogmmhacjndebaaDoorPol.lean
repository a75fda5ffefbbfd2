/- Products of lists: the order does not matter; sums; values at a place. No program. -/
import Derived.Test.YtogmmhacjndebaaDoorFo1
namespace Go.Proofs.YtogmmhacjndebaaDoor
open Go.RowKit
set_option linter.unusedSimpArgs false
set_option linter.unusedVariables false
/-- Horner's rule from the end: what has come together of the last j numbers of n. -/
def hv (f : Nat → Int) (x : Int) (n : Nat) : Nat → Int
  | 0 => 0
  | j + 1 => (hv f x n j * x + f (n - 1 - j)) % 18446744073709551616
/-- A list's value at x. -/
def pv (a : Nat → Int) (x : Int) : Nat → Int
  | 0 => 0
  | n + 1 => pv a x n + a n * x ^ n
/-- What Horner's rule has after j steps. -/
def hz (f : Nat → Int) (x : Int) (n : Nat) : Nat → Int
  | 0 => 0
  | j + 1 => hz f x n j * x + f (n - 1 - j)
end Go.Proofs.YtogmmhacjndebaaDoor
