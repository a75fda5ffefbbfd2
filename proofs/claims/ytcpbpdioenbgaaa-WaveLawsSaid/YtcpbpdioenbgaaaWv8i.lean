/- Law 8: WavePoint. No condition. -/
import Derived.Test.YtcpbpdioenbgaaaPol
import Derived.Test.YtcpbpdioenbgaaaWv8h
namespace Go.Proofs.Ytcpbpdioenbgaaa
open Go.RowKit
set_option linter.unusedSimpArgs false
set_option linter.unusedVariables false
attribute [local irreducible] Fl.K
theorem fw_range (f : Nat → Int) (t : Nat) : 0 ≤ fw f t ∧ fw f t ≤ 32767 := by unfold fw; omega
theorem fw_dig (f : Nat → Int) (n : Nat) : Dig n (fw f) := fun i _ => by have := fw_range f i; omega
end Go.Proofs.Ytcpbpdioenbgaaa
