/- The plain law of decimals: what is joined is told by its parts, and of what is finite the parts can be joined. No program. -/
import Derived.Test.YtpgooajifehbbaaDoorDec5
namespace Go.Proofs.YtpgooajifehbbaaDoor
open Go.RowKit
set_option linter.unusedSimpArgs false
set_option linter.unusedVariables false

def pPlain (a b : Int) : Bool :=
  if sKind a = 3 then decide (a = 8935141660703064064) && decide (b = 0)
  else if sKind a = 2 then decide (a % 9223372036854775808 = 8646911284551352320) && decide (b = 0)
  else jOk (sHigh a b) (sLow a b) (sExp a) && (decide (jHigh (sNeg a) (sHigh a b) (sLow a b) (sExp a) = a) && decide (jLow (sHigh a b) (sLow a b) (sExp a) = b))

theorem split_bounds (a b : Int) (b0 : 0 ≤ b) (b1 : b ≤ 18446744073709551615) :
    0 ≤ sHigh a b ∧ sHigh a b ≤ 18446744073709551615 ∧ 0 ≤ sLow a b ∧ sLow a b ≤ 18446744073709551615 ∧ -9223372036854775808 ≤ sExp a ∧ sExp a ≤ 9223372036854775807 := by
  unfold sHigh sLow sExp
  refine ⟨?_, ?_, ?_, ?_, ?_, ?_⟩ <;> (repeat' split) <;> omega

theorem again_fin (a b : Int) (k : sKind a = 1) : jOk (sHigh a b) (sLow a b) (sExp a) = true := by
  have c : ¬ 30 ≤ a / 288230376151711744 % 32 := by
    unfold sKind at k
    split at k
    · omega
    · split at k <;> omega
  have hx : -6176 ≤ sExp a ∧ sExp a ≤ 6111 := by
    unfold sExp
    rw [if_neg c]
    split <;> omega
  have hc : wV (sHigh a b) (sLow a b) < 10000000000000000000000000000000000 := by
    unfold sHigh sLow
    split
    · decide
    · split
      · decide
      · omega
  unfold jOk
  simp
  omega

theorem plain_fin (a b : Int) (k : sKind a = 1) :
    pPlain a b = (decide (jHigh (sNeg a) (sHigh a b) (sLow a b) (sExp a) = a) && decide (jLow (sHigh a b) (sLow a b) (sExp a) = b)) := by
  unfold pPlain
  rw [again_fin a b k, k]
  simp
end Go.Proofs.YtpgooajifehbbaaDoor
