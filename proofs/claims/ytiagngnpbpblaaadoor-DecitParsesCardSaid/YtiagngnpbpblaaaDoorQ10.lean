/- What is read of digits and an exponent: just that number. Plain laws, no program. -/
import Derived.Test.YtiagngnpbpblaaaDoorQ6
import Derived.Test.YtiagngnpbpblaaaDoorQ8
namespace Go.Proofs.YtiagngnpbpblaaaDoor
open Go.Lib
set_option linter.unusedSimpArgs false
set_option linter.unusedVariables false

theorem decVal_lt : ∀ (k : Nat) (l : List UInt8), l.length = k → l.all isDg = true → decVal l < 10 ^ k
  | 0, l, h, _ => by
    rw [List.eq_nil_of_length_eq_zero h]; decide
  | k + 1, l, h, ha => by
    rcases List.eq_nil_or_concat l with rfl | ⟨m, c, rfl⟩
    · simp at h
    · rw [List.concat_eq_append] at *
      have hm : m.length = k := by simp at h; exact h
      rw [List.all_append, Bool.and_eq_true] at ha
      have ih := decVal_lt k m hm ha.1
      have hc := ha.2
      rw [List.all_cons, Bool.and_eq_true] at hc
      have hc2 := dig_ne (show isD c = true from hc.1)
      rw [decVal_snoc, Nat.pow_succ]
      omega
theorem wV_div {V : Int} (h0 : 0 ≤ V) : wV (V / 18446744073709551616) (V % 18446744073709551616) = V := by unfold wV; omega
end Go.Proofs.YtiagngnpbpblaaaDoor
