/- Plain laws of decimal numerals: noughts ahead, numerals cut in two, which texts are numerals. No program. -/
import Derived.Lib.ItoaNum
namespace Go.Proofs.YthaphecoalepgaaDoor
open Go.Lib
set_option linter.unusedSimpArgs false
set_option linter.unusedVariables false

theorem decDigits_ten {n : Nat} (h : ¬ n < 10) : decDigits n = decDigits (n / 10) ++ [UInt8.ofNat (48 + n % 10)] := by rw [decDigits, dif_neg h]
theorem decDigits_nil (n : Nat) : decDigits n ≠ [] := by
  intro h
  have := decDigits_length n
  rw [h] at this
  have := nDigits_pos n
  simp at *
  omega
theorem nDigits_of_lt : ∀ (k r : Nat), 1 ≤ k → r < 10 ^ k → nDigits r ≤ k
  | 0, _, h, _ => by omega
  | k + 1, r, _, hr => by
    by_cases h : r < 10
    · rw [nDigits_small h]; omega
    · have hk : 1 ≤ k := by
        rcases Nat.eq_zero_or_pos k with rfl | h1
        · simp at hr; omega
        · exact h1
      rw [nDigits_big h]
      rw [Nat.pow_succ] at hr
      have := nDigits_of_lt k (r / 10) hk (by omega)
      omega
/-- A numeral of two digits or more does not begin with 0. -/
theorem decDigits_head : ∀ n : Nat, 0 < n → ∃ c m, decDigits n = c :: m ∧ c ≠ 48 := by
  intro n
  induction n using Nat.strongRecOn with
  | _ n ih =>
    intro h0
    by_cases h : n < 10
    · refine ⟨UInt8.ofNat (48 + n), [], by rw [decDigits_one h], ?_⟩
      intro he
      have := congrArg UInt8.toNat he
      rw [UInt8.toNat_ofNat'] at this
      have h48 : (48 : UInt8).toNat = 48 := rfl
      omega
    · obtain ⟨c, m, he, hc⟩ := ih (n / 10) (by omega) (by omega)
      exact ⟨c, m ++ [UInt8.ofNat (48 + n % 10)], by rw [decDigits_ten h, he]; rfl, hc⟩
end Go.Proofs.YthaphecoalepgaaDoor
