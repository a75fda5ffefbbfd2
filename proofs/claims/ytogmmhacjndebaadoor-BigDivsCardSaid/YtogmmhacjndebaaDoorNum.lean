/- Plain laws of decimal numerals: noughts ahead, numerals cut in two, which texts are numerals. No program. -/
import Derived.Lib.ItoaNum
namespace Go.Proofs.YtogmmhacjndebaaDoor
open Go.Lib
set_option linter.unusedSimpArgs false
set_option linter.unusedVariables false

theorem decDigits_ten {n : Nat} (h : ¬ n < 10) : decDigits n = decDigits (n / 10) ++ [UInt8.ofNat (48 + n % 10)] := by rw [decDigits, dif_neg h]
/-- r in k digits, noughts ahead. -/
def padK : Nat → Nat → List UInt8
  | 0, _ => []
  | k + 1, r => padK k (r / 10) ++ [UInt8.ofNat (48 + r % 10)]
theorem padK_zero : ∀ k, padK k 0 = List.replicate k 48
  | 0 => rfl
  | k + 1 => by
    show padK k (0 / 10) ++ [UInt8.ofNat (48 + 0 % 10)] = _
    rw [show 0 / 10 = 0 by rfl, padK_zero k, List.replicate_succ']
    rfl
theorem padK_length : ∀ k r, (padK k r).length = k
  | 0, _ => rfl
  | k + 1, r => by
    show (padK k (r / 10) ++ [UInt8.ofNat (48 + r % 10)]).length = _
    rw [List.length_append, padK_length k]; rfl
theorem dec_cut : ∀ (k q r : Nat), 1 ≤ q → r < 10 ^ k → decDigits (q * 10 ^ k + r) = decDigits q ++ padK k r
  | 0, q, r, hq, hr => by
    obtain rfl : r = 0 := by simpa using hr
    simp [padK]
  | k + 1, q, r, hq, hr => by
    have hp : 1 ≤ 10 ^ k := Nat.one_le_pow _ _ (by decide)
    rw [Nat.pow_succ] at hr ⊢
    have e1 : q * (10 ^ k * 10) = (q * 10 ^ k) * 10 := by rw [Nat.mul_assoc]
    have hq1 : 1 ≤ q * 10 ^ k := Nat.mul_pos hq hp
    rw [e1, decDigits_ten (by omega), show (q * 10 ^ k * 10 + r) / 10 = q * 10 ^ k + r / 10 by omega, show (q * 10 ^ k * 10 + r) % 10 = r % 10 by omega, dec_cut k q (r / 10) hq (by omega)]
    show _ = decDigits q ++ (padK k (r / 10) ++ [UInt8.ofNat (48 + r % 10)])
    rw [List.append_assoc]
theorem nDigits_of_lt : ∀ (k r : Nat), 1 ≤ k → r < 10 ^ k → nDigits r ≤ k
  | 0, _, h, _ => by omega
  | k + 1, r, _, hr => by
    by_cases h : r < 10
    · rw [nDigits_small h]; omega
    · have hk : 1 ≤ k := by
        rcases Nat.eq_zero_or_pos k with rfl | h1
        · simp at hr; omega
        · exact h1
      rw [nDigits_big h]
      rw [Nat.pow_succ] at hr
      have := nDigits_of_lt k (r / 10) hk (by omega)
      omega
theorem padK_eq : ∀ (k r : Nat), 1 ≤ k → r < 10 ^ k → padK k r = List.replicate (k - nDigits r) 48 ++ decDigits r
  | 0, _, h, _ => by omega
  | k + 1, r, _, hr => by
    show padK k (r / 10) ++ [UInt8.ofNat (48 + r % 10)] = _
    by_cases h : r < 10
    · rw [show r / 10 = 0 by omega, padK_zero, nDigits_small h, decDigits_one h, show r % 10 = r by omega, Nat.add_sub_cancel]
    · have hk : 1 ≤ k := by
        rcases Nat.eq_zero_or_pos k with rfl | h1
        · simp at hr; omega
        · exact h1
      rw [Nat.pow_succ] at hr
      rw [padK_eq k (r / 10) hk (by omega), nDigits_big h, decDigits_ten h, Nat.add_sub_add_right, List.append_assoc]
end Go.Proofs.YtogmmhacjndebaaDoor
