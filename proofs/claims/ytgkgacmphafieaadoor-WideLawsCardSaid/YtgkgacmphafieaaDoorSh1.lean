/- Plain laws of shifts of numbers of 128 bits. No program's text. -/
import Derived.Test.YtgkgacmphafieaaDoorRAdd
import Derived.IntWalk
import Derived.Laws.Bits64
namespace Go.Proofs.YtgkgacmphafieaaDoor
open Go.RowKit
set_option linter.unusedSimpArgs false
set_option linter.unusedVariables false

def upV (V : Int) (k : Nat) : Int := V * 2 ^ k % 340282366920938463463374607431768211456
def dnV (V : Int) (k : Nat) : Int := V / 2 ^ k
theorem upV_bd (V : Int) (k : Nat) : 0 ≤ upV V k ∧ upV V k ≤ 340282366920938463463374607431768211455 := by
  unfold upV; generalize V * 2 ^ k = x; omega
theorem upV_zero (V : Int) (h0 : 0 ≤ V) (h1 : V < 340282366920938463463374607431768211456) : upV V 0 = V := by
  unfold upV; rw [Int.pow_zero, Int.mul_one]; exact Int.emod_eq_of_lt h0 h1
theorem upV_succ (V : Int) (k : Nat) : upV V (k + 1) = upV V k * 2 % 340282366920938463463374607431768211456 := by
  unfold upV; rw [Int.pow_succ, ← Int.mul_assoc]; generalize V * 2 ^ k = x; omega
theorem dbl_parts (u : Int) (h0 : 0 ≤ u) (h1 : u ≤ 340282366920938463463374607431768211455) :
    IntKind.u64.wrap (IntKind.u64.wrap (u / 18446744073709551616 * 2) + u % 18446744073709551616 / 9223372036854775808) = u * 2 % 340282366920938463463374607431768211456 / 18446744073709551616 ∧
    IntKind.u64.wrap (u % 18446744073709551616 * 2) = u * 2 % 340282366920938463463374607431768211456 % 18446744073709551616 := by
  rw [IntKind.wrap_u64, IntKind.wrap_u64, IntKind.wrap_u64]; omega
theorem dnV_bd (V : Int) (k : Nat) (h0 : 0 ≤ V) : 0 ≤ dnV V k ∧ dnV V k ≤ V := by
  unfold dnV; exact ⟨Int.ediv_nonneg h0 (Int.le_of_lt (Int.pow_pos (by decide))), Int.ediv_le_self _ h0⟩
theorem dnV_zero (V : Int) : dnV V 0 = V := by unfold dnV; rw [Int.pow_zero, Int.ediv_one]
theorem dnV_succ (V : Int) (k : Nat) : dnV V (k + 1) = dnV V k / 2 := by
  unfold dnV; rw [Int.pow_succ, ← Int.ediv_ediv_of_nonneg (Int.le_of_lt (Int.pow_pos (by decide)))]
theorem half_parts (u : Int) (h0 : 0 ≤ u) (h1 : u ≤ 340282366920938463463374607431768211455) :
    u / 18446744073709551616 / 2 = u / 2 / 18446744073709551616 ∧
    u / 18446744073709551616 % 2 * 9223372036854775808 + u % 18446744073709551616 / 2 = u / 2 % 18446744073709551616 := by omega

/-- Below 64 places: p = 2^n, q = 2^(64 - n). -/
theorem shift_pq (n : Nat) (hn : n ≤ 64) : (0 : Int) < 2 ^ n ∧ (0 : Int) < 2 ^ (64 - n) ∧ (2 : Int) ^ n * 2 ^ (64 - n) = 18446744073709551616 := by
  refine ⟨Int.pow_pos (by decide), Int.pow_pos (by decide), ?_⟩
  rw [← Int.pow_add, show n + (64 - n) = 64 by omega]; decide
theorem mod_mul_le (x p q : Int) (hp : 0 < p) (hq : 0 < q) (hpq : p * q = 18446744073709551616) : x * p % 18446744073709551616 % p = 0 ∧ 0 ≤ x * p % 18446744073709551616 ∧ x * p % 18446744073709551616 ≤ 18446744073709551616 - p := by
  have e : x * p % 18446744073709551616 = x % q * p := by
    rw [← hpq, Int.mul_comm p q, Int.mul_emod_mul_of_pos_right' x q p hp]
  have m0 := Int.emod_nonneg x (Int.ne_of_gt hq)
  have m1 := Int.emod_lt_of_pos x hq
  have h2 : x % q * p ≤ (q - 1) * p := Int.mul_le_mul_of_nonneg_right (by omega) (Int.le_of_lt hp)
  rw [Int.sub_mul, Int.one_mul, Int.mul_comm q p, hpq] at h2
  rw [e]
  exact ⟨Int.mul_emod_left _ _, Int.mul_nonneg m0 (Int.le_of_lt hp), h2⟩
where
  Int.mul_emod_mul_of_pos_right' (x q p : Int) (hp : 0 < p) : x * p % (q * p) = x % q * p := by
    rw [Int.emod_def, Int.mul_ediv_mul_of_pos_left _ _ hp, Int.emod_def, Int.sub_mul]
    congr 1
    rw [Int.mul_assoc, Int.mul_assoc, Int.mul_comm p]
theorem up_low (h l : Int) (n : Nat) (hn : n < 64) (h0 : 0 ≤ h) (l0 : 0 ≤ l) (l1 : l ≤ 18446744073709551615) :
    bits .or .u64 (IntKind.u64.wrap (h * 2 ^ n)) (l / 2 ^ (64 - n)) = upV (wV h l) n / 18446744073709551616 ∧ IntKind.u64.wrap (l * 2 ^ n) = upV (wV h l) n % 18446744073709551616 := by
  obtain ⟨hp, hq, hpq⟩ := shift_pq n (by omega)
  unfold upV wV
  generalize hpe : (2 : Int) ^ n = p at *
  generalize hqe : (2 : Int) ^ (64 - n) = q at *
  obtain ⟨a1, a2, a3⟩ := mod_mul_le h p q hp hq hpq
  have d0 : 0 ≤ l / q := Int.ediv_nonneg l0 (Int.le_of_lt hq)
  have d1 : l / q < p := Int.ediv_lt_of_lt_mul hq (by rw [hpq]; omega)
  have e1 : l * p / 18446744073709551616 = l / q := by rw [← hpq, Int.mul_comm p q]; exact Int.mul_ediv_mul_of_pos_left _ _ hp
  have e2 : (h * 18446744073709551616 + l) * p = h * p * 18446744073709551616 + l * p := by rw [Int.add_mul, Int.mul_right_comm]
  rw [e2, IntKind.wrap_u64, IntKind.wrap_u64]
  have ho : bits .or .u64 (h * p % 18446744073709551616) (l / q) = h * p % 18446744073709551616 + l / q := by
    have := or_join n (h * p % 18446744073709551616) (l / q)
    rw [hpe] at this
    exact this a2 a1 d0 d1 (by omega) (by omega)
  rw [ho, ← e1]
  generalize h * p = x at *
  generalize l * p = y at *
  omega
theorem up_high (h l : Int) (m : Nat) : IntKind.u64.wrap (l * 2 ^ m) = upV (wV h l) (64 + m) / 18446744073709551616 ∧ upV (wV h l) (64 + m) % 18446744073709551616 = 0 := by
  have e : wV h l * 2 ^ (64 + m) = h * 2 ^ m * 340282366920938463463374607431768211456 + l * 2 ^ m * 18446744073709551616 := by
    unfold wV
    rw [Int.pow_add, show (2 : Int) ^ 64 = 18446744073709551616 by decide]
    generalize (2 : Int) ^ m = p
    rw [Int.add_mul, Int.mul_comm (18446744073709551616 : Int) p, ← Int.mul_assoc, ← Int.mul_assoc, Int.mul_right_comm h]
    generalize h * p = x
    generalize l * p = y
    omega
  unfold upV
  rw [e, IntKind.wrap_u64]
  generalize h * 2 ^ m = x
  generalize l * 2 ^ m = y
  omega
theorem down_high (h l : Int) (m : Nat) (h0 : 0 ≤ h) (h1 : h ≤ 18446744073709551615) (l0 : 0 ≤ l) (l1 : l ≤ 18446744073709551615) : 0 = dnV (wV h l) (64 + m) / 18446744073709551616 ∧ h / 2 ^ m = dnV (wV h l) (64 + m) % 18446744073709551616 := by
  have hp : (0 : Int) < 2 ^ m := Int.pow_pos (by decide)
  have e : dnV (wV h l) (64 + m) = h / 2 ^ m := by
    unfold dnV wV
    rw [Int.pow_add, show (2 : Int) ^ 64 = 18446744073709551616 by decide, ← Int.ediv_ediv_of_nonneg (by decide)]
    congr 1
    omega
  have a := Int.ediv_le_self (2 ^ m) h0
  have b : 0 ≤ h / 2 ^ m := Int.ediv_nonneg h0 (Int.le_of_lt hp)
  rw [e]
  omega
theorem down_low (h l : Int) (n : Nat) (hn : n ≤ 64) (h0 : 0 ≤ h) (h1 : h ≤ 18446744073709551615) (l0 : 0 ≤ l) (l1 : l ≤ 18446744073709551615) :
    h / 2 ^ n = dnV (wV h l) n / 18446744073709551616 ∧ bits .or .u64 (l / 2 ^ n) (IntKind.u64.wrap (h * 2 ^ (64 - n))) = dnV (wV h l) n % 18446744073709551616 := by
  obtain ⟨hp, hq, hpq⟩ := shift_pq n (by omega)
  unfold dnV wV
  generalize (2 : Int) ^ n = p at *
  generalize hqe : (2 : Int) ^ (64 - n) = q at *
  obtain ⟨a1, a2, a3⟩ := mod_mul_le h q p hq hp (by rw [Int.mul_comm]; exact hpq)
  have d0 : 0 ≤ l / p := Int.ediv_nonneg l0 (Int.le_of_lt hp)
  have d1 : l / p < q := Int.ediv_lt_of_lt_mul hp (by rw [Int.mul_comm, hpq]; omega)
  have e : (h * 18446744073709551616 + l) / p = l / p + h * q := by
    rw [← hpq, ← Int.mul_assoc, Int.mul_right_comm, Int.add_comm, Int.add_mul_ediv_right _ _ (Int.ne_of_gt hp)]
  have ho : bits .or .u64 (l / p) (h * q % 18446744073709551616) = l / p + h * q % 18446744073709551616 := by
    have := or_join' (64 - n) (h * q % 18446744073709551616) (l / p)
    rw [hqe] at this
    exact this a2 a1 d0 d1 (by omega) (by omega)
  have e2 : h / p = (l / p + h * q) / 18446744073709551616 := by
    rw [← hpq, Int.mul_comm p q, ← Int.ediv_ediv_of_nonneg (Int.le_of_lt hq), Int.add_mul_ediv_right _ _ (Int.ne_of_gt hq), Int.ediv_eq_zero_of_lt d0 d1, Int.zero_add]
  rw [e, IntKind.wrap_u64, ho]
  refine ⟨e2, ?_⟩
  generalize h * q = x at *
  generalize l / p = y at *
  omega
theorem pow_split (k : Nat) (hk : k ≤ 128) : (2 : Int) ^ k * 2 ^ (128 - k) = 340282366920938463463374607431768211456 := by
  rw [← Int.pow_add, show k + (128 - k) = 128 by omega]; decide
theorem up_eq (V : Int) (k : Nat) (hk : k ≤ 128) : upV V k = V % 2 ^ (128 - k) * 2 ^ k := by
  unfold upV
  rw [← pow_split k hk, Int.mul_comm ((2 : Int) ^ k)]
  exact mod_mul_le.Int.mul_emod_mul_of_pos_right' V _ _ (Int.pow_pos (by decide))
theorem up_back (V : Int) (k : Nat) (hk : k ≤ 128) : upV (dnV (upV V k) k) k = upV V k := by
  have hp : (0 : Int) < 2 ^ k := Int.pow_pos (by decide)
  have hq : (0 : Int) < 2 ^ (128 - k) := Int.pow_pos (by decide)
  have e : dnV (upV V k) k = V % 2 ^ (128 - k) := by
    rw [up_eq V k hk]; unfold dnV; exact Int.mul_ediv_cancel _ (Int.ne_of_gt hp)
  rw [e, up_eq _ k hk, up_eq V k hk, Int.emod_emod_of_dvd _ (Int.dvd_refl _)]
theorem wV_parts (u : Int) : wV (u / 18446744073709551616) (u % 18446744073709551616) = u := by unfold wV; omega
end Go.Proofs.YtgkgacmphafieaaDoor
