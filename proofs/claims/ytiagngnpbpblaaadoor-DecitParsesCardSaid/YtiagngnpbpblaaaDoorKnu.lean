/- Plain laws of Knuth's division, a digit of 2^32 at a time. No program. -/
import Derived.Lib.ItoaNum
namespace Go.Proofs.YtiagngnpbpblaaaDoor
set_option linter.unusedSimpArgs false
set_option linter.unusedVariables false

/-- What a loop's rounds keep: q is not below the digit, r is what q leaves of the upper part. -/
theorem knu_y {Y yn1 yn0 q A B : Int} (hY : Y = yn1 * 4294967296 + yn0) (hA : A = q * yn1) (hB : B = q * yn0) : q * Y = A * 4294967296 + B := by
  subst hA hB hY
  rw [Int.mul_add, ← Int.mul_assoc]
theorem knu_small {u v Y Q : Int} (hY : 0 < Y) (hu : u < Y) (hv : v < 4294967296) (h1 : Q * Y ≤ u * 4294967296 + v) : Q < 4294967296 := by
  refine Int.lt_of_not_ge fun h => ?_
  have := Int.mul_le_mul_of_nonneg_right h (Int.le_of_lt hY)
  omega
theorem knu_le {Y q Q N : Int} (hY : 0 < Y) (h1 : N < Q * Y + Y) (h : q * Y ≤ N) : q ≤ Q := by
  refine Int.le_of_not_gt fun hg => ?_
  have := Int.mul_le_mul_of_nonneg_right (show Q + 1 ≤ q from hg) (Int.le_of_lt hY)
  rw [Int.add_mul, Int.one_mul] at this
  omega
theorem knu_lt {Y q Q N : Int} (hY : 0 < Y) (h1 : Q * Y ≤ N) (h : N < q * Y) : Q < q := by
  refine Int.lt_of_not_ge fun hg => ?_
  have := Int.mul_le_mul_of_nonneg_right hg (Int.le_of_lt hY)
  omega
theorem knu_exit {u v Y yn1 yn0 q r A B Q : Int} (hY : Y = yn1 * 4294967296 + yn0) (hY0 : 0 < Y) (hA : A = q * yn1) (hB : B = q * yn0) (hr : r = u - A)
    (hQ : Q ≤ q) (hQ2 : u * 4294967296 + v < Q * Y + Y) (hle : B ≤ 4294967296 * r + v) : q = Q := by
  have e := knu_y hY hA hB
  have := knu_le (q := q) hY0 hQ2 (by omega)
  omega
theorem knu_down1 {u v Y q Q : Int} (hY0 : 0 < Y) (hu : u < Y) (hv : v < 4294967296) (hQ1 : Q * Y ≤ u * 4294967296 + v) (hq : 4294967296 ≤ q) : Q ≤ q - 1 := by
  have := knu_small hY0 hu hv hQ1
  omega
theorem knu_down2 {u v Y yn1 yn0 q r A B Q : Int} (hY : Y = yn1 * 4294967296 + yn0) (hY0 : 0 < Y) (hA : A = q * yn1) (hB : B = q * yn0) (hr : r = u - A)
    (hQ1 : Q * Y ≤ u * 4294967296 + v) (hgt : 4294967296 * r + v < B) : Q ≤ q - 1 := by
  have e := knu_y hY hA hB
  have := knu_lt (q := q) hY0 hQ1 (by omega)
  omega
theorem knu_break {u v Y yn1 yn0 q r Q : Int} (hY : Y = yn1 * 4294967296 + yn0) (hY0 : 0 < Y) (hy0 : 0 ≤ yn0) (hy0' : yn0 < 4294967296) (hy1 : 0 ≤ yn1) (hv : 0 ≤ v) (hu : u < Y)
    (hr : r = u - q * yn1) (hr1 : 4294967296 ≤ r) (hQ : Q ≤ q) (hq0 : 0 ≤ q) (hQ2 : u * 4294967296 + v < Q * Y + Y) : q = Q := by
  have hq : q < 4294967296 := by
    refine Int.lt_of_not_ge fun h => ?_
    have := Int.mul_le_mul_of_nonneg_right h hy1
    omega
  have hB : q * yn0 ≤ 4294967296 * 4294967296 := Int.mul_le_mul (by omega) (by omega) hy0 (by omega)
  exact knu_exit hY hY0 rfl rfl hr hQ hQ2 (by omega)
theorem knu_step {u q yn1 r : Int} (hr : r = u - q * yn1) : r + yn1 = u - (q - 1) * yn1 := by
  rw [Int.sub_mul, Int.one_mul]; omega
theorem knu_B {q y : Int} (hq0 : 0 ≤ q) (hq : q < 4294967296) (hy0 : 0 ≤ y) (hy : y < 4294967296) : 0 ≤ q * y ∧ q * y ≤ 18446744065119617025 := by
  refine ⟨Int.mul_nonneg hq0 hy0, ?_⟩
  have := Int.mul_le_mul (show q ≤ 4294967295 by omega) (show y ≤ 4294967295 by omega) hy0 (by omega)
  simpa using this
/-- The start: q = u / yn1 is not below the digit. -/
theorem knu_start {u v Y yn1 yn0 Q : Int} (hY : Y = yn1 * 4294967296 + yn0) (hy0 : 0 ≤ yn0) (hy1 : 0 < yn1) (hv : v < 4294967296) (hQ0 : 0 ≤ Q)
    (hQ1 : Q * Y ≤ u * 4294967296 + v) : Q ≤ u / yn1 := by
  rw [Int.le_ediv_iff_mul_le hy1]
  have e := knu_y (q := Q) hY rfl rfl
  have := Int.mul_nonneg hQ0 hy0
  omega
theorem knu_start_le {u yn1 : Int} (hu : u < 18446744073709551616) (hu0 : 0 ≤ u) (hy1 : 2147483648 ≤ yn1) : u / yn1 ≤ 8589934592 := by
  refine Int.ediv_le_of_le_mul (by omega) ?_
  have := Int.mul_le_mul_of_nonneg_left hy1 (show (0 : Int) ≤ 8589934592 by decide)
  omega
theorem knu_Q {N Y : Int} (hY : 0 < Y) (hN : 0 ≤ N) : 0 ≤ N / Y ∧ (N / Y) * Y ≤ N ∧ N < (N / Y) * Y + Y ∧ N - (N / Y) * Y = N % Y := by
  have h1 := Int.emod_nonneg N (show Y ≠ 0 by omega)
  have h2 := Int.emod_lt_of_pos N hY
  have h3 := Int.emod_add_mul_ediv N Y
  rw [Int.mul_comm] at h3
  refine ⟨Int.ediv_nonneg hN (by omega), by omega, by omega, by omega⟩
/-- Both digits together: the quotient and the remainder of hi * 2^64 + lo. -/
theorem knu_both {U n1 n0 Y : Int} (hY : 0 < Y) (hU : 0 ≤ U) (h1 : 0 ≤ n1) (h0 : 0 ≤ n0) :
    (U * 4294967296 + n1) / Y * 4294967296 + ((U * 4294967296 + n1) % Y * 4294967296 + n0) / Y = (U * 18446744073709551616 + n1 * 4294967296 + n0) / Y ∧
    ((U * 4294967296 + n1) % Y * 4294967296 + n0) % Y = (U * 18446744073709551616 + n1 * 4294967296 + n0) % Y := by
  have e := Int.emod_add_mul_ediv (U * 4294967296 + n1) Y
  generalize (U * 4294967296 + n1) / Y = a at *
  generalize (U * 4294967296 + n1) % Y = r at *
  have e2 : U * 18446744073709551616 + n1 * 4294967296 + n0 = (r * 4294967296 + n0) + Y * (a * 4294967296) := by
    rw [← Int.mul_assoc]; omega
  rw [e2, Int.add_mul_ediv_left _ _ (by omega), Int.add_mul_emod_self_left]
  exact ⟨by omega, rfl⟩
/-- A quotient and a remainder do not turn by a common factor. -/
theorem knu_scale {N y p : Int} (hp : 0 < p) : N * p / (y * p) = N / y ∧ N * p % (y * p) = N % y * p := by
  constructor
  · rw [Int.mul_ediv_mul_of_pos_left _ _ hp]
  · rw [Int.emod_def, Int.mul_ediv_mul_of_pos_left _ _ hp, Int.emod_def, Int.sub_mul]
    congr 1
    rw [Int.mul_assoc, Int.mul_assoc, Int.mul_comm p]
end Go.Proofs.YtiagngnpbpblaaaDoor
