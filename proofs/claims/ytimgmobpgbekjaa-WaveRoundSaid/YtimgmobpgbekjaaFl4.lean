/- Doubles made of integers beyond 2^53: whole numbers still, and not below 2^53. No program. -/
import Derived.Test.YtimgmobpgbekjaaFl3
namespace Go.Proofs.Ytimgmobpgbekjaa.Fl
open Go.RowKit Ieee
theorem cut_near (neg : Bool) (n d : Nat) (hd : d ≤ n.log2 + 2) : n / 2 ^ d ≤ Toward.even.cut neg n d ∧ Toward.even.cut neg n d ≤ n / 2 ^ d + 1 := by
  unfold Toward.cut
  rw [Nat.min_eq_left hd, Nat.one_shiftLeft]
  simp only
  generalize (decide (2 ^ d < 2 * (n % 2 ^ d)) || (2 ^ d == 2 * (n % 2 ^ d) && n / 2 ^ d % 2 == 1)) = b
  cases b <;> simp
theorem log2_range {m : Nat} (h1 : 9007199254740992 ≤ m) (h2 : m < 18446744073709551616) : 53 ≤ m.log2 ∧ m.log2 ≤ 63 := by
  have hm : m ≠ 0 := by omega
  constructor
  · exact (Nat.le_log2 hm).2 h1
  · have := (Nat.log2_lt (k := 64) hm).2 h2
    omega
theorem rep_number {x : Nat} {s : Bool} {q d : Nat} (h : double.read x = .number s q (d : Int)) (hd : d ≤ 900) : Rep x (sg s (q * 2 ^ d)) := by
  refine ⟨s, q, d, h, by omega, by omega, ?_⟩
  have hK := K_is
  have e : ((d : Int) + K).toNat = d + K := by omega
  unfold sc
  rw [e, Nat.pow_add, ← Nat.mul_assoc]
  exact sg_cast s (q * 2 ^ d) K
theorem place_back (D : Nat) : -1074 + ((D + 1074 : Nat) : Int) = (D : Int) := by omega
theorem carry_rung (C D q : Nat) (h : q = C + C) : (D + 1074) * C + q = (D + 1 + 1074) * C + C := by
  subst h
  grind
theorem nearest_big (neg : Bool) (mag : Nat) (h1 : 9007199254740992 ≤ mag) (h2 : mag < 18446744073709551616) :
    ∃ q d : Nat, double.read (double.nearest neg mag 0) = .number neg q (d : Int) ∧ 1 ≤ d ∧ d ≤ 12 ∧ 4503599627370496 ≤ q := by
  obtain ⟨l1, l2⟩ := log2_range h1 h2
  have hm : mag ≠ 0 := by omega
  have hl := Nat.log2_self_le hm
  have hl2 : mag < 2 ^ (mag.log2 + 1) := Nat.lt_log2_self
  unfold Format.nearest
  rw [if_neg hm]
  have hfb : (double.fractionBits : Int) = 52 := rfl
  simp only [lp, bin, infr, hfb]
  have hlast : max ((0 : Int) + mag.log2 - 52) (-1074) = ((mag.log2 - 52 : Nat) : Int) := by omega
  rw [hlast]
  have e1 : ((0 : Int) - ((mag.log2 - 52 : Nat) : Int)).toNat = 0 := by omega
  have e2 : (((mag.log2 - 52 : Nat) : Int) - 0).toNat = mag.log2 - 52 := by omega
  have e3 : (((mag.log2 - 52 : Nat) : Int) - -1074).toNat = mag.log2 - 52 + 1074 := by omega
  rw [e1, e2, e3, Nat.shiftLeft_zero]
  obtain ⟨c1, c2⟩ := cut_near neg mag (mag.log2 - 52) (by omega)
  generalize hL : mag.log2 = L at *
  obtain ⟨D, hD⟩ : ∃ D, L - 52 = D := ⟨_, rfl⟩
  have hDL : L = D + 52 := by omega
  rw [hD] at c1 c2 ⊢
  have q1 : 4503599627370496 ≤ mag / 2 ^ D := by
    rw [Nat.le_div_iff_mul_le (Nat.two_pow_pos D)]
    have : (4503599627370496 : Nat) * 2 ^ D = 2 ^ L := by rw [show (4503599627370496 : Nat) = 2 ^ 52 from rfl, ← Nat.pow_add]; congr 1; omega
    omega
  have q2 : mag / 2 ^ D < 9007199254740992 := by
    rw [Nat.div_lt_iff_lt_mul (Nat.two_pow_pos D)]
    have : (9007199254740992 : Nat) * 2 ^ D = 2 ^ (L + 1) := by rw [show (9007199254740992 : Nat) = 2 ^ 53 from rfl, ← Nat.pow_add]; congr 1; omega
    omega
  generalize Toward.even.cut neg mag D = q at *
  by_cases hq : q < 9007199254740992
  · obtain ⟨hi1, hi2, r3, r4⟩ := rung_facts (D + 1074) q (by omega) (by omega) hq
    rw [Nat.min_eq_left (Nat.le_of_lt hi2), read_high neg _ hi1 hi2, r3, r4]
    exact ⟨q, D, by rw [place_back], by omega, by omega, by omega⟩
  · have hq2 : q = 9007199254740992 := by omega
    obtain ⟨hi1, hi2, r3, r4⟩ := rung_facts (D + 1 + 1074) 4503599627370496 (by omega) (by omega) (by omega)
    have e4 := carry_rung 4503599627370496 D q hq2
    rw [e4, Nat.min_eq_left (Nat.le_of_lt hi2), read_high neg _ hi1 hi2, r3, r4]
    exact ⟨4503599627370496, D + 1, by rw [place_back], by omega, by omega, Nat.le_refl _⟩
theorem rep_big (n : Int) (h1 : 9007199254740992 ≤ n.natAbs) (h2 : n.natAbs < 18446744073709551616) : ∃ m, Rep (floatOfInt .f64 n) m ∧ 9007199254740992 ≤ m.natAbs := by
  obtain ⟨q, d, hr, d1, d2, hq⟩ := nearest_big (decide (n < 0)) n.natAbs h1 h2
  refine ⟨_, rep_number (x := floatOfInt .f64 n) hr (by omega), ?_⟩
  rw [sg_abs]
  have h3 : 2 ^ 1 ≤ 2 ^ d := Nat.pow_le_pow_right (by decide) d1
  have h4 := Nat.mul_le_mul hq h3
  omega
/-- A double made of whatever 64-bit integer: a whole number; the integer itself below 2^53, beyond 2^53 not below 2^53. -/
theorem rep_any (n : Int) (h0 : -9223372036854775808 ≤ n) (h1 : n ≤ 9223372036854775807) : ∃ m, Rep (floatOfInt .f64 n) m ∧ (m = n ∨ (9007199254740992 ≤ m.natAbs ∧ 9007199254740992 ≤ n.natAbs)) := by
  by_cases h : n.natAbs < 9007199254740992
  · exact ⟨n, rep_ofInt n h, .inl rfl⟩
  · obtain ⟨m, hm, hm2⟩ := rep_big n (by omega) (by omega)
    exact ⟨m, hm, .inr ⟨hm2, by omega⟩⟩
end Go.Proofs.Ytimgmobpgbekjaa.Fl
