/- The pattern of a number, as plain arithmetic: the odd part, its length. No program. -/
import Derived.Lib.TrailingZeros
import Derived.Lib.ItoaNum
import Derived.Lib.Hide
import Derived.WalkKit
namespace Go.Proofs.YtpbfbgkiamfodaaDoor
open Go.RowKit

/-- m is o * 2^k, o odd and l digits of 2 long. -/
structure Od (m o k l : Nat) : Prop where
  eq : m = o * 2 ^ k
  odd : o % 2 = 1
  lo : 2 ^ (l - 1) ≤ o
  hi : o < 2 ^ l
  l1 : 1 ≤ l
  kl : k + l ≤ 64
theorem od_k {m o k l : Nat} (h : Od m o k l) : k ≤ 63 := by have := h.kl; have := h.l1; omega
theorem od_l {m o k l : Nat} (h : Od m o k l) : l ≤ 64 := by have := h.kl; omega

theorem od_of (m : Nat) (h0 : 0 < m) (h1 : m < 18446744073709551616) : Od m (m / 2 ^ Lib.ctz 64 m) (Lib.ctz 64 m) (Lib.bitLen (m / 2 ^ Lib.ctz 64 m)) := by
  have hz : ¬ m = 0 := by omega
  have e : Lib.ctz 64 m = Lib.ctzFrom 64 m := by unfold Lib.ctz; rw [if_neg hz]
  obtain ⟨q, hq, hk⟩ := Lib.ctzFrom_spec 64 m h0 (by omega)
  rw [← e] at hq hk
  generalize Lib.ctz 64 m = k at *
  have hp := Nat.two_pow_pos k
  have ho : m / 2 ^ k = 2 * q + 1 := by rw [hq, Nat.mul_div_cancel_left _ hp]
  rw [ho]
  have hlt : 2 * q + 1 < 2 ^ 64 := by
    have := Nat.div_le_self m (2 ^ k)
    rw [ho] at this
    omega
  obtain ⟨b1, b2, b3⟩ := Lib.bitLenAux_bounds 64 (2 * q + 1) hlt (by omega)
  have eL : Lib.bitLenAux 64 (2 * q + 1) = Lib.bitLen (2 * q + 1) := rfl
  rw [eL] at b1 b2 b3
  generalize Lib.bitLen (2 * q + 1) = l at *
  refine ⟨by rw [Nat.mul_comm]; exact hq, by omega, b2, b3, b1, ?_⟩
  have h2 : 2 ^ (k + (l - 1)) < 2 ^ 64 := by
    rw [Nat.pow_add]
    have := Nat.mul_le_mul_left (2 ^ k) b2
    omega
  have := (Nat.pow_lt_pow_iff_right (a := 2) (by decide)).1 h2
  omega

/-- The odd part is one. -/
theorem odd_one {o p : Nat} {i j : Nat} (h : o * 2 ^ i = p * 2 ^ j) (ho : o % 2 = 1) (hp : p % 2 = 1) : o = p ∧ i = j := by
  have key : ∀ (i j : Nat), i ≤ j → ∀ o p : Nat, o * 2 ^ i = p * 2 ^ j → o % 2 = 1 → o = p ∧ i = j := by
    intro i j hij o p h ho
    obtain ⟨d, rfl⟩ : ∃ d, j = i + d := ⟨j - i, by omega⟩
    rw [Nat.pow_add, Nat.mul_comm (2 ^ i), ← Nat.mul_assoc] at h
    have h1 := Nat.eq_of_mul_eq_mul_right (Nat.two_pow_pos i) h
    cases d with
    | zero => simp at h1; exact ⟨h1, rfl⟩
    | succ d => rw [Nat.pow_succ, ← Nat.mul_assoc] at h1; omega
  rcases Nat.le_total i j with hij | hij
  · exact key i j hij o p h ho
  · obtain ⟨a, b⟩ := key j i hij p o h.symm hp
    exact ⟨a.symm, b.symm⟩

/-- The pattern without its sign of o * 2^(e + k), o being l digits long; none: there is none. -/
def jMag (o k l : Nat) (e : Int) : Option Int :=
  if 53 < l ∨ e + k < -1074 ∨ 1024 < e + k + l then none
  else if e + k + l < -1021 then some ((o : Int) * 2 ^ (e + k + 1074).toNat)
  else some ((e + k + l + 1022) * 4503599627370496 + ((o : Int) * 2 ^ (53 - l) - 4503599627370496))
def sgnB (n : Bool) : Int := if n then 9223372036854775808 else 0
def jBits (n : Bool) (r : Option Int) : Int := match r with | none => 0 | some v => sgnB n + v

theorem pow_int (k : Nat) : ((2 ^ k : Nat) : Int) = (2 : Int) ^ k := by rw [Int.natCast_pow]; rfl

theorem od_norm {m o k l : Nat} (h : Od m o k l) (hl : l ≤ 53) : 4503599627370496 ≤ o * 2 ^ (53 - l) ∧ o * 2 ^ (53 - l) < 9007199254740992 := by
  have h1 := Nat.mul_le_mul_right (2 ^ (53 - l)) h.lo
  have h2 := Nat.mul_lt_mul_of_pos_right h.hi (Nat.two_pow_pos (53 - l))
  rw [← Nat.pow_add] at h1 h2
  have l1 := h.l1
  rw [show l - 1 + (53 - l) = 52 from by omega] at h1
  rw [show l + (53 - l) = 53 from by omega] at h2
  exact ⟨h1, h2⟩
theorem od_sub {m o k l : Nat} (h : Od m o k l) {t : Nat} (ht : l + t ≤ 52) : o * 2 ^ t < 4503599627370496 := by
  have h2 := Nat.mul_lt_mul_of_pos_right h.hi (Nat.two_pow_pos t)
  rw [← Nat.pow_add] at h2
  have h3 : 2 ^ (l + t) ≤ 2 ^ 52 := Nat.pow_le_pow_right (by decide) ht
  omega
theorem od_small {m o k l : Nat} (h : Od m o k l) (hl : l ≤ 53) : o < 9007199254740992 := by
  have h1 := h.hi
  have h2 : 2 ^ l ≤ 2 ^ 53 := Nat.pow_le_pow_right (by decide) hl
  omega
theorem od_big {m o k l : Nat} (h : Od m o k l) (hl : 53 < l) : 9007199254740992 ≤ o := by
  have h1 := h.lo
  have h2 : 2 ^ 53 ≤ 2 ^ (l - 1) := Nat.pow_le_pow_right (by decide) (by omega)
  omega
/-- A multiple of o that is a whole pattern's part is the one of 53 digits. -/
theorem od_full {m o k l j : Nat} (h : Od m o k l) (h1 : 4503599627370496 ≤ o * 2 ^ j) (h2 : o * 2 ^ j < 9007199254740992) : l + j = 53 := by
  have a1 := Nat.mul_le_mul_right (2 ^ j) h.lo
  have a2 := Nat.mul_lt_mul_of_pos_right h.hi (Nat.two_pow_pos j)
  rw [← Nat.pow_add] at a1 a2
  have l1 := h.l1
  have b1 : 2 ^ (l - 1 + j) < 2 ^ 53 := by omega
  have b2 : 2 ^ 52 < 2 ^ (l + j) := by omega
  have c1 := (Nat.pow_lt_pow_iff_right (a := 2) (by decide)).1 b1
  have c2 := (Nat.pow_lt_pow_iff_right (a := 2) (by decide)).1 b2
  omega
theorem od_less {m o k l j : Nat} (h : Od m o k l) (h1 : o * 2 ^ j < 4503599627370496) : l + j ≤ 52 := by
  have a1 := Nat.mul_le_mul_right (2 ^ j) h.lo
  rw [← Nat.pow_add] at a1
  have l1 := h.l1
  have b1 : 2 ^ (l - 1 + j) < 2 ^ 52 := by omega
  have c1 := (Nat.pow_lt_pow_iff_right (a := 2) (by decide)).1 b1
  omega
end Go.Proofs.YtpbfbgkiamfodaaDoor
