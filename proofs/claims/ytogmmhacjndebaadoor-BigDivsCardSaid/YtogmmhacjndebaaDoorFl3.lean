/- Doubles that are whole: signs turned, products of complex numbers, constants. Plain arithmetic over the kit's Ieee core; no program in sight. No condition. -/
import Derived.Test.YtogmmhacjndebaaDoorFl2
namespace Go.Proofs.YtogmmhacjndebaaDoor.Fl
open Ieee

theorem xor63 (y : Nat) : (y ^^^ 9223372036854775808) % 9223372036854775808 = y % 9223372036854775808 ∧ (y ^^^ 9223372036854775808) / 9223372036854775808 % 2 = 1 - y / 9223372036854775808 % 2 := by
  have h63 : (9223372036854775808 : Nat) = 2 ^ 63 := by decide
  rw [h63]
  constructor
  · rw [Nat.xor_mod_two_pow, Nat.mod_self, Nat.xor_zero]
  · rw [← Nat.shiftRight_eq_div_pow, ← Nat.shiftRight_eq_div_pow, Nat.shiftRight_xor_distrib]
    have h1 : (2 ^ 63 : Nat) >>> 63 = 1 := by decide
    rw [h1]
    generalize y >>> 63 = z
    have hx : (z ^^^ 1) % 2 = (z % 2) ^^^ (1 % 2) := by
      have := Nat.xor_mod_two_pow (a := z) (b := 1) (n := 1)
      simpa using this
    rw [hx]
    have hz : z % 2 = 0 ∨ z % 2 = 1 := by omega
    rcases hz with hz | hz <;> rw [hz] <;> decide

theorem read_neg {y : Nat} {s : Bool} {m : Nat} {i : Int} (h : double.read y = .number s m i) : double.read (Op.negFloat .f64 y) = .number (!s) m i := by
  have e : Op.negFloat .f64 y = y ^^^ 9223372036854775808 := rfl
  rw [e]
  obtain ⟨h1, h2⟩ := xor63 y
  unfold Format.read at h ⊢
  simp only [sw, bin, lp, infr] at h ⊢
  rw [h1, h2]
  have hp : y / 9223372036854775808 % 2 = 0 ∨ y / 9223372036854775808 % 2 = 1 := by omega
  split at h
  · rename_i hc
    rw [if_pos hc]
    injection h with h3 h4 h5
    rw [← h3, h4, h5]
    rcases hp with hp | hp <;> rw [hp] <;> rfl
  · rename_i hc
    rw [if_neg hc]
    split at h
    · rename_i hd
      rw [if_pos hd]
      injection h with h3 h4 h5
      rw [← h3, h4, h5]
      rcases hp with hp | hp <;> rw [hp] <;> rfl
    · split at h <;> cases h

theorem neg_rep {y : Nat} {b : Int} (hy : Rep y b) : Rep (Op.negFloat .f64 y) (-b) := by
  obtain ⟨s, m, i, hr, h1, h2, h3⟩ := hy
  refine ⟨!s, m, i, read_neg hr, h1, h2, ?_⟩
  rw [Int.neg_mul, ← h3]
  unfold sg
  cases s <;> simp

theorem cmul_rep {x y u v : Nat} {a b c d : Int} (hx : Rep x a) (hy : Rep y b) (hu : Rep u c) (hv : Rep v d)
    (h1 : (a * c).natAbs < 9007199254740992) (h2 : (b * d).natAbs < 9007199254740992) (h3 : (a * c - b * d).natAbs < 9007199254740992)
    (h4 : (a * d).natAbs < 9007199254740992) (h5 : (b * c).natAbs < 9007199254740992) (h6 : (a * d + b * c).natAbs < 9007199254740992) :
    ∃ re im, cMulBits x y u v = some (re, im) ∧ Rep re (a * c - b * d) ∧ Rep im (a * d + b * c) := by
  obtain ⟨r1, e1, p1⟩ := mul_rep hx hu h1
  obtain ⟨r2, e2, p2⟩ := mul_rep hy hv h2
  obtain ⟨r3, e3, p3⟩ := sub_rep p1 p2 h3
  obtain ⟨r4, e4, p4⟩ := mul_rep hx hv h4
  obtain ⟨r5, e5, p5⟩ := mul_rep hy hu h5
  obtain ⟨r6, e6, p6⟩ := add_rep p4 p5 h6
  refine ⟨r3, r6, ?_, p3, p6⟩
  unfold cMulBits
  rw [e1, e2, e4, e5]
  simp only [Option.bind_some]
  rw [e3, e6]
  rfl

theorem mul_bound {a b : Int} {A B : Nat} (ha : a.natAbs ≤ A) (hb : b.natAbs ≤ B) : (a * b).natAbs ≤ A * B := by
  rw [Int.natAbs_mul]; exact Nat.mul_le_mul ha hb

theorem rep0 : Rep 0 0 := rep_zero false
theorem rep1 : Rep 4607182418800017408 1 := by
  have h := rep_ofInt 1 (by decide)
  have e : floatOfInt .f64 1 = 4607182418800017408 := by decide +kernel
  rwa [e] at h
theorem rep1n : Rep 13830554455654793216 (-1) := by
  have h := rep_ofInt (-1) (by decide)
  have e : floatOfInt .f64 (-1) = 13830554455654793216 := by decide +kernel
  rwa [e] at h
theorem rep25 : Rep 4719772409484279808 33554432 := by
  have h := rep_ofInt 33554432 (by decide)
  have e : floatOfInt .f64 33554432 = 4719772409484279808 := by decide +kernel
  rwa [e] at h
theorem rep52 : Rep 4841369599423283200 4503599627370496 := by
  have h := rep_ofInt 4503599627370496 (by decide)
  have e : floatOfInt .f64 4503599627370496 = 4841369599423283200 := by decide +kernel
  rwa [e] at h
theorem neg25 : Op.negFloat .f64 4719772409484279808 = 13943144446339055616 := by decide +kernel
theorem neg52 : Op.negFloat .f64 4841369599423283200 = 14064741636278059008 := by decide +kernel
theorem rep25n : Rep 13943144446339055616 (-33554432) := by rw [← neg25]; exact neg_rep rep25
theorem rep52n : Rep 14064741636278059008 (-4503599627370496) := by rw [← neg52]; exact neg_rep rep52
end Go.Proofs.YtogmmhacjndebaaDoor.Fl
