/- Contracts of dbl.order, dbl.Cmp and the reference's CmpBits, and the walk of DblCmps. No condition. -/
import Derived.Test.YtpbfbgkiamfodaaDbl
namespace Go.Proofs.Ytpbfbgkiamfodaa
open Go.RowKit

/-- A number that rises with the double. -/
def dOrd (b : Int) : Int := if 9223372036854775808 ≤ b then -(b - 9223372036854775808) else b
def cmpI (x y : Int) : Int := if x < y then -1 else if y < x then 1 else 0
def dOk (a b : Int) : Bool := !(dKind a == 4) && !(dKind b == 4)
def dCmp (a b : Int) : Int := if dOk a b then cmpI (dOrd a) (dOrd b) else 0

theorem ret_int {k : IntKind} {a b : Int} (h : a = b) : Ending.returned (.int k a) = .returned (.int k b) := by rw [h]
theorem ret_ib {k : IntKind} {a b : Int} {p q : Bool} (h : a = b) (h' : p = q) : Ending.returned (.tuple #[.int k a, .bool p]) = .returned (.tuple #[.int k b, .bool q]) := by rw [h, h']

set_option maxHeartbeats 400000 in
theorem dblOrder_any (b : Int) (h0 : 0 ≤ b) (h1 : b ≤ 18446744073709551615) (w : World) :
    Calls Try.prog 23 #[.int .u64 b] w fun e w' => e = .returned (.int .i64 (dOrd b)) ∧ w = w' := by
  have e1 : bits .andNot .u64 b 9223372036854775808 = b % 9223372036854775808 := by
    obtain ⟨n, rfl⟩ := Int.eq_ofNat_of_zero_le h0
    have h := u64_andNot_nat n 9223372036854775808 (by omega) (by omega)
    have h2 : n &&& (18446744073709551615 - 9223372036854775808) = n % 9223372036854775808 := Nat.and_two_pow_sub_one_eq_mod n 63
    rw [h2] at h
    exact h
  by_cases hb : 9223372036854775808 ≤ b
  · have hb1 : b / 9223372036854775808 = 1 := by omega
    have q1 := beq_t hb1
    have HB := Lib.hid hb
    have e2 : dOrd b = -(b % 9223372036854775808) := by unfold dOrd; rw [if_pos hb]; omega
    have E2 := Lib.hid e2
    clear hb hb1 e2
    go_enter Try.func23, Try.ntmps23
    go_wp2_with fail
    go_ret
    exact ⟨ret_int (by rw [E2.out]), rfl⟩
  · have hb1 : ¬ b / 9223372036854775808 = 1 := by omega
    have q1 := beq_f hb1
    have e2 : dOrd b = b % 9223372036854775808 := by unfold dOrd; rw [if_neg hb]; omega
    have E2 := Lib.hid e2
    clear hb hb1 e2
    go_enter Try.func23, Try.ntmps23
    go_wp2_with fail
    go_ret
    exact ⟨ret_int (by rw [E2.out]), rfl⟩

theorem dOrd_bd (b : Int) (h0 : 0 ≤ b) (h1 : b ≤ 18446744073709551615) : -9223372036854775807 ≤ dOrd b ∧ dOrd b ≤ 9223372036854775807 := by
  unfold dOrd; split <;> omega

set_option maxHeartbeats 1000000 in
theorem dblCmp_any (a b : Int) (ha0 : 0 ≤ a) (ha1 : a ≤ 18446744073709551615) (hb0 : 0 ≤ b) (hb1 : b ≤ 18446744073709551615) (w : World) :
    Calls Try.prog 14 #[.int .u64 a, .int .u64 b] w fun e w' => e = .returned (.tuple #[.int .i64 (dCmp a b), .bool (dOk a b)]) ∧ w = w' := by
  have e0 : dCmp a b = if dOk a b then cmpI (dOrd a) (dOrd b) else 0 := rfl
  have E0 := Lib.hid e0
  clear e0
  go_enter Try.func14, Try.ntmps14
  go_wp2_with fail
  refine (dblSplit_any _ ha0 ha1 _).mono ?_
  rintro e w' ⟨rfl, rfl⟩
  go_wp2_with fail
  refine (dblSplit_any _ hb0 hb1 _).mono ?_
  rintro e w' ⟨rfl, rfl⟩
  by_cases hj : dKind a = 4
  · have q1 := beq_t hj
    have HJ := Lib.hid hj
    clear hj
    go_wp2_with fail
    go_ret2
    exact ⟨ret_ib (by rw [E0.out]; simp [dOk, HJ.out]) (by simp [dOk, HJ.out]), rfl⟩
  · have q1 := beq_f hj
    have HJ := Lib.hid hj
    clear hj
    by_cases hk : dKind b = 4
    · have q2 := beq_t hk
      have HK := Lib.hid hk
      clear hk
      go_wp2_with fail
      go_ret2
      exact ⟨ret_ib (by rw [E0.out]; simp [dOk, HK.out]) (by simp [dOk, HK.out]), rfl⟩
    · have q2 := beq_f hk
      have HK := Lib.hid hk
      clear hk
      have e3 : dOk a b = true := by simp [dOk, HJ.out, HK.out]
      have E3 := Lib.hid e3
      clear e3
      go_wp2_with (first | (go_at_call_of 23 (Value.int .u64 a); refine (dblOrder_any a ha0 ha1 _).mono ?_; rintro e w' ⟨rfl, rfl⟩) | (go_at_call_of 23 (Value.int .u64 b); refine (dblOrder_any b hb0 hb1 _).mono ?_; rintro e w' ⟨rfl, rfl⟩))
      all_goals go_ret2
      all_goals exact ⟨ret_ib (by rw [E0.out, E3.out, if_pos rfl]; unfold cmpI; split <;> (try split) <;> omega) (by rw [E3.out]), rfl⟩
end Go.Proofs.Ytpbfbgkiamfodaa
