/- The reference's CmpBits tells the same as dbl.Cmp; the walks of DblCmps and DblOrder. No condition. -/
import Derived.Test.YtpbfbgkiamfodaaDblCmp
namespace Go.Proofs.Ytpbfbgkiamfodaa
open Go.RowKit

set_option maxHeartbeats 1000000 in
theorem cmpBits_any (a b : Int) (ha0 : 0 ≤ a) (ha1 : a ≤ 18446744073709551615) (hb0 : 0 ≤ b) (hb1 : b ≤ 18446744073709551615) (w : World) :
    Calls Try.prog 15 #[.int .u64 a, .int .u64 b] w fun e w' => e = .returned (.tuple #[.int .i64 (dCmp a b), .bool (dOk a b)]) ∧ w = w' := by
  have e0 : dCmp a b = if dOk a b then cmpI (dOrd a) (dOrd b) else 0 := rfl
  have E0 := Lib.hid e0
  have p1 : IntKind.u64.wrap (a * 2) / 2 = a % 9223372036854775808 := by rw [IntKind.wrap_u64]; omega
  have p2 : IntKind.u64.wrap (b * 2) / 2 = b % 9223372036854775808 := by rw [IntKind.wrap_u64]; omega
  clear e0
  go_enter Try.func15, Try.ntmps15
  go_wp2_with fail
  refine (refSplit_any _ ha0 ha1 _).mono ?_
  rintro e w' ⟨rfl, rfl⟩
  go_wp2_with fail
  refine (refSplit_any _ hb0 hb1 _).mono ?_
  rintro e w' ⟨rfl, rfl⟩
  by_cases hj : dKind a = 4
  · have q1 := beq_t hj
    have HJ := Lib.hid hj
    clear hj
    go_wp2_with fail
    go_ret2
    exact ⟨ret_ib (by rw [E0.out]; simp [dOk, HJ.out]) (by simp [dOk, HJ.out]), rfl⟩
  · have q1 := beq_f hj
    have HJ := Lib.hid hj
    clear hj
    by_cases hk : dKind b = 4
    · have q2 := beq_t hk
      have HK := Lib.hid hk
      clear hk
      go_wp2_with fail
      go_ret2
      exact ⟨ret_ib (by rw [E0.out]; simp [dOk, HK.out]) (by simp [dOk, HK.out]), rfl⟩
    · have q2 := beq_f hk
      have HK := Lib.hid hk
      clear hk
      have e3 : dOk a b = true := by simp [dOk, HJ.out, HK.out]
      have E3 := Lib.hid e3
      clear e3
      have na : dNeg a = decide (9223372036854775808 ≤ a) := by unfold dNeg; by_cases h : 9223372036854775808 ≤ a <;> simp [h] <;> omega
      have nb : dNeg b = decide (9223372036854775808 ≤ b) := by unfold dNeg; by_cases h : 9223372036854775808 ≤ b <;> simp [h] <;> omega
      have NA := Lib.hid na
      have NB := Lib.hid nb
      clear na nb
      generalize hma : a % 9223372036854775808 = A at *
      generalize hmb : b % 9223372036854775808 = B at *
      have oa : dOrd a = if dNeg a then -A else A := by rw [NA.out]; unfold dOrd; by_cases h : 9223372036854775808 ≤ a <;> simp [h] <;> omega
      have ob : dOrd b = if dNeg b then -B else B := by rw [NB.out]; unfold dOrd; by_cases h : 9223372036854775808 ≤ b <;> simp [h] <;> omega
      have A0 : 0 ≤ A := by omega
      have B0 : 0 ≤ B := by omega
      have OA := Lib.hid oa
      have OB := Lib.hid ob
      clear oa ob hma hmb
      generalize dNeg a = x at *
      generalize dNeg b = y at *
      by_cases hz : A = 0 ∧ B = 0
      · obtain ⟨z1, z2⟩ := hz
        have Z1 := Lib.hid z1
        have Z2 := Lib.hid z2
        have q3 := beq_t z1
        have q4 := beq_t z2
        clear z1 z2
        go_wp2_with fail
        go_ret2
        exact ⟨ret_ib (by rw [E0.out, E3.out, if_pos rfl, OA.out, OB.out, Z1.out, Z2.out]; cases x <;> cases y <;> rfl) (by rw [E3.out]), rfl⟩
      · have q5 : (A == 0 && B == 0) = false := by
          rw [Bool.and_eq_false_iff]
          by_cases z : A = 0
          · right; exact beq_f (fun h => hz ⟨z, h⟩)
          · left; exact beq_f z
        have HZ := Lib.hid hz
        clear hz
        by_cases z : A = 0
        · have z2 : ¬ B = 0 := fun h => HZ.out ⟨z, h⟩
          have q3 := beq_t z
          have q4 := beq_f z2
          have Z1 := Lib.hid z
          have Z2 := Lib.hid z2
          clear z z2 q5
          cases x <;> cases y <;> go_wp2_with fail
          all_goals go_ret2
          all_goals exact ⟨ret_ib (by rw [E0.out, E3.out, if_pos rfl, OA.out, OB.out]; have := Z1.out; have := Z2.out; unfold cmpI; simp; (try split) <;> (try split) <;> omega) (by rw [E3.out]), rfl⟩
        · have q3 := beq_f z
          have Z1 := Lib.hid z
          clear z q5
          cases x <;> cases y <;> go_wp2_with fail
          all_goals go_ret2
          all_goals exact ⟨ret_ib (by rw [E0.out, E3.out, if_pos rfl, OA.out, OB.out]; have := Z1.out; unfold cmpI; simp; (try split) <;> (try split) <;> omega) (by rw [E3.out]), rfl⟩

set_option maxHeartbeats 400000 in
theorem dblCmps_walk (a b : Int) (ha0 : 0 ≤ a) (ha1 : a ≤ 18446744073709551615) (hb0 : 0 ≤ b) (hb1 : b ≤ 18446744073709551615) (w : World) :
    Calls Try.prog 4 #[.int .u64 a, .int .u64 b] w fun e w' => e = .returned (.bool true) ∧ w = w' := by
  have e1 : dOk b a = dOk a b := by unfold dOk; exact Bool.and_comm _ _
  have e2 : dCmp b a = -dCmp a b := by
    unfold dCmp
    rw [e1]
    split
    · unfold cmpI
      (repeat' split) <;> omega
    · rfl
  have bd : -1 ≤ dCmp a b ∧ dCmp a b ≤ 1 := by
    unfold dCmp cmpI
    (repeat' split) <;> omega
  have E1 := Lib.hid e1
  have E2 := Lib.hid e2
  clear e1 e2
  go_enter Try.func4, Try.ntmps4
  go_wp2_with fail
  refine (awake11 _).mono ?_
  rintro e w' ⟨rfl, rfl⟩
  go_wp2_with fail
  refine (dblCmp_any a b ha0 ha1 hb0 hb1 _).mono ?_
  rintro e w' ⟨rfl, rfl⟩
  go_wp2_with fail
  refine (cmpBits_any a b ha0 ha1 hb0 hb1 _).mono ?_
  rintro e w' ⟨rfl, rfl⟩
  go_wp2_with fail
  refine (dblCmp_any b a hb0 hb1 ha0 ha1 _).mono ?_
  rintro e w' ⟨rfl, rfl⟩
  rw [E1.out, E2.out]
  go_wp2_with fail
  go_ret
  exact ⟨by simp, rfl⟩
end Go.Proofs.Ytpbfbgkiamfodaa
