/- Contracts of the reference's Join, of dbl.Of and OfInt, of dbl.Split. Conditions: as each says. -/
import Derived.Test.YtpbfbgkiamfodaaDoorJn2
namespace Go.Proofs.YtpbfbgkiamfodaaDoor
open Go.RowKit

set_option maxHeartbeats 400000 in
theorem dblSplit_any (b : Int) (h0 : 0 ≤ b) (h1 : b ≤ 18446744073709551615) (w : World) :
    Calls Tryd.prog 13 #[.int .u64 b] w fun e w' => e = .returned (.tuple #[.int .i64 (dKind b), .bool (dNeg b), .int .u64 (dM b), .int .i64 (dE b)]) ∧ w = w' := by
  have e1 : bits .and .u64 (b / 4503599627370496) 2047 = b / 4503599627370496 % 2048 := and_mask 11 (by omega) _ (by omega) (by omega) _ (by decide)
  have e2 : bits .and .u64 b 4503599627370495 = b % 4503599627370496 := and_mask 52 (by omega) _ (by omega) (by omega) _ (by decide)
  by_cases hx : b / 4503599627370496 % 2048 = 2047
  · have q1 := beq_t hx
    have hx' : ¬ b / 4503599627370496 % 2048 = 0 := by omega
    have q2 := beq_f hx'
    by_cases hf : b % 4503599627370496 = 0
    · have q3 := beq_t hf
      have q4 := bne_f hf
      have HX := Lib.hid hx
      have HF := Lib.hid hf
      clear hx hf hx'
      go_enter Tryd.func13, Tryd.ntmps13
      go_wp2_with fail
      refine bodyPost_ret (results_tmp4 rfl _ _ _) rfl ?_
      exact ⟨by simp [dKind, dNeg, dM, dE, HX.out, HF.out], rfl⟩
    · have q3 := beq_f hf
      have q4 := bne_t hf
      have HX := Lib.hid hx
      have HF := Lib.hid hf
      clear hx hf hx'
      go_enter Tryd.func13, Tryd.ntmps13
      go_wp2_with fail
      refine bodyPost_ret (results_tmp4 rfl _ _ _) rfl ?_
      exact ⟨by simp [dKind, dNeg, dM, dE, HX.out, HF.out], rfl⟩
  · have q1 := beq_f hx
    by_cases hz : b / 4503599627370496 % 2048 = 0
    · have q2 := beq_t hz
      by_cases hf : b % 4503599627370496 = 0
      · have q3 := beq_t hf
        have q4 := bne_f hf
        have HX := Lib.hid hx
        have HF := Lib.hid hf
        have HZ := Lib.hid hz
        clear hx hf hz
        go_enter Tryd.func13, Tryd.ntmps13
        go_wp2_with fail
        refine bodyPost_ret (results_tmp4 rfl _ _ _) rfl ?_
        exact ⟨by simp [dKind, dNeg, dM, dE, HZ.out, HF.out], rfl⟩
      · have q3 := beq_f hf
        have q4 := bne_t hf
        have HX := Lib.hid hx
        have HF := Lib.hid hf
        have HZ := Lib.hid hz
        clear hx hf hz
        go_enter Tryd.func13, Tryd.ntmps13
        go_wp2_with fail
        refine bodyPost_ret (results_tmp4 rfl _ _ _) rfl ?_
        exact ⟨by simp [dKind, dNeg, dM, dE, HZ.out, HF.out], rfl⟩
    · have q2 := beq_f hz
      have e3 : bits .or .u64 4503599627370496 (b % 4503599627370496) = 4503599627370496 + b % 4503599627370496 := or_join 52 _ _ (by omega) (by decide) (by omega) (by omega) (by omega) (by omega)
      have HX := Lib.hid hx
      have HZ := Lib.hid hz
      clear hx hz
      go_enter Tryd.func13, Tryd.ntmps13
      go_wp2_with fail
      refine bodyPost_ret (results_tmp4 rfl _ _ _) rfl ?_
      exact ⟨by simp [dKind, dNeg, dM, dE, HX.out, HZ.out], rfl⟩


set_option maxHeartbeats 800000 in
theorem rjoin_zero (n : Bool) (e : Int) (w : World) :
    Calls Tryd.prog 8 #[.bool n, .int .u64 0, .int .i64 e] w fun e w' => e = .returned (.tuple #[.int .u64 (sgnB n), .bool true]) ∧ w = w' := by
  cases n
  · go_enter Tryd.func8, Tryd.ntmps8
    go_wp2_with fail
    refine bodyPost_ret (results_tmp2 rfl _ _ _) rfl ?_
    exact ⟨rfl, rfl⟩
  · go_enter Tryd.func8, Tryd.ntmps8
    go_wp2_with fail
    refine bodyPost_ret (results_tmp2 rfl _ _ _) rfl ?_
    exact ⟨rfl, rfl⟩
set_option maxHeartbeats 800000 in
theorem rjoin_far (n : Bool) (m e : Int) (h0 : 0 < m) (he : e < -1138 ∨ 1023 < e) (w : World) :
    Calls Tryd.prog 8 #[.bool n, .int .u64 m, .int .i64 e] w fun e w' => e = .returned (.tuple #[.int .u64 0, .bool false]) ∧ w = w' := by
  have q1 : (m == 0) = false := beq_f (by omega)
  rcases he with he | he <;> cases n
  all_goals
    go_enter Tryd.func8, Tryd.ntmps8
    go_wp2_with fail
    refine bodyPost_ret (results_tmp2 rfl _ _ _) rfl ?_
    exact ⟨rfl, rfl⟩

set_option maxHeartbeats 1600000 in
theorem rjoin_near (n : Bool) (m e : Int) (o k l : Nat) (h : Od m.toNat o k l) (h0 : 0 < m) (h1 : m ≤ 18446744073709551615) (e0 : -1138 ≤ e) (e1 : e ≤ 1023) (w : World) :
    Calls Tryd.prog 8 #[.bool n, .int .u64 m, .int .i64 e] w (RetJ n (jMag o k l e) w) := by
  have q1 : (m == 0) = false := beq_f (by omega)
  have heq := Lib.hid h.eq
  have hod := Lib.hid h.odd
  have hsm := Lib.hid (od_small h)
  have hls := Lib.hid (fun (j : Nat) => od_less (j := j) h)
  have hfu := Lib.hid (fun (j : Nat) => od_full (j := j) h)
  clear h
  cases n
  · skip
    go_enter Tryd.func8, Tryd.ntmps8
    go_wp2_with fail
    go_loop [1, 2] (fun mm ee => ∃ (M : Int) (E : Int), mm = .int .u64 M ∧ ee = .int .i64 E ∧ 1 ≤ M ∧ M ≤ 18446744073709551615 ∧ -1138 ≤ E ∧ E ≤ 1086 ∧ Hid (∃ j : Nat, m = M * 2 ^ j ∧ E = e + j)) (fun mm _ => (intOf mm).toNat)
    case atStart => exact ⟨m, e, rfl, rfl, by omega, h1, e0, by omega, Lib.hid ⟨0, by simp, by simp⟩⟩
    case round =>
      obtain ⟨M, E, rfl, rfl, u1, u2, u3, u4, u5⟩ := hrel
      by_cases hev : M % 2 = 0
      · have f1 : (M % 2 == 0) = true := beq_t hev
        have u6 : 1 ≤ M / 2 := by omega
        obtain ⟨j, hj1, hj2⟩ := u5.out
        have hj3 : m = M / 2 * 2 ^ (j + 1) := by
          rw [hj1, Int.pow_succ, Int.mul_comm (2 ^ j), ← Int.mul_assoc]
          congr 1
          omega
        have hj4 : E + 1 ≤ 1086 := by
          have h2 : (2 : Int) ^ (j + 1) ≤ M / 2 * 2 ^ (j + 1) := by
            have hp : (0 : Int) ≤ 2 ^ (j + 1) := Int.le_of_lt (Int.pow_pos (by decide))
            have := Int.mul_le_mul_of_nonneg_right u6 hp
            omega
          have h3 : (2 : Int) ^ (j + 1) < 2 ^ 64 := by
            have h64 : (2 : Int) ^ 64 = 18446744073709551616 := by decide
            omega
          have h4 : 2 ^ (j + 1) < 2 ^ 64 := by
            have a := pow_int (j + 1)
            have b := pow_int 64
            omega
          have h5 := (Nat.pow_lt_pow_iff_right (a := 2) (by decide)).1 h4
          omega
        have u7 := Lib.hid (show ∃ j' : Nat, m = M / 2 * 2 ^ j' ∧ E + 1 = e + j' from ⟨j + 1, hj3, by omega⟩)
        clear hj1 hj2 hj3 u5 hev
        go_wp2_with fail
        go_round
        case rel => exact ⟨M / 2, E + 1, rfl, rfl, u6, by omega, by omega, hj4, u7⟩
        case measure => simp [intOf]; omega
      · have f1 : (M % 2 == 0) = false := beq_f hev
        obtain ⟨j, hj1, hj2⟩ := u5.out
        have hM : M.toNat = o ∧ j = k := by
          refine odd_one (i := j) (j := k) ?_ (by omega) hod.out
          have h3 := heq.out
          rw [hj1] at h3
          rw [← h3]
          have h4 : M * 2 ^ j = ((M.toNat * 2 ^ j : Nat) : Int) := by rw [Int.natCast_mul, pow_int, Int.toNat_of_nonneg (by omega)]
          rw [h4, Int.toNat_natCast]
        have hO : M = (o : Int) := by omega
        have hE : E = e + k := by rw [hj2, hM.2]
        replace hE := Lib.hid hE
        replace hO := Lib.hid hO
        clear hj1 hj2 hM u5 hev
        by_cases c1 : 9007199254740992 ≤ M
        · have hr : jMag o k l e = none := by
            unfold jMag
            have hl : 53 < l := by
              by_cases hl : 53 < l
              · exact hl
              · have := hsm.out (by omega); have := hO.out; omega
            rw [if_pos (.inl hl)]
          replace hr := Lib.hid hr
          go_wp2_with fail
          refine bodyPost_ret (results_tmp2 rfl _ _ _) rfl ?_
          rw [hr.out]
          exact ⟨rfl, rfl⟩
        · by_cases c2 : E < -1074
          · have hr : jMag o k l e = none := by
              unfold jMag
              rw [if_pos (.inr (.inl (by have := hE.out; omega)))]
            replace hr := Lib.hid hr
            go_wp2_with fail
            refine bodyPost_ret (results_tmp2 rfl _ _ _) rfl ?_
            rw [hr.out]
            exact ⟨rfl, rfl⟩
          · go_wp2_with fail
            go_loop [1, 2] (fun mm ee => ∃ (M' : Int) (E' : Int), mm = .int .u64 M' ∧ ee = .int .i64 E' ∧ 1 ≤ M' ∧ M' < 9007199254740992 ∧ -1074 ≤ E' ∧ E' ≤ 1086 ∧ Hid (∃ j : Nat, M' = ((o * 2 ^ j : Nat) : Int) ∧ E' = e + k - j)) (fun _ ee => (intOf ee + 1074).toNat)
            case atStart => exact ⟨M, E, rfl, rfl, u1, by omega, by omega, u4, Lib.hid ⟨0, by rw [hO.out]; simp, by rw [hE.out]; simp⟩⟩
            case round =>
              obtain ⟨M', E', rfl, rfl, v1, v2, v3, v4, v5⟩ := hrel
              by_cases d1 : M' < 4503599627370496
              · by_cases d2 : -1074 < E'
                · have v6 := Lib.hid (show ∃ j' : Nat, M' * 2 = ((o * 2 ^ j' : Nat) : Int) ∧ E' - 1 = e + k - j' from by
                    obtain ⟨j', a1, a2⟩ := v5.out
                    refine ⟨j' + 1, ?_, by omega⟩
                    rw [a1, Nat.pow_succ, ← Nat.mul_assoc, Int.natCast_mul]; rfl)
                  go_wp2_with fail
                  go_round
                  case rel => exact ⟨M' * 2, E' - 1, rfl, rfl, by omega, by omega, by omega, by omega, v6⟩
                  case measure => simp [intOf]; omega
                · have hr : jMag o k l e = some M' := by
                    obtain ⟨j', a1, a2⟩ := v5.out
                    have b1 := hls.out j' (by omega)
                    unfold jMag
                    rw [if_neg (by omega), if_pos (by omega), show (e + k + 1074).toNat = j' from by omega, a1, Int.natCast_mul, pow_int]
                  replace hr := Lib.hid hr
                  go_wp2_with fail
                  refine bodyPost_ret (results_tmp2 rfl _ _ _) rfl ?_
                  exact retJ_some hr.out (by show _ = 0 + _; omega)
              · have hj' : ∃ j' : Nat, M' = ((o * 2 ^ j' : Nat) : Int) ∧ E' = e + k - j' ∧ l + j' = 53 := by
                  obtain ⟨j', a1, a2⟩ := v5.out
                  exact ⟨j', a1, a2, hfu.out j' (by omega) (by omega)⟩
                by_cases d3 : 971 < E'
                · have hr : jMag o k l e = none := by
                    obtain ⟨j', a1, a2, a3⟩ := hj'
                    unfold jMag
                    rw [if_pos (.inr (.inr (by omega)))]
                  replace hr := Lib.hid hr
                  clear hj'
                  go_wp2_with fail
                  refine bodyPost_ret (results_tmp2 rfl _ _ _) rfl ?_
                  rw [hr.out]
                  exact ⟨rfl, rfl⟩
                · have hr : jMag o k l e = some ((E' + 1075) * 4503599627370496 + (M' - 4503599627370496)) := by
                    obtain ⟨j', a1, a2, a3⟩ := hj'
                    unfold jMag
                    rw [if_neg (by omega), if_neg (by omega), show 53 - l = j' from by omega, a1, Int.natCast_mul, pow_int]
                    congr 1
                    omega
                  replace hr := Lib.hid hr
                  clear hj'
                  go_wp2_with fail
                  refine bodyPost_ret (results_tmp2 rfl _ _ _) rfl ?_
                  exact retJ_some hr.out (by show _ = 0 + _; omega)
  · skip
    go_enter Tryd.func8, Tryd.ntmps8
    go_wp2_with fail
    go_loop [1, 2] (fun mm ee => ∃ (M : Int) (E : Int), mm = .int .u64 M ∧ ee = .int .i64 E ∧ 1 ≤ M ∧ M ≤ 18446744073709551615 ∧ -1138 ≤ E ∧ E ≤ 1086 ∧ Hid (∃ j : Nat, m = M * 2 ^ j ∧ E = e + j)) (fun mm _ => (intOf mm).toNat)
    case atStart => exact ⟨m, e, rfl, rfl, by omega, h1, e0, by omega, Lib.hid ⟨0, by simp, by simp⟩⟩
    case round =>
      obtain ⟨M, E, rfl, rfl, u1, u2, u3, u4, u5⟩ := hrel
      by_cases hev : M % 2 = 0
      · have f1 : (M % 2 == 0) = true := beq_t hev
        have u6 : 1 ≤ M / 2 := by omega
        obtain ⟨j, hj1, hj2⟩ := u5.out
        have hj3 : m = M / 2 * 2 ^ (j + 1) := by
          rw [hj1, Int.pow_succ, Int.mul_comm (2 ^ j), ← Int.mul_assoc]
          congr 1
          omega
        have hj4 : E + 1 ≤ 1086 := by
          have h2 : (2 : Int) ^ (j + 1) ≤ M / 2 * 2 ^ (j + 1) := by
            have hp : (0 : Int) ≤ 2 ^ (j + 1) := Int.le_of_lt (Int.pow_pos (by decide))
            have := Int.mul_le_mul_of_nonneg_right u6 hp
            omega
          have h3 : (2 : Int) ^ (j + 1) < 2 ^ 64 := by
            have h64 : (2 : Int) ^ 64 = 18446744073709551616 := by decide
            omega
          have h4 : 2 ^ (j + 1) < 2 ^ 64 := by
            have a := pow_int (j + 1)
            have b := pow_int 64
            omega
          have h5 := (Nat.pow_lt_pow_iff_right (a := 2) (by decide)).1 h4
          omega
        have u7 := Lib.hid (show ∃ j' : Nat, m = M / 2 * 2 ^ j' ∧ E + 1 = e + j' from ⟨j + 1, hj3, by omega⟩)
        clear hj1 hj2 hj3 u5 hev
        go_wp2_with fail
        go_round
        case rel => exact ⟨M / 2, E + 1, rfl, rfl, u6, by omega, by omega, hj4, u7⟩
        case measure => simp [intOf]; omega
      · have f1 : (M % 2 == 0) = false := beq_f hev
        obtain ⟨j, hj1, hj2⟩ := u5.out
        have hM : M.toNat = o ∧ j = k := by
          refine odd_one (i := j) (j := k) ?_ (by omega) hod.out
          have h3 := heq.out
          rw [hj1] at h3
          rw [← h3]
          have h4 : M * 2 ^ j = ((M.toNat * 2 ^ j : Nat) : Int) := by rw [Int.natCast_mul, pow_int, Int.toNat_of_nonneg (by omega)]
          rw [h4, Int.toNat_natCast]
        have hO : M = (o : Int) := by omega
        have hE : E = e + k := by rw [hj2, hM.2]
        replace hE := Lib.hid hE
        replace hO := Lib.hid hO
        clear hj1 hj2 hM u5 hev
        by_cases c1 : 9007199254740992 ≤ M
        · have hr : jMag o k l e = none := by
            unfold jMag
            have hl : 53 < l := by
              by_cases hl : 53 < l
              · exact hl
              · have := hsm.out (by omega); have := hO.out; omega
            rw [if_pos (.inl hl)]
          replace hr := Lib.hid hr
          go_wp2_with fail
          refine bodyPost_ret (results_tmp2 rfl _ _ _) rfl ?_
          rw [hr.out]
          exact ⟨rfl, rfl⟩
        · by_cases c2 : E < -1074
          · have hr : jMag o k l e = none := by
              unfold jMag
              rw [if_pos (.inr (.inl (by have := hE.out; omega)))]
            replace hr := Lib.hid hr
            go_wp2_with fail
            refine bodyPost_ret (results_tmp2 rfl _ _ _) rfl ?_
            rw [hr.out]
            exact ⟨rfl, rfl⟩
          · go_wp2_with fail
            go_loop [1, 2] (fun mm ee => ∃ (M' : Int) (E' : Int), mm = .int .u64 M' ∧ ee = .int .i64 E' ∧ 1 ≤ M' ∧ M' < 9007199254740992 ∧ -1074 ≤ E' ∧ E' ≤ 1086 ∧ Hid (∃ j : Nat, M' = ((o * 2 ^ j : Nat) : Int) ∧ E' = e + k - j)) (fun _ ee => (intOf ee + 1074).toNat)
            case atStart => exact ⟨M, E, rfl, rfl, u1, by omega, by omega, u4, Lib.hid ⟨0, by rw [hO.out]; simp, by rw [hE.out]; simp⟩⟩
            case round =>
              obtain ⟨M', E', rfl, rfl, v1, v2, v3, v4, v5⟩ := hrel
              by_cases d1 : M' < 4503599627370496
              · by_cases d2 : -1074 < E'
                · have v6 := Lib.hid (show ∃ j' : Nat, M' * 2 = ((o * 2 ^ j' : Nat) : Int) ∧ E' - 1 = e + k - j' from by
                    obtain ⟨j', a1, a2⟩ := v5.out
                    refine ⟨j' + 1, ?_, by omega⟩
                    rw [a1, Nat.pow_succ, ← Nat.mul_assoc, Int.natCast_mul]; rfl)
                  go_wp2_with fail
                  go_round
                  case rel => exact ⟨M' * 2, E' - 1, rfl, rfl, by omega, by omega, by omega, by omega, v6⟩
                  case measure => simp [intOf]; omega
                · have hr : jMag o k l e = some M' := by
                    obtain ⟨j', a1, a2⟩ := v5.out
                    have b1 := hls.out j' (by omega)
                    unfold jMag
                    rw [if_neg (by omega), if_pos (by omega), show (e + k + 1074).toNat = j' from by omega, a1, Int.natCast_mul, pow_int]
                  replace hr := Lib.hid hr
                  go_wp2_with fail
                  refine bodyPost_ret (results_tmp2 rfl _ _ _) rfl ?_
                  exact retJ_some hr.out (by show _ = 9223372036854775808 + _; omega)
              · have hj' : ∃ j' : Nat, M' = ((o * 2 ^ j' : Nat) : Int) ∧ E' = e + k - j' ∧ l + j' = 53 := by
                  obtain ⟨j', a1, a2⟩ := v5.out
                  exact ⟨j', a1, a2, hfu.out j' (by omega) (by omega)⟩
                by_cases d3 : 971 < E'
                · have hr : jMag o k l e = none := by
                    obtain ⟨j', a1, a2, a3⟩ := hj'
                    unfold jMag
                    rw [if_pos (.inr (.inr (by omega)))]
                  replace hr := Lib.hid hr
                  clear hj'
                  go_wp2_with fail
                  refine bodyPost_ret (results_tmp2 rfl _ _ _) rfl ?_
                  rw [hr.out]
                  exact ⟨rfl, rfl⟩
                · have hr : jMag o k l e = some ((E' + 1075) * 4503599627370496 + (M' - 4503599627370496)) := by
                    obtain ⟨j', a1, a2, a3⟩ := hj'
                    unfold jMag
                    rw [if_neg (by omega), if_neg (by omega), show 53 - l = j' from by omega, a1, Int.natCast_mul, pow_int]
                    congr 1
                    omega
                  replace hr := Lib.hid hr
                  clear hj'
                  go_wp2_with fail
                  refine bodyPost_ret (results_tmp2 rfl _ _ _) rfl ?_
                  exact retJ_some hr.out (by show _ = 9223372036854775808 + _; omega)
end Go.Proofs.YtpbfbgkiamfodaaDoor
