/- The reference's Parse of a time that is read. Conditions: as it says. -/
import Derived.Test.YtoidmnleedkbiaaDoorW27
import Derived.Outline
import Derived.Deep.QuietTactic
import Derived.BigQuiet
namespace Go.Proofs.YtoidmnleedkbiaaDoor
open Go.RowKit
set_option linter.unusedSimpArgs false
set_option linter.unusedVariables false
set_option maxHeartbeats 3200000 in
set_option maxRecDepth 100000 in
theorem refP_ok (s : ByteArray) (h20 : 20 ≤ s.size) (h100 : s.size ≤ 100) (f n1 n2 n3 n4 n5 n6 M : Int) (SW : SwOk s f) (NU : Nums s n1 n2 n3 n4 n5 n6) (EM : mlen n1 n2 = M) (q1 : byteIs s 4 45) (q2 : byteIs s 7 45) (q3 : byteIs s 10 84) (q4 : byteIs s 13 58) (q5 : byteIs s 16 58) (q6 : ¬ n1 < 1970) (q7 : ¬ n2 < 1) (q8 : ¬ 12 < n2) (q9 : ¬ n3 < 1) (q10 : ¬ M < n3) (q11 : ¬ n4 < 0) (q12 : ¬ 23 < n4) (q13 : ¬ n5 < 0) (q14 : ¬ 59 < n5) (q15 : ¬ n6 < 0) (q16 : ¬ 59 < n6) (q17 : ¬ f < 0) (f9 : f ≤ 999) (w : World) :
    Calls Tryd.prog 7 #[.string s] w fun e w' => e = .returned (.tuple #[.int .i64 (whenVal n1 n2 n3 n4 n5 n6 f), .bool true]) ∧ Below w.heap.size w w' := by
  obtain ⟨V, hV⟩ : ∃ V, whenVal n1 n2 n3 n4 n5 n6 f = V := ⟨_, rfl⟩
  rw [hV]
  have HV := Lib.hid hV
  clear hV
  have MB := mlen_bd n1 n2
  rw [EM] at MB
  have HSW := Lib.hid SW
  obtain ⟨E1, E2, E3, E4, E5, E6⟩ := NU
  have z20 : (20 : Int) ≤ (s.size : Int) := by omega
  have z4 : (4 : Int) ≤ (s.size : Int) := by omega
  have R1 := Lib.hid (fun w => refNum_fld s 0 4 n1 (by omega) (by omega) (by omega) E1 w)
  have R2 := Lib.hid (fun w => refNum_fld s 5 7 n2 (by omega) (by omega) (by omega) E2 w)
  have R3 := Lib.hid (fun w => refNum_fld s 8 10 n3 (by omega) (by omega) (by omega) E3 w)
  have R4 := Lib.hid (fun w => refNum_fld s 11 13 n4 (by omega) (by omega) (by omega) E4 w)
  have R5 := Lib.hid (fun w => refNum_fld s 14 16 n5 (by omega) (by omega) (by omega) E5 w)
  have R6 := Lib.hid (fun w => refNum_fld s 17 19 n6 (by omega) (by omega) (by omega) E6 w)
  have n1t : n1 ≤ 9999 := by rw [← E1]; exact numOf_top _ (by simp; omega)
  clear SW E1 E2 E3 E4 E5 E6
  have MD := Lib.hid (fun w => refDaysM n1 n2 M EM (by omega) (by omega) (by omega) (by omega) w)
  clear EM
  have c1 := byte_ok 45 rfl (by omega) q1
  clear q1
  have c2 := byte_ok 45 rfl (by omega) q2
  clear q2
  have c3 := byte_ok 84 rfl (by omega) q3
  clear q3
  have c4 := byte_ok 58 rfl (by omega) q4
  clear q4
  have c5 := byte_ok 58 rfl (by omega) q5
  clear q5
  have c6 : decide (n1 < 1970) = false := decide_eq_false q6
  have c7 : decide (n2 < 1) = false := decide_eq_false q7
  have c8 : decide (12 < n2) = false := decide_eq_false q8
  have c9 : decide (n3 < 1) = false := decide_eq_false q9
  have c10 : decide (M < n3) = false := decide_eq_false q10
  have c11 : decide (n4 < 0) = false := decide_eq_false q11
  have c12 : decide (23 < n4) = false := decide_eq_false q12
  have c13 : decide (n5 < 0) = false := decide_eq_false q13
  have c14 : decide (59 < n5) = false := decide_eq_false q14
  have c15 : decide (n6 < 0) = false := decide_eq_false q15
  have c16 : decide (59 < n6) = false := decide_eq_false q16
  have c17 : decide (f < 0) = false := decide_eq_false q17
  go_enter Tryd.func7, Tryd.ntmps7
  go_upto_block 0 with fail
  go_cut [4] (fun v W => v = .int .i64 f ∧ w = W)
  case first =>
    rcases HSW.out with ⟨hz, a, b, e⟩ | ⟨hz, a, rfl⟩
    · have RN := Lib.hid (fun w => refNum_fld s 20 23 f (by omega) (by omega) (by omega) e w)
      have x19 : (((s[19]'(by omega)).toNat : Int) == 46) = true := byte_eq 46 rfl (by omega) a
      have x23 : (((s[23]'(by omega)).toNat : Int) == 90) = true := byte_eq 90 rfl (by omega) b
      clear a b e HSW
      go_wp2_with fail
      with_reducible refine (RN.out _).mono ?_
      rintro e w' ⟨rfl, rfl⟩
      go_wp2_with fail
      go_meet
      exact ⟨rfl, rfl⟩
    · have x19 := byte_ok 90 rfl (by omega) a
      clear a HSW
      go_wp2_with fail
      go_meet
      exact ⟨rfl, rfl⟩
  obtain ⟨rfl, rfl⟩ := hcut
  go_wp2_with fail
  go_quiet ((go_at_call 12; first | with_reducible exact Calls.quiet_of_same (qsame (R1.out _)) | with_reducible exact Calls.quiet_of_same (qsame (R2.out _)) | with_reducible exact Calls.quiet_of_same (qsame (R3.out _)) | with_reducible exact Calls.quiet_of_same (qsame (R4.out _)) | with_reducible exact Calls.quiet_of_same (qsame (R5.out _)) | with_reducible exact Calls.quiet_of_same (qsame (R6.out _))))
  go_wp2_with fail
  with_reducible refine (MD.out _).mono ?_
  rintro e w' ⟨rfl, rfl⟩
  clear c1 c2 c3 c4 c5 c6 c7 c8 c9 c10 c11 c12 c13 c14 c15 c16 c17 R1 R2 R3 R4 R5 R6 HSW
  go_wp2_with fail
  go_loop [11, 12] (fun t u => ∃ x r : Int, t = .int .i64 r ∧ u = .int .i64 x ∧ 1970 ≤ x ∧ x ≤ n1 ∧ Hid (r = n3 - 1 + ahd x) ∧ 0 ≤ r ∧ r ≤ 366 * (x - 1970) + 30) (fun _ u => (n1 - intOf u).toNat)
  case atStart => exact ⟨1970, n3 - 1, rfl, rfl, by decide, by omega, Lib.hid (by rw [ahd_1970]; omega), by omega, by omega⟩
  case round =>
    obtain ⟨x, r, rfl, rfl, x0, x1, HR, r0, r1⟩ := hrel
    by_cases hx : x < n1
    · have LE := fun w => refLeap_any x (by omega) (by omega) w
      have hs := ahd_succ x
      have hlp := lp_01 x
      rcases (show lp x = 0 ∨ lp x = 1 by omega) with hl | hl
      · rw [hl, decide_eq_false (by decide)] at LE
        have LE := Lib.hid LE
        have HR2 : Hid (r + 365 = n3 - 1 + ahd (x + 1)) := Lib.hid (by have := HR.out; omega)
        clear hs hl hlp
        go_wp2_with fail
        with_reducible refine (LE.out _).mono ?_
        rintro e w' ⟨rfl, rfl⟩
        go_wp2_with fail
        go_round
        case rel => exact ⟨x + 1, r + 365, rfl, rfl, by omega, by omega, HR2, by omega, by omega⟩
        case measure => simp [intOf]; omega
      · rw [hl, decide_eq_true rfl] at LE
        have LE := Lib.hid LE
        have HR2 : Hid (r + 365 + 1 = n3 - 1 + ahd (x + 1)) := Lib.hid (by have := HR.out; omega)
        clear hs hl hlp
        go_wp2_with fail
        with_reducible refine (LE.out _).mono ?_
        rintro e w' ⟨rfl, rfl⟩
        go_wp2_with fail
        go_round
        case rel => exact ⟨x + 1, r + 365 + 1, rfl, rfl, by omega, by omega, HR2, by omega, by omega⟩
        case measure => simp [intOf]; omega
    · have hxe : x = n1 := by omega
      subst hxe
      go_wp2_with fail
      go_loop [11, 13] (fun t u => ∃ k p : Int, t = .int .i64 p ∧ u = .int .i64 k ∧ 1 ≤ k ∧ k ≤ n2 ∧ Hid (p = n3 - 1 + ahd x + cumd x k) ∧ 0 ≤ p ∧ p ≤ 3000000 + 31 * k) (fun _ u => (n2 - intOf u).toNat)
      case atStart => exact ⟨1, r, rfl, rfl, by decide, by omega, Lib.hid (by rw [cumd_one]; have := HR.out; omega), by omega, by omega⟩
      case round =>
        obtain ⟨k, p, rfl, rfl, k0, k1, HP, p0, p1⟩ := hrel
        by_cases hlt : k < n2
        · obtain ⟨Z, hZ⟩ : ∃ Z, mlen x k = Z := ⟨_, rfl⟩
          have hZb := mlen_bd x k
          have MK := Lib.hid (fun w => refDaysM x k Z hZ (by omega) (by omega) k0 (by omega) w)
          rw [hZ] at hZb
          obtain ⟨Z0, Z1⟩ := hZb
          have hr2 : Hid (p + Z = n3 - 1 + ahd x + cumd x (k + 1)) := Lib.hid (by rw [cumd_succ x k k0 (by omega), hZ]; have := HP.out; omega)
          clear hZ
          go_wp2_with fail
          with_reducible refine (MK.out _).mono ?_
          rintro e w' ⟨rfl, rfl⟩
          go_wp2_with fail
          go_round
          case rel => exact ⟨k + 1, p + Z, rfl, rfl, by omega, by omega, hr2, by omega, by omega⟩
          case measure => simp [intOf]; omega
        · have hk : k = n2 := by omega
          subst hk
          have hval : (((p * 24 + n4) * 60 + n5) * 60 + n6) * 1000 + f = V := by
            have a := HP.out
            rw [← HV.out]
            unfold whenVal
            omega
          have HVV := Lib.hid hval
          clear hval
          go_wp2_with fail
          have hE := HVV.out
          subst hE
          go_ret2
          exact ⟨by first | rfl | simp, by repeat' (first | (with_reducible assumption) | (with_reducible exact Below.refl _ _) | (with_reducible refine below_drewN ?_ _) | (with_reducible refine Below.drew ?_) | (with_reducible refine Below.setCell ?_ ?_ _) | (with_reducible refine Below.alloc ?_ ?_ _) | omega | (simp; done) | (simp; omega))⟩
end Go.Proofs.YtoidmnleedkbiaaDoor
