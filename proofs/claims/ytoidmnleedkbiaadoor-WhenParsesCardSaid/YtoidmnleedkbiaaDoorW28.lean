/- The reference's Parse of a time: the first tests. Conditions: as each says. -/
import Derived.Test.YtoidmnleedkbiaaDoorW27
import Derived.Outline
import Derived.Deep.QuietTactic
import Derived.BigQuiet
namespace Go.Proofs.YtoidmnleedkbiaaDoor
open Go.RowKit
set_option linter.unusedSimpArgs false
set_option linter.unusedVariables false
set_option maxHeartbeats 1600000 in
set_option maxRecDepth 100000 in
theorem refP_2 (s : ByteArray) (h20 : 20 ≤ s.size) (h100 : s.size ≤ 100) (f n1 n2 n3 n4 n5 n6 M : Int) (SW : SwOk s f) (NU : Nums s n1 n2 n3 n4 n5 n6) (q1 : byteIs s 4 45) (q2 : ¬ byteIs s 7 45) (w : World) :
    Calls Tryd.prog 7 #[.string s] w fun e w' => e = .returned (.tuple #[.int .i64 0, .bool false]) ∧ Below w.heap.size w w' := by
  have HSW := Lib.hid SW
  obtain ⟨E1, E2, E3, E4, E5, E6⟩ := NU
  have z20 : (20 : Int) ≤ (s.size : Int) := by omega
  have z4 : (4 : Int) ≤ (s.size : Int) := by omega
  have R1 := Lib.hid (fun w => refNum_fld s 0 4 n1 (by omega) (by omega) (by omega) E1 w)
  have R2 := Lib.hid (fun w => refNum_fld s 5 7 n2 (by omega) (by omega) (by omega) E2 w)
  have R3 := Lib.hid (fun w => refNum_fld s 8 10 n3 (by omega) (by omega) (by omega) E3 w)
  have R4 := Lib.hid (fun w => refNum_fld s 11 13 n4 (by omega) (by omega) (by omega) E4 w)
  have R5 := Lib.hid (fun w => refNum_fld s 14 16 n5 (by omega) (by omega) (by omega) E5 w)
  have R6 := Lib.hid (fun w => refNum_fld s 17 19 n6 (by omega) (by omega) (by omega) E6 w)
  have n1t : n1 ≤ 9999 := by rw [← E1]; exact numOf_top _ (by simp; omega)
  clear SW E1 E2 E3 E4 E5 E6
  have c1 := byte_ok 45 rfl (by omega) q1
  clear q1
  have c2 := byte_ne 45 rfl (by omega) q2
  clear q2
  go_enter Tryd.func7, Tryd.ntmps7
  go_upto_block 0 with fail
  go_cut [4] (fun v W => v = .int .i64 f ∧ w = W)
  case first =>
    rcases HSW.out with ⟨hz, a, b, e⟩ | ⟨hz, a, rfl⟩
    · have RN := Lib.hid (fun w => refNum_fld s 20 23 f (by omega) (by omega) (by omega) e w)
      have x19 : (((s[19]'(by omega)).toNat : Int) == 46) = true := byte_eq 46 rfl (by omega) a
      have x23 : (((s[23]'(by omega)).toNat : Int) == 90) = true := byte_eq 90 rfl (by omega) b
      clear a b e HSW
      go_wp2_with fail
      with_reducible refine (RN.out _).mono ?_
      rintro e w' ⟨rfl, rfl⟩
      go_wp2_with fail
      go_meet
      exact ⟨rfl, rfl⟩
    · have x19 := byte_ok 90 rfl (by omega) a
      clear a HSW
      go_wp2_with fail
      go_meet
      exact ⟨rfl, rfl⟩
  obtain ⟨rfl, rfl⟩ := hcut
  go_wp2_with fail
  go_quiet ((go_at_call 12; first | with_reducible exact Calls.quiet_of_same (qsame (R1.out _)) | with_reducible exact Calls.quiet_of_same (qsame (R2.out _)) | with_reducible exact Calls.quiet_of_same (qsame (R3.out _)) | with_reducible exact Calls.quiet_of_same (qsame (R4.out _)) | with_reducible exact Calls.quiet_of_same (qsame (R5.out _)) | with_reducible exact Calls.quiet_of_same (qsame (R6.out _))))
  go_wp2_with fail
  go_ret2
  exact ⟨rfl, by repeat' (first | (with_reducible assumption) | (with_reducible exact Below.refl _ _) | (with_reducible refine below_drewN ?_ _) | (with_reducible refine Below.drew ?_) | (with_reducible refine Below.setCell ?_ ?_ _) | (with_reducible refine Below.alloc ?_ ?_ _) | omega | (simp; done) | (simp; omega))⟩
set_option maxHeartbeats 1600000 in
set_option maxRecDepth 100000 in
theorem refP_3 (s : ByteArray) (h20 : 20 ≤ s.size) (h100 : s.size ≤ 100) (f n1 n2 n3 n4 n5 n6 M : Int) (SW : SwOk s f) (NU : Nums s n1 n2 n3 n4 n5 n6) (q1 : byteIs s 4 45) (q2 : byteIs s 7 45) (q3 : ¬ byteIs s 10 84) (w : World) :
    Calls Tryd.prog 7 #[.string s] w fun e w' => e = .returned (.tuple #[.int .i64 0, .bool false]) ∧ Below w.heap.size w w' := by
  have HSW := Lib.hid SW
  obtain ⟨E1, E2, E3, E4, E5, E6⟩ := NU
  have z20 : (20 : Int) ≤ (s.size : Int) := by omega
  have z4 : (4 : Int) ≤ (s.size : Int) := by omega
  have R1 := Lib.hid (fun w => refNum_fld s 0 4 n1 (by omega) (by omega) (by omega) E1 w)
  have R2 := Lib.hid (fun w => refNum_fld s 5 7 n2 (by omega) (by omega) (by omega) E2 w)
  have R3 := Lib.hid (fun w => refNum_fld s 8 10 n3 (by omega) (by omega) (by omega) E3 w)
  have R4 := Lib.hid (fun w => refNum_fld s 11 13 n4 (by omega) (by omega) (by omega) E4 w)
  have R5 := Lib.hid (fun w => refNum_fld s 14 16 n5 (by omega) (by omega) (by omega) E5 w)
  have R6 := Lib.hid (fun w => refNum_fld s 17 19 n6 (by omega) (by omega) (by omega) E6 w)
  have n1t : n1 ≤ 9999 := by rw [← E1]; exact numOf_top _ (by simp; omega)
  clear SW E1 E2 E3 E4 E5 E6
  have c1 := byte_ok 45 rfl (by omega) q1
  clear q1
  have c2 := byte_ok 45 rfl (by omega) q2
  clear q2
  have c3 := byte_ne 84 rfl (by omega) q3
  clear q3
  go_enter Tryd.func7, Tryd.ntmps7
  go_upto_block 0 with fail
  go_cut [4] (fun v W => v = .int .i64 f ∧ w = W)
  case first =>
    rcases HSW.out with ⟨hz, a, b, e⟩ | ⟨hz, a, rfl⟩
    · have RN := Lib.hid (fun w => refNum_fld s 20 23 f (by omega) (by omega) (by omega) e w)
      have x19 : (((s[19]'(by omega)).toNat : Int) == 46) = true := byte_eq 46 rfl (by omega) a
      have x23 : (((s[23]'(by omega)).toNat : Int) == 90) = true := byte_eq 90 rfl (by omega) b
      clear a b e HSW
      go_wp2_with fail
      with_reducible refine (RN.out _).mono ?_
      rintro e w' ⟨rfl, rfl⟩
      go_wp2_with fail
      go_meet
      exact ⟨rfl, rfl⟩
    · have x19 := byte_ok 90 rfl (by omega) a
      clear a HSW
      go_wp2_with fail
      go_meet
      exact ⟨rfl, rfl⟩
  obtain ⟨rfl, rfl⟩ := hcut
  go_wp2_with fail
  go_quiet ((go_at_call 12; first | with_reducible exact Calls.quiet_of_same (qsame (R1.out _)) | with_reducible exact Calls.quiet_of_same (qsame (R2.out _)) | with_reducible exact Calls.quiet_of_same (qsame (R3.out _)) | with_reducible exact Calls.quiet_of_same (qsame (R4.out _)) | with_reducible exact Calls.quiet_of_same (qsame (R5.out _)) | with_reducible exact Calls.quiet_of_same (qsame (R6.out _))))
  go_wp2_with fail
  go_ret2
  exact ⟨rfl, by repeat' (first | (with_reducible assumption) | (with_reducible exact Below.refl _ _) | (with_reducible refine below_drewN ?_ _) | (with_reducible refine Below.drew ?_) | (with_reducible refine Below.setCell ?_ ?_ _) | (with_reducible refine Below.alloc ?_ ?_ _) | omega | (simp; done) | (simp; omega))⟩
set_option maxHeartbeats 1600000 in
set_option maxRecDepth 100000 in
theorem refP_4 (s : ByteArray) (h20 : 20 ≤ s.size) (h100 : s.size ≤ 100) (f n1 n2 n3 n4 n5 n6 M : Int) (SW : SwOk s f) (NU : Nums s n1 n2 n3 n4 n5 n6) (q1 : byteIs s 4 45) (q2 : byteIs s 7 45) (q3 : byteIs s 10 84) (q4 : ¬ byteIs s 13 58) (w : World) :
    Calls Tryd.prog 7 #[.string s] w fun e w' => e = .returned (.tuple #[.int .i64 0, .bool false]) ∧ Below w.heap.size w w' := by
  have HSW := Lib.hid SW
  obtain ⟨E1, E2, E3, E4, E5, E6⟩ := NU
  have z20 : (20 : Int) ≤ (s.size : Int) := by omega
  have z4 : (4 : Int) ≤ (s.size : Int) := by omega
  have R1 := Lib.hid (fun w => refNum_fld s 0 4 n1 (by omega) (by omega) (by omega) E1 w)
  have R2 := Lib.hid (fun w => refNum_fld s 5 7 n2 (by omega) (by omega) (by omega) E2 w)
  have R3 := Lib.hid (fun w => refNum_fld s 8 10 n3 (by omega) (by omega) (by omega) E3 w)
  have R4 := Lib.hid (fun w => refNum_fld s 11 13 n4 (by omega) (by omega) (by omega) E4 w)
  have R5 := Lib.hid (fun w => refNum_fld s 14 16 n5 (by omega) (by omega) (by omega) E5 w)
  have R6 := Lib.hid (fun w => refNum_fld s 17 19 n6 (by omega) (by omega) (by omega) E6 w)
  have n1t : n1 ≤ 9999 := by rw [← E1]; exact numOf_top _ (by simp; omega)
  clear SW E1 E2 E3 E4 E5 E6
  have c1 := byte_ok 45 rfl (by omega) q1
  clear q1
  have c2 := byte_ok 45 rfl (by omega) q2
  clear q2
  have c3 := byte_ok 84 rfl (by omega) q3
  clear q3
  have c4 := byte_ne 58 rfl (by omega) q4
  clear q4
  go_enter Tryd.func7, Tryd.ntmps7
  go_upto_block 0 with fail
  go_cut [4] (fun v W => v = .int .i64 f ∧ w = W)
  case first =>
    rcases HSW.out with ⟨hz, a, b, e⟩ | ⟨hz, a, rfl⟩
    · have RN := Lib.hid (fun w => refNum_fld s 20 23 f (by omega) (by omega) (by omega) e w)
      have x19 : (((s[19]'(by omega)).toNat : Int) == 46) = true := byte_eq 46 rfl (by omega) a
      have x23 : (((s[23]'(by omega)).toNat : Int) == 90) = true := byte_eq 90 rfl (by omega) b
      clear a b e HSW
      go_wp2_with fail
      with_reducible refine (RN.out _).mono ?_
      rintro e w' ⟨rfl, rfl⟩
      go_wp2_with fail
      go_meet
      exact ⟨rfl, rfl⟩
    · have x19 := byte_ok 90 rfl (by omega) a
      clear a HSW
      go_wp2_with fail
      go_meet
      exact ⟨rfl, rfl⟩
  obtain ⟨rfl, rfl⟩ := hcut
  go_wp2_with fail
  go_quiet ((go_at_call 12; first | with_reducible exact Calls.quiet_of_same (qsame (R1.out _)) | with_reducible exact Calls.quiet_of_same (qsame (R2.out _)) | with_reducible exact Calls.quiet_of_same (qsame (R3.out _)) | with_reducible exact Calls.quiet_of_same (qsame (R4.out _)) | with_reducible exact Calls.quiet_of_same (qsame (R5.out _)) | with_reducible exact Calls.quiet_of_same (qsame (R6.out _))))
  go_wp2_with fail
  go_ret2
  exact ⟨rfl, by repeat' (first | (with_reducible assumption) | (with_reducible exact Below.refl _ _) | (with_reducible refine below_drewN ?_ _) | (with_reducible refine Below.drew ?_) | (with_reducible refine Below.setCell ?_ ?_ _) | (with_reducible refine Below.alloc ?_ ?_ _) | omega | (simp; done) | (simp; omega))⟩
set_option maxHeartbeats 1600000 in
set_option maxRecDepth 100000 in
theorem refP_5 (s : ByteArray) (h20 : 20 ≤ s.size) (h100 : s.size ≤ 100) (f n1 n2 n3 n4 n5 n6 M : Int) (SW : SwOk s f) (NU : Nums s n1 n2 n3 n4 n5 n6) (q1 : byteIs s 4 45) (q2 : byteIs s 7 45) (q3 : byteIs s 10 84) (q4 : byteIs s 13 58) (q5 : ¬ byteIs s 16 58) (w : World) :
    Calls Tryd.prog 7 #[.string s] w fun e w' => e = .returned (.tuple #[.int .i64 0, .bool false]) ∧ Below w.heap.size w w' := by
  have HSW := Lib.hid SW
  obtain ⟨E1, E2, E3, E4, E5, E6⟩ := NU
  have z20 : (20 : Int) ≤ (s.size : Int) := by omega
  have z4 : (4 : Int) ≤ (s.size : Int) := by omega
  have R1 := Lib.hid (fun w => refNum_fld s 0 4 n1 (by omega) (by omega) (by omega) E1 w)
  have R2 := Lib.hid (fun w => refNum_fld s 5 7 n2 (by omega) (by omega) (by omega) E2 w)
  have R3 := Lib.hid (fun w => refNum_fld s 8 10 n3 (by omega) (by omega) (by omega) E3 w)
  have R4 := Lib.hid (fun w => refNum_fld s 11 13 n4 (by omega) (by omega) (by omega) E4 w)
  have R5 := Lib.hid (fun w => refNum_fld s 14 16 n5 (by omega) (by omega) (by omega) E5 w)
  have R6 := Lib.hid (fun w => refNum_fld s 17 19 n6 (by omega) (by omega) (by omega) E6 w)
  have n1t : n1 ≤ 9999 := by rw [← E1]; exact numOf_top _ (by simp; omega)
  clear SW E1 E2 E3 E4 E5 E6
  have c1 := byte_ok 45 rfl (by omega) q1
  clear q1
  have c2 := byte_ok 45 rfl (by omega) q2
  clear q2
  have c3 := byte_ok 84 rfl (by omega) q3
  clear q3
  have c4 := byte_ok 58 rfl (by omega) q4
  clear q4
  have c5 := byte_ne 58 rfl (by omega) q5
  clear q5
  go_enter Tryd.func7, Tryd.ntmps7
  go_upto_block 0 with fail
  go_cut [4] (fun v W => v = .int .i64 f ∧ w = W)
  case first =>
    rcases HSW.out with ⟨hz, a, b, e⟩ | ⟨hz, a, rfl⟩
    · have RN := Lib.hid (fun w => refNum_fld s 20 23 f (by omega) (by omega) (by omega) e w)
      have x19 : (((s[19]'(by omega)).toNat : Int) == 46) = true := byte_eq 46 rfl (by omega) a
      have x23 : (((s[23]'(by omega)).toNat : Int) == 90) = true := byte_eq 90 rfl (by omega) b
      clear a b e HSW
      go_wp2_with fail
      with_reducible refine (RN.out _).mono ?_
      rintro e w' ⟨rfl, rfl⟩
      go_wp2_with fail
      go_meet
      exact ⟨rfl, rfl⟩
    · have x19 := byte_ok 90 rfl (by omega) a
      clear a HSW
      go_wp2_with fail
      go_meet
      exact ⟨rfl, rfl⟩
  obtain ⟨rfl, rfl⟩ := hcut
  go_wp2_with fail
  go_quiet ((go_at_call 12; first | with_reducible exact Calls.quiet_of_same (qsame (R1.out _)) | with_reducible exact Calls.quiet_of_same (qsame (R2.out _)) | with_reducible exact Calls.quiet_of_same (qsame (R3.out _)) | with_reducible exact Calls.quiet_of_same (qsame (R4.out _)) | with_reducible exact Calls.quiet_of_same (qsame (R5.out _)) | with_reducible exact Calls.quiet_of_same (qsame (R6.out _))))
  go_wp2_with fail
  go_ret2
  exact ⟨rfl, by repeat' (first | (with_reducible assumption) | (with_reducible exact Below.refl _ _) | (with_reducible refine below_drewN ?_ _) | (with_reducible refine Below.drew ?_) | (with_reducible refine Below.setCell ?_ ?_ _) | (with_reducible refine Below.alloc ?_ ?_ _) | omega | (simp; done) | (simp; omega))⟩
set_option maxHeartbeats 1600000 in
set_option maxRecDepth 100000 in
theorem refP_6 (s : ByteArray) (h20 : 20 ≤ s.size) (h100 : s.size ≤ 100) (f n1 n2 n3 n4 n5 n6 M : Int) (SW : SwOk s f) (NU : Nums s n1 n2 n3 n4 n5 n6) (q1 : byteIs s 4 45) (q2 : byteIs s 7 45) (q3 : byteIs s 10 84) (q4 : byteIs s 13 58) (q5 : byteIs s 16 58) (q6 : n1 < 1970) (w : World) :
    Calls Tryd.prog 7 #[.string s] w fun e w' => e = .returned (.tuple #[.int .i64 0, .bool false]) ∧ Below w.heap.size w w' := by
  have HSW := Lib.hid SW
  obtain ⟨E1, E2, E3, E4, E5, E6⟩ := NU
  have z20 : (20 : Int) ≤ (s.size : Int) := by omega
  have z4 : (4 : Int) ≤ (s.size : Int) := by omega
  have R1 := Lib.hid (fun w => refNum_fld s 0 4 n1 (by omega) (by omega) (by omega) E1 w)
  have R2 := Lib.hid (fun w => refNum_fld s 5 7 n2 (by omega) (by omega) (by omega) E2 w)
  have R3 := Lib.hid (fun w => refNum_fld s 8 10 n3 (by omega) (by omega) (by omega) E3 w)
  have R4 := Lib.hid (fun w => refNum_fld s 11 13 n4 (by omega) (by omega) (by omega) E4 w)
  have R5 := Lib.hid (fun w => refNum_fld s 14 16 n5 (by omega) (by omega) (by omega) E5 w)
  have R6 := Lib.hid (fun w => refNum_fld s 17 19 n6 (by omega) (by omega) (by omega) E6 w)
  have n1t : n1 ≤ 9999 := by rw [← E1]; exact numOf_top _ (by simp; omega)
  clear SW E1 E2 E3 E4 E5 E6
  have c1 := byte_ok 45 rfl (by omega) q1
  clear q1
  have c2 := byte_ok 45 rfl (by omega) q2
  clear q2
  have c3 := byte_ok 84 rfl (by omega) q3
  clear q3
  have c4 := byte_ok 58 rfl (by omega) q4
  clear q4
  have c5 := byte_ok 58 rfl (by omega) q5
  clear q5
  have c6 : decide (n1 < 1970) = true := decide_eq_true q6
  go_enter Tryd.func7, Tryd.ntmps7
  go_upto_block 0 with fail
  go_cut [4] (fun v W => v = .int .i64 f ∧ w = W)
  case first =>
    rcases HSW.out with ⟨hz, a, b, e⟩ | ⟨hz, a, rfl⟩
    · have RN := Lib.hid (fun w => refNum_fld s 20 23 f (by omega) (by omega) (by omega) e w)
      have x19 : (((s[19]'(by omega)).toNat : Int) == 46) = true := byte_eq 46 rfl (by omega) a
      have x23 : (((s[23]'(by omega)).toNat : Int) == 90) = true := byte_eq 90 rfl (by omega) b
      clear a b e HSW
      go_wp2_with fail
      with_reducible refine (RN.out _).mono ?_
      rintro e w' ⟨rfl, rfl⟩
      go_wp2_with fail
      go_meet
      exact ⟨rfl, rfl⟩
    · have x19 := byte_ok 90 rfl (by omega) a
      clear a HSW
      go_wp2_with fail
      go_meet
      exact ⟨rfl, rfl⟩
  obtain ⟨rfl, rfl⟩ := hcut
  go_wp2_with fail
  go_quiet ((go_at_call 12; first | with_reducible exact Calls.quiet_of_same (qsame (R1.out _)) | with_reducible exact Calls.quiet_of_same (qsame (R2.out _)) | with_reducible exact Calls.quiet_of_same (qsame (R3.out _)) | with_reducible exact Calls.quiet_of_same (qsame (R4.out _)) | with_reducible exact Calls.quiet_of_same (qsame (R5.out _)) | with_reducible exact Calls.quiet_of_same (qsame (R6.out _))))
  go_wp2_with fail
  go_ret2
  exact ⟨rfl, by repeat' (first | (with_reducible assumption) | (with_reducible exact Below.refl _ _) | (with_reducible refine below_drewN ?_ _) | (with_reducible refine Below.drew ?_) | (with_reducible refine Below.setCell ?_ ?_ _) | (with_reducible refine Below.alloc ?_ ?_ _) | omega | (simp; done) | (simp; omega))⟩
set_option maxHeartbeats 1600000 in
set_option maxRecDepth 100000 in
theorem refP_7 (s : ByteArray) (h20 : 20 ≤ s.size) (h100 : s.size ≤ 100) (f n1 n2 n3 n4 n5 n6 M : Int) (SW : SwOk s f) (NU : Nums s n1 n2 n3 n4 n5 n6) (q1 : byteIs s 4 45) (q2 : byteIs s 7 45) (q3 : byteIs s 10 84) (q4 : byteIs s 13 58) (q5 : byteIs s 16 58) (q6 : ¬ n1 < 1970) (q7 : n2 < 1) (w : World) :
    Calls Tryd.prog 7 #[.string s] w fun e w' => e = .returned (.tuple #[.int .i64 0, .bool false]) ∧ Below w.heap.size w w' := by
  have HSW := Lib.hid SW
  obtain ⟨E1, E2, E3, E4, E5, E6⟩ := NU
  have z20 : (20 : Int) ≤ (s.size : Int) := by omega
  have z4 : (4 : Int) ≤ (s.size : Int) := by omega
  have R1 := Lib.hid (fun w => refNum_fld s 0 4 n1 (by omega) (by omega) (by omega) E1 w)
  have R2 := Lib.hid (fun w => refNum_fld s 5 7 n2 (by omega) (by omega) (by omega) E2 w)
  have R3 := Lib.hid (fun w => refNum_fld s 8 10 n3 (by omega) (by omega) (by omega) E3 w)
  have R4 := Lib.hid (fun w => refNum_fld s 11 13 n4 (by omega) (by omega) (by omega) E4 w)
  have R5 := Lib.hid (fun w => refNum_fld s 14 16 n5 (by omega) (by omega) (by omega) E5 w)
  have R6 := Lib.hid (fun w => refNum_fld s 17 19 n6 (by omega) (by omega) (by omega) E6 w)
  have n1t : n1 ≤ 9999 := by rw [← E1]; exact numOf_top _ (by simp; omega)
  clear SW E1 E2 E3 E4 E5 E6
  have c1 := byte_ok 45 rfl (by omega) q1
  clear q1
  have c2 := byte_ok 45 rfl (by omega) q2
  clear q2
  have c3 := byte_ok 84 rfl (by omega) q3
  clear q3
  have c4 := byte_ok 58 rfl (by omega) q4
  clear q4
  have c5 := byte_ok 58 rfl (by omega) q5
  clear q5
  have c6 : decide (n1 < 1970) = false := decide_eq_false q6
  have c7 : decide (n2 < 1) = true := decide_eq_true q7
  go_enter Tryd.func7, Tryd.ntmps7
  go_upto_block 0 with fail
  go_cut [4] (fun v W => v = .int .i64 f ∧ w = W)
  case first =>
    rcases HSW.out with ⟨hz, a, b, e⟩ | ⟨hz, a, rfl⟩
    · have RN := Lib.hid (fun w => refNum_fld s 20 23 f (by omega) (by omega) (by omega) e w)
      have x19 : (((s[19]'(by omega)).toNat : Int) == 46) = true := byte_eq 46 rfl (by omega) a
      have x23 : (((s[23]'(by omega)).toNat : Int) == 90) = true := byte_eq 90 rfl (by omega) b
      clear a b e HSW
      go_wp2_with fail
      with_reducible refine (RN.out _).mono ?_
      rintro e w' ⟨rfl, rfl⟩
      go_wp2_with fail
      go_meet
      exact ⟨rfl, rfl⟩
    · have x19 := byte_ok 90 rfl (by omega) a
      clear a HSW
      go_wp2_with fail
      go_meet
      exact ⟨rfl, rfl⟩
  obtain ⟨rfl, rfl⟩ := hcut
  go_wp2_with fail
  go_quiet ((go_at_call 12; first | with_reducible exact Calls.quiet_of_same (qsame (R1.out _)) | with_reducible exact Calls.quiet_of_same (qsame (R2.out _)) | with_reducible exact Calls.quiet_of_same (qsame (R3.out _)) | with_reducible exact Calls.quiet_of_same (qsame (R4.out _)) | with_reducible exact Calls.quiet_of_same (qsame (R5.out _)) | with_reducible exact Calls.quiet_of_same (qsame (R6.out _))))
  go_wp2_with fail
  go_ret2
  exact ⟨rfl, by repeat' (first | (with_reducible assumption) | (with_reducible exact Below.refl _ _) | (with_reducible refine below_drewN ?_ _) | (with_reducible refine Below.drew ?_) | (with_reducible refine Below.setCell ?_ ?_ _) | (with_reducible refine Below.alloc ?_ ?_ _) | omega | (simp; done) | (simp; omega))⟩
set_option maxHeartbeats 1600000 in
set_option maxRecDepth 100000 in
theorem refP_8 (s : ByteArray) (h20 : 20 ≤ s.size) (h100 : s.size ≤ 100) (f n1 n2 n3 n4 n5 n6 M : Int) (SW : SwOk s f) (NU : Nums s n1 n2 n3 n4 n5 n6) (q1 : byteIs s 4 45) (q2 : byteIs s 7 45) (q3 : byteIs s 10 84) (q4 : byteIs s 13 58) (q5 : byteIs s 16 58) (q6 : ¬ n1 < 1970) (q7 : ¬ n2 < 1) (q8 : 12 < n2) (w : World) :
    Calls Tryd.prog 7 #[.string s] w fun e w' => e = .returned (.tuple #[.int .i64 0, .bool false]) ∧ Below w.heap.size w w' := by
  have HSW := Lib.hid SW
  obtain ⟨E1, E2, E3, E4, E5, E6⟩ := NU
  have z20 : (20 : Int) ≤ (s.size : Int) := by omega
  have z4 : (4 : Int) ≤ (s.size : Int) := by omega
  have R1 := Lib.hid (fun w => refNum_fld s 0 4 n1 (by omega) (by omega) (by omega) E1 w)
  have R2 := Lib.hid (fun w => refNum_fld s 5 7 n2 (by omega) (by omega) (by omega) E2 w)
  have R3 := Lib.hid (fun w => refNum_fld s 8 10 n3 (by omega) (by omega) (by omega) E3 w)
  have R4 := Lib.hid (fun w => refNum_fld s 11 13 n4 (by omega) (by omega) (by omega) E4 w)
  have R5 := Lib.hid (fun w => refNum_fld s 14 16 n5 (by omega) (by omega) (by omega) E5 w)
  have R6 := Lib.hid (fun w => refNum_fld s 17 19 n6 (by omega) (by omega) (by omega) E6 w)
  have n1t : n1 ≤ 9999 := by rw [← E1]; exact numOf_top _ (by simp; omega)
  clear SW E1 E2 E3 E4 E5 E6
  have c1 := byte_ok 45 rfl (by omega) q1
  clear q1
  have c2 := byte_ok 45 rfl (by omega) q2
  clear q2
  have c3 := byte_ok 84 rfl (by omega) q3
  clear q3
  have c4 := byte_ok 58 rfl (by omega) q4
  clear q4
  have c5 := byte_ok 58 rfl (by omega) q5
  clear q5
  have c6 : decide (n1 < 1970) = false := decide_eq_false q6
  have c7 : decide (n2 < 1) = false := decide_eq_false q7
  have c8 : decide (12 < n2) = true := decide_eq_true q8
  go_enter Tryd.func7, Tryd.ntmps7
  go_upto_block 0 with fail
  go_cut [4] (fun v W => v = .int .i64 f ∧ w = W)
  case first =>
    rcases HSW.out with ⟨hz, a, b, e⟩ | ⟨hz, a, rfl⟩
    · have RN := Lib.hid (fun w => refNum_fld s 20 23 f (by omega) (by omega) (by omega) e w)
      have x19 : (((s[19]'(by omega)).toNat : Int) == 46) = true := byte_eq 46 rfl (by omega) a
      have x23 : (((s[23]'(by omega)).toNat : Int) == 90) = true := byte_eq 90 rfl (by omega) b
      clear a b e HSW
      go_wp2_with fail
      with_reducible refine (RN.out _).mono ?_
      rintro e w' ⟨rfl, rfl⟩
      go_wp2_with fail
      go_meet
      exact ⟨rfl, rfl⟩
    · have x19 := byte_ok 90 rfl (by omega) a
      clear a HSW
      go_wp2_with fail
      go_meet
      exact ⟨rfl, rfl⟩
  obtain ⟨rfl, rfl⟩ := hcut
  go_wp2_with fail
  go_quiet ((go_at_call 12; first | with_reducible exact Calls.quiet_of_same (qsame (R1.out _)) | with_reducible exact Calls.quiet_of_same (qsame (R2.out _)) | with_reducible exact Calls.quiet_of_same (qsame (R3.out _)) | with_reducible exact Calls.quiet_of_same (qsame (R4.out _)) | with_reducible exact Calls.quiet_of_same (qsame (R5.out _)) | with_reducible exact Calls.quiet_of_same (qsame (R6.out _))))
  go_wp2_with fail
  go_ret2
  exact ⟨rfl, by repeat' (first | (with_reducible assumption) | (with_reducible exact Below.refl _ _) | (with_reducible refine below_drewN ?_ _) | (with_reducible refine Below.drew ?_) | (with_reducible refine Below.setCell ?_ ?_ _) | (with_reducible refine Below.alloc ?_ ?_ _) | omega | (simp; done) | (simp; omega))⟩
end Go.Proofs.YtoidmnleedkbiaaDoor
