/- Contracts of dbl.Split and the reference's Split: both tell the same four things of a pattern of 64 bits. No condition. -/
import Derived.Test.YtpbfbgkiamfodaaProg
import Derived.Test.YtpbfbgkiamfodaaAid
namespace Go.Proofs.Ytpbfbgkiamfodaa
open Go.RowKit

def dKind (b : Int) : Int := if b / 4503599627370496 % 2048 = 2047 then (if b % 4503599627370496 = 0 then 3 else 4) else if b / 4503599627370496 % 2048 = 0 ∧ b % 4503599627370496 = 0 then 1 else 2
def dNeg (b : Int) : Bool := b / 9223372036854775808 == 1
def dM (b : Int) : Int := if b / 4503599627370496 % 2048 = 2047 then 0 else if b / 4503599627370496 % 2048 = 0 then b % 4503599627370496 else 4503599627370496 + b % 4503599627370496
def dE (b : Int) : Int := if b / 4503599627370496 % 2048 = 2047 then 0 else if b / 4503599627370496 % 2048 = 0 then (if b % 4503599627370496 = 0 then 0 else -1074) else b / 4503599627370496 % 2048 - 1075

set_option maxHeartbeats 400000 in
theorem dblSplit_any (b : Int) (h0 : 0 ≤ b) (h1 : b ≤ 18446744073709551615) (w : World) :
    Calls Try.prog 12 #[.int .u64 b] w fun e w' => e = .returned (.tuple #[.int .i64 (dKind b), .bool (dNeg b), .int .u64 (dM b), .int .i64 (dE b)]) ∧ w = w' := by
  have e1 : bits .and .u64 (b / 4503599627370496) 2047 = b / 4503599627370496 % 2048 := and_mask 11 (by omega) _ (by omega) (by omega) _ (by decide)
  have e2 : bits .and .u64 b 4503599627370495 = b % 4503599627370496 := and_mask 52 (by omega) _ (by omega) (by omega) _ (by decide)
  by_cases hx : b / 4503599627370496 % 2048 = 2047
  · have q1 := beq_t hx
    have hx' : ¬ b / 4503599627370496 % 2048 = 0 := by omega
    have q2 := beq_f hx'
    by_cases hf : b % 4503599627370496 = 0
    · have q3 := beq_t hf
      have q4 := bne_f hf
      have HX := Lib.hid hx
      have HF := Lib.hid hf
      clear hx hf hx'
      go_enter Try.func12, Try.ntmps12
      go_wp2_with fail
      refine bodyPost_ret (results_tmp4 rfl _ _ _) rfl ?_
      exact ⟨by simp [dKind, dNeg, dM, dE, HX.out, HF.out], rfl⟩
    · have q3 := beq_f hf
      have q4 := bne_t hf
      have HX := Lib.hid hx
      have HF := Lib.hid hf
      clear hx hf hx'
      go_enter Try.func12, Try.ntmps12
      go_wp2_with fail
      refine bodyPost_ret (results_tmp4 rfl _ _ _) rfl ?_
      exact ⟨by simp [dKind, dNeg, dM, dE, HX.out, HF.out], rfl⟩
  · have q1 := beq_f hx
    by_cases hz : b / 4503599627370496 % 2048 = 0
    · have q2 := beq_t hz
      by_cases hf : b % 4503599627370496 = 0
      · have q3 := beq_t hf
        have q4 := bne_f hf
        have HX := Lib.hid hx
        have HF := Lib.hid hf
        have HZ := Lib.hid hz
        clear hx hf hz
        go_enter Try.func12, Try.ntmps12
        go_wp2_with fail
        refine bodyPost_ret (results_tmp4 rfl _ _ _) rfl ?_
        exact ⟨by simp [dKind, dNeg, dM, dE, HZ.out, HF.out], rfl⟩
      · have q3 := beq_f hf
        have q4 := bne_t hf
        have HX := Lib.hid hx
        have HF := Lib.hid hf
        have HZ := Lib.hid hz
        clear hx hf hz
        go_enter Try.func12, Try.ntmps12
        go_wp2_with fail
        refine bodyPost_ret (results_tmp4 rfl _ _ _) rfl ?_
        exact ⟨by simp [dKind, dNeg, dM, dE, HZ.out, HF.out], rfl⟩
    · have q2 := beq_f hz
      have e3 : bits .or .u64 4503599627370496 (b % 4503599627370496) = 4503599627370496 + b % 4503599627370496 := or_join 52 _ _ (by omega) (by decide) (by omega) (by omega) (by omega) (by omega)
      have HX := Lib.hid hx
      have HZ := Lib.hid hz
      clear hx hz
      go_enter Try.func12, Try.ntmps12
      go_wp2_with fail
      refine bodyPost_ret (results_tmp4 rfl _ _ _) rfl ?_
      exact ⟨by simp [dKind, dNeg, dM, dE, HX.out, HZ.out], rfl⟩

set_option maxHeartbeats 400000 in
theorem refSplit_any (b : Int) (h0 : 0 ≤ b) (h1 : b ≤ 18446744073709551615) (w : World) :
    Calls Try.prog 13 #[.int .u64 b] w fun e w' => e = .returned (.tuple #[.int .i64 (dKind b), .bool (dNeg b), .int .u64 (dM b), .int .i64 (dE b)]) ∧ w = w' := by
  have e1 : bits .and .u64 (b / 4503599627370496) 2047 = b / 4503599627370496 % 2048 := and_mask 11 (by omega) _ (by omega) (by omega) _ (by decide)
  have e2 : bits .and .u64 b 4503599627370495 = b % 4503599627370496 := and_mask 52 (by omega) _ (by omega) (by omega) _ (by decide)
  by_cases hx : b / 4503599627370496 % 2048 = 2047
  · have q1 := beq_t hx
    have hx' : ¬ b / 4503599627370496 % 2048 = 0 := by omega
    have q2 := beq_f hx'
    by_cases hf : b % 4503599627370496 = 0
    · have q3 := beq_t hf
      have q4 := bne_f hf
      have HX := Lib.hid hx
      have HF := Lib.hid hf
      clear hx hf hx'
      go_enter Try.func13, Try.ntmps13
      go_wp2_with fail
      refine bodyPost_ret (results_tmp4 rfl _ _ _) rfl ?_
      exact ⟨by simp [dKind, dNeg, dM, dE, HX.out, HF.out], rfl⟩
    · have q3 := beq_f hf
      have q4 := bne_t hf
      have HX := Lib.hid hx
      have HF := Lib.hid hf
      clear hx hf hx'
      go_enter Try.func13, Try.ntmps13
      go_wp2_with fail
      refine bodyPost_ret (results_tmp4 rfl _ _ _) rfl ?_
      exact ⟨by simp [dKind, dNeg, dM, dE, HX.out, HF.out], rfl⟩
  · have q1 := beq_f hx
    by_cases hz : b / 4503599627370496 % 2048 = 0
    · have q2 := beq_t hz
      by_cases hf : b % 4503599627370496 = 0
      · have q3 := beq_t hf
        have q4 := bne_f hf
        have HX := Lib.hid hx
        have HF := Lib.hid hf
        have HZ := Lib.hid hz
        clear hx hf hz
        go_enter Try.func13, Try.ntmps13
        go_wp2_with fail
        refine bodyPost_ret (results_tmp4 rfl _ _ _) rfl ?_
        exact ⟨by simp [dKind, dNeg, dM, dE, HZ.out, HF.out], rfl⟩
      · have q3 := beq_f hf
        have q4 := bne_t hf
        have HX := Lib.hid hx
        have HF := Lib.hid hf
        have HZ := Lib.hid hz
        clear hx hf hz
        go_enter Try.func13, Try.ntmps13
        go_wp2_with fail
        refine bodyPost_ret (results_tmp4 rfl _ _ _) rfl ?_
        exact ⟨by simp [dKind, dNeg, dM, dE, HZ.out, HF.out], rfl⟩
    · have q2 := beq_f hz
      have e3 : bits .or .u64 4503599627370496 (b % 4503599627370496) = 4503599627370496 + b % 4503599627370496 := or_join 52 _ _ (by omega) (by decide) (by omega) (by omega) (by omega) (by omega)
      have HX := Lib.hid hx
      have HZ := Lib.hid hz
      clear hx hz
      go_enter Try.func13, Try.ntmps13
      go_wp2_with fail
      refine bodyPost_ret (results_tmp4 rfl _ _ _) rfl ?_
      exact ⟨by simp [dKind, dNeg, dM, dE, HX.out, HZ.out], rfl⟩

set_option maxHeartbeats 400000 in
theorem awake11 (w : World) : Calls Try.prog 11 #[] w fun e w' => e = .returned (.bool true) ∧ w = w' := by
  go_enter Try.func11, Try.ntmps11
  go_wp2_with fail
  refine (dblSplit_any _ (by omega) (by omega) _).mono ?_
  rintro e w' ⟨rfl, rfl⟩
  have a1 : dKind 4609434218613702656 = 2 := by decide
  have a2 : dNeg 4609434218613702656 = false := by decide
  have a3 : dM 4609434218613702656 = 6755399441055744 := by decide
  have a4 : dE 4609434218613702656 = -52 := by decide
  go_wp2_with fail
  go_ret
  exact ⟨by simp, rfl⟩

set_option maxHeartbeats 400000 in
theorem dblSplits_walk (b : Int) (h0 : 0 ≤ b) (h1 : b ≤ 18446744073709551615) (w : World) :
    Calls Try.prog 3 #[.int .u64 b] w fun e w' => e = .returned (.bool true) ∧ w = w' := by
  go_enter Try.func3, Try.ntmps3
  go_wp2_with fail
  refine (awake11 _).mono ?_
  rintro e w' ⟨rfl, rfl⟩
  go_wp2_with fail
  refine (dblSplit_any _ h0 h1 _).mono ?_
  rintro e w' ⟨rfl, rfl⟩
  go_wp2_with fail
  refine (refSplit_any _ h0 h1 _).mono ?_
  rintro e w' ⟨rfl, rfl⟩
  go_wp2_with fail
  go_ret
  exact ⟨by simp, rfl⟩
end Go.Proofs.Ytpbfbgkiamfodaa
