/- The walk of DeciJoins. No condition. -/
import Derived.Test.YtpbfbgkiamfodaaDec3
namespace Go.Proofs.Ytpbfbgkiamfodaa
open Go.RowKit

set_option maxHeartbeats 400000 in
theorem awake14 (w : World) :
    Calls Try.prog 16 #[] w fun e w' => e = .returned (.bool true) ∧ Below w.heap.size w w' := by
  have hj := fun w => deciJoin_any false 0 1 0 (by decide) (by decide) (by decide) (by decide) (by decide) (by decide) w
  have e1 : jHigh false 0 1 0 = 3476778912330022912 := by decide
  have e2 : jLow 0 1 0 = 1 := by decide
  have e3 : jOk 0 1 0 = true := by decide
  rw [e1, e2, e3] at hj
  have HJ := Lib.hid hj
  clear hj e1 e2 e3
  go_enter Try.func16, Try.ntmps16
  go_wp2_with fail
  with_reducible refine (HJ.out _).mono ?_
  rintro e w' ⟨rfl, hb⟩
  go_wp2_with fail
  go_ret
  exact ⟨by simp, by first | exact hb | (exact hb.mono (by simp; omega)) | skip⟩

set_option maxHeartbeats 800000 in
theorem deciJoins_walk (n : Bool) (h l x : Int) (h0 : 0 ≤ h) (h1 : h ≤ 18446744073709551615) (l0 : 0 ≤ l) (l1 : l ≤ 18446744073709551615) (x0 : -9223372036854775808 ≤ x) (x1 : x ≤ 9223372036854775807) (w : World) :
    Calls Try.prog 6 #[.bool n, .agg #[.int .u64 h, .int .u64 l], .int .i64 x] w fun e w' => e = .returned (.bool true) ∧ Below w.heap.size w w' := by
  have J1 := Lib.hid (fun w => deciJoin_any n h l x h0 h1 l0 l1 x0 x1 w)
  have J2 := Lib.hid (fun w => refJoin_any n h l x h0 h1 l0 l1 x0 x1 w)
  go_enter Try.func6, Try.ntmps6
  go_wp2_with fail
  with_reducible refine (awake14 _).mono ?_
  rintro e w1 ⟨rfl, hb1⟩
  obtain ⟨c0, c1, f0, f1, hz, hw⟩ := kept2 hb1
  clear hb1
  go_wp2_with fail
  with_reducible refine (J1.out _).mono ?_
  rintro e w2 ⟨rfl, hb2⟩
  obtain ⟨c20, c21, hz2, hw2⟩ := keep4 (w := w) (a := .int .u64 h) (b := .int .u64 l) hb2 (by first | assumption | (simp [go_sem]; done) | (simp [go_sem, *]; done)) (by first | assumption | (simp [go_sem]; done) | (simp [go_sem, *]; done)) (by first | assumption | (simp; done) | (simp; omega)) (by first | assumption | (repeat' (first | (with_reducible assumption) | (with_reducible exact Below.refl _ _) | (with_reducible refine below_drewN ?_ _) | (with_reducible refine Below.drew ?_) | (with_reducible refine Below.setCell ?_ ?_ _) | (with_reducible refine Below.alloc ?_ ?_ _) | omega | (simp; done) | (simp; omega))))
  clear hb2
  go_wp2_with fail
  with_reducible refine (J2.out _).mono ?_
  rintro e w3 ⟨rfl, hb3⟩
  obtain ⟨c30, c31, hz3, hw3⟩ := keep4 (w := w) (a := .int .u64 h) (b := .int .u64 l) hb3 (by first | assumption | (simp [go_sem]; done) | (simp [go_sem, *]; done)) (by first | assumption | (simp [go_sem]; done) | (simp [go_sem, *]; done)) (by first | assumption | (simp; done) | (simp; omega)) (by first | assumption | (repeat' (first | (with_reducible assumption) | (with_reducible exact Below.refl _ _) | (with_reducible refine below_drewN ?_ _) | (with_reducible refine Below.drew ?_) | (with_reducible refine Below.setCell ?_ ?_ _) | (with_reducible refine Below.alloc ?_ ?_ _) | omega | (simp; done) | (simp; omega))))
  clear hb3
  generalize jHigh n h l x = a
  generalize jLow h l x = b
  generalize jOk h l x = c
  go_wp2_with fail
  go_ret
  exact ⟨by simp, by repeat' (first | (with_reducible assumption) | (with_reducible exact Below.refl _ _) | (with_reducible refine below_drewN ?_ _) | (with_reducible refine Below.drew ?_) | (with_reducible refine Below.setCell ?_ ?_ _) | (with_reducible refine Below.alloc ?_ ?_ _) | omega | (simp; done) | (simp; omega))⟩
end Go.Proofs.Ytpbfbgkiamfodaa
