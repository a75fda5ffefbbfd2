/- Contract of the reference's Plain. No condition. -/
import Derived.Test.YtpgooajifehbbaaDoorDec6
import Derived.Test.YtpgooajifehbbaaDoorDec9
namespace Go.Proofs.YtpgooajifehbbaaDoor
open Go.RowKit
set_option linter.unusedSimpArgs false
set_option linter.unusedVariables false

set_option maxRecDepth 100000 in
set_option maxHeartbeats 800000 in
theorem refPlain_any (a b : Int) (a0 : 0 ≤ a) (a1 : a ≤ 18446744073709551615) (b0 : 0 ≤ b) (b1 : b ≤ 18446744073709551615) (w : World) :
    Calls Tryd.prog 14 #[.int .u64 a, .int .u64 b] w fun e w' => e = .returned (.bool (pPlain a b)) ∧ Below w.heap.size w w' := by
  have J1 := fun w => refSplit_any a b a0 a1 b0 b1 w
  obtain ⟨s0, s1, s2, s3, s4, s5⟩ := split_bounds a b b0 b1
  have J2 := fun w => refJoin_any (sNeg a) (sHigh a b) (sLow a b) (sExp a) s0 s1 s2 s3 s4 s5 w
  rcases kind_three a with hk | hk | hk
  · rw [hk] at J1
    have hp := plain_3 (b := b) hk
    clear J2 hk
    generalize sNeg a = n at *
    generalize sHigh a b = sh at *
    generalize sLow a b = sl at *
    generalize sExp a = sx at *
    generalize pPlain a b = P at *
    have J := Lib.hid J1
    have HP := Lib.hid hp
    clear J1 hp
    by_cases ha : a = 8935141660703064064
    · have ga := beq_t ha
      have HA := Lib.hid ha
      clear ha
      by_cases hb : b = 0
      · have gb := beq_t hb
        have HB := Lib.hid hb
        clear hb
        go_enter Tryd.func14, Tryd.ntmps14
        go_wp2_with fail
        with_reducible refine (J.out _).mono ?_
        rintro e w1 ⟨rfl, hb1⟩
        have hz1 := hb1.size
        go_wp2_with fail
        go_ret
        exact ⟨by rw [HP.out]; simp [HA.out, HB.out], by repeat' (first | (with_reducible assumption) | (with_reducible exact Below.refl _ _) | (with_reducible refine below_drewN ?_ _) | (with_reducible refine Below.drew ?_) | (with_reducible refine Below.setCell ?_ ?_ _) | (with_reducible refine Below.alloc ?_ ?_ _) | omega | (simp; done) | (simp; omega))⟩
      · have gb := beq_f hb
        have HB := Lib.hid hb
        clear hb
        go_enter Tryd.func14, Tryd.ntmps14
        go_wp2_with fail
        with_reducible refine (J.out _).mono ?_
        rintro e w1 ⟨rfl, hb1⟩
        have hz1 := hb1.size
        go_wp2_with fail
        go_ret
        exact ⟨by rw [HP.out]; simp [HA.out, HB.out], by repeat' (first | (with_reducible assumption) | (with_reducible exact Below.refl _ _) | (with_reducible refine below_drewN ?_ _) | (with_reducible refine Below.drew ?_) | (with_reducible refine Below.setCell ?_ ?_ _) | (with_reducible refine Below.alloc ?_ ?_ _) | omega | (simp; done) | (simp; omega))⟩
    · have ga := beq_f ha
      have HA := Lib.hid ha
      clear ha
      go_enter Tryd.func14, Tryd.ntmps14
      go_wp2_with fail
      with_reducible refine (J.out _).mono ?_
      rintro e w1 ⟨rfl, hb1⟩
      have hz1 := hb1.size
      go_wp2_with fail
      go_ret
      exact ⟨by rw [HP.out]; simp [HA.out], by repeat' (first | (with_reducible assumption) | (with_reducible exact Below.refl _ _) | (with_reducible refine below_drewN ?_ _) | (with_reducible refine Below.drew ?_) | (with_reducible refine Below.setCell ?_ ?_ _) | (with_reducible refine Below.alloc ?_ ?_ _) | omega | (simp; done) | (simp; omega))⟩
  · rw [hk] at J1
    have hp := plain_2 (b := b) hk
    clear J2 hk
    generalize sNeg a = n at *
    generalize sHigh a b = sh at *
    generalize sLow a b = sl at *
    generalize sExp a = sx at *
    generalize pPlain a b = P at *
    have J := Lib.hid J1
    have HP := Lib.hid hp
    clear J1 hp
    by_cases ha : a = 8646911284551352320
    · have ga := beq_t ha
      have hmd : decide (a % 9223372036854775808 = 8646911284551352320) = true := by simp; omega
      have MD := Lib.hid hmd
      have HA := Lib.hid ha
      clear hmd ha
      by_cases hb : b = 0
      · have gb := beq_t hb
        have HB := Lib.hid hb
        clear hb
        go_enter Tryd.func14, Tryd.ntmps14
        go_wp2_with fail
        with_reducible refine (J.out _).mono ?_
        rintro e w1 ⟨rfl, hb1⟩
        have hz1 := hb1.size
        go_wp2_with fail
        go_ret
        exact ⟨by rw [HP.out, MD.out]; simp [HB.out], by repeat' (first | (with_reducible assumption) | (with_reducible exact Below.refl _ _) | (with_reducible refine below_drewN ?_ _) | (with_reducible refine Below.drew ?_) | (with_reducible refine Below.setCell ?_ ?_ _) | (with_reducible refine Below.alloc ?_ ?_ _) | omega | (simp; done) | (simp; omega))⟩
      · have gb := beq_f hb
        have HB := Lib.hid hb
        clear hb
        go_enter Tryd.func14, Tryd.ntmps14
        go_wp2_with fail
        with_reducible refine (J.out _).mono ?_
        rintro e w1 ⟨rfl, hb1⟩
        have hz1 := hb1.size
        go_wp2_with fail
        go_ret
        exact ⟨by rw [HP.out]; simp [HB.out], by repeat' (first | (with_reducible assumption) | (with_reducible exact Below.refl _ _) | (with_reducible refine below_drewN ?_ _) | (with_reducible refine Below.drew ?_) | (with_reducible refine Below.setCell ?_ ?_ _) | (with_reducible refine Below.alloc ?_ ?_ _) | omega | (simp; done) | (simp; omega))⟩
    · have ga := beq_f ha
      by_cases hc : a = 17870283321406128128
      · have gc := beq_t hc
        have hmd : decide (a % 9223372036854775808 = 8646911284551352320) = true := by simp; omega
        have MD := Lib.hid hmd
        have HA := Lib.hid ha
        have HC := Lib.hid hc
        clear hmd ha hc
        by_cases hb : b = 0
        · have gb := beq_t hb
          have HB := Lib.hid hb
          clear hb
          go_enter Tryd.func14, Tryd.ntmps14
          go_wp2_with fail
          with_reducible refine (J.out _).mono ?_
          rintro e w1 ⟨rfl, hb1⟩
          have hz1 := hb1.size
          go_wp2_with fail
          go_ret
          exact ⟨by rw [HP.out, MD.out]; simp [HB.out], by repeat' (first | (with_reducible assumption) | (with_reducible exact Below.refl _ _) | (with_reducible refine below_drewN ?_ _) | (with_reducible refine Below.drew ?_) | (with_reducible refine Below.setCell ?_ ?_ _) | (with_reducible refine Below.alloc ?_ ?_ _) | omega | (simp; done) | (simp; omega))⟩
        · have gb := beq_f hb
          have HB := Lib.hid hb
          clear hb
          go_enter Tryd.func14, Tryd.ntmps14
          go_wp2_with fail
          with_reducible refine (J.out _).mono ?_
          rintro e w1 ⟨rfl, hb1⟩
          have hz1 := hb1.size
          go_wp2_with fail
          go_ret
          exact ⟨by rw [HP.out]; simp [HB.out], by repeat' (first | (with_reducible assumption) | (with_reducible exact Below.refl _ _) | (with_reducible refine below_drewN ?_ _) | (with_reducible refine Below.drew ?_) | (with_reducible refine Below.setCell ?_ ?_ _) | (with_reducible refine Below.alloc ?_ ?_ _) | omega | (simp; done) | (simp; omega))⟩
      · have gc := beq_f hc
        have hmd : decide (a % 9223372036854775808 = 8646911284551352320) = false := by simp; omega
        have MD := Lib.hid hmd
        have HA := Lib.hid ha
        have HC := Lib.hid hc
        clear hmd ha hc
        go_enter Tryd.func14, Tryd.ntmps14
        go_wp2_with fail
        with_reducible refine (J.out _).mono ?_
        rintro e w1 ⟨rfl, hb1⟩
        have hz1 := hb1.size
        go_wp2_with fail
        go_ret
        exact ⟨by rw [HP.out, MD.out]; simp, by repeat' (first | (with_reducible assumption) | (with_reducible exact Below.refl _ _) | (with_reducible refine below_drewN ?_ _) | (with_reducible refine Below.drew ?_) | (with_reducible refine Below.setCell ?_ ?_ _) | (with_reducible refine Below.alloc ?_ ?_ _) | omega | (simp; done) | (simp; omega))⟩
  · rw [hk] at J1
    have hp := plain_fin a b hk
    have hj := again_fin a b hk
    rw [hj] at J2
    clear hk hj
    generalize jHigh (sNeg a) (sHigh a b) (sLow a b) (sExp a) = H at *
    generalize jLow (sHigh a b) (sLow a b) (sExp a) = L at *
    generalize sNeg a = n at *
    generalize sHigh a b = sh at *
    generalize sLow a b = sl at *
    generalize sExp a = sx at *
    generalize pPlain a b = P at *
    have J := Lib.hid J1
    have K := Lib.hid J2
    have HP := Lib.hid hp
    clear J1 J2 hp
    by_cases ha : H = a
    · have ga := beq_t ha
      have HA := Lib.hid ha
      clear ha
      by_cases hb : L = b
      · have gb := beq_t hb
        have HB := Lib.hid hb
        clear hb
        go_enter Tryd.func14, Tryd.ntmps14
        go_wp2_with fail
        with_reducible refine (J.out _).mono ?_
        rintro e w1 ⟨rfl, hb1⟩
        have hz1 := hb1.size
        go_wp2_with fail
        with_reducible refine (K.out _).mono ?_
        rintro e w2 ⟨rfl, hb2⟩
        obtain ⟨c0, c1, f0, f1, hz, hw⟩ := kept2 hb2
        have hw2 := hb1.trans (hw.mono hz1)
        clear hb2 hw
        go_wp2_with fail
        go_ret
        exact ⟨by rw [HP.out]; simp [HA.out, HB.out], by repeat' (first | (with_reducible assumption) | (with_reducible exact Below.refl _ _) | (with_reducible refine below_drewN ?_ _) | (with_reducible refine Below.drew ?_) | (with_reducible refine Below.setCell ?_ ?_ _) | (with_reducible refine Below.alloc ?_ ?_ _) | omega | (simp; done) | (simp; omega))⟩
      · have gb := beq_f hb
        have HB := Lib.hid hb
        clear hb
        go_enter Tryd.func14, Tryd.ntmps14
        go_wp2_with fail
        with_reducible refine (J.out _).mono ?_
        rintro e w1 ⟨rfl, hb1⟩
        have hz1 := hb1.size
        go_wp2_with fail
        with_reducible refine (K.out _).mono ?_
        rintro e w2 ⟨rfl, hb2⟩
        obtain ⟨c0, c1, f0, f1, hz, hw⟩ := kept2 hb2
        have hw2 := hb1.trans (hw.mono hz1)
        clear hb2 hw
        go_wp2_with fail
        go_ret
        exact ⟨by rw [HP.out]; simp [HA.out, HB.out], by repeat' (first | (with_reducible assumption) | (with_reducible exact Below.refl _ _) | (with_reducible refine below_drewN ?_ _) | (with_reducible refine Below.drew ?_) | (with_reducible refine Below.setCell ?_ ?_ _) | (with_reducible refine Below.alloc ?_ ?_ _) | omega | (simp; done) | (simp; omega))⟩
    · have ga := beq_f ha
      have HA := Lib.hid ha
      clear ha
      go_enter Tryd.func14, Tryd.ntmps14
      go_wp2_with fail
      with_reducible refine (J.out _).mono ?_
      rintro e w1 ⟨rfl, hb1⟩
      have hz1 := hb1.size
      go_wp2_with fail
      with_reducible refine (K.out _).mono ?_
      rintro e w2 ⟨rfl, hb2⟩
      obtain ⟨c0, c1, f0, f1, hz, hw⟩ := kept2 hb2
      have hw2 := hb1.trans (hw.mono hz1)
      clear hb2 hw
      go_wp2_with fail
      go_ret
      exact ⟨by rw [HP.out]; simp [HA.out], by repeat' (first | (with_reducible assumption) | (with_reducible exact Below.refl _ _) | (with_reducible refine below_drewN ?_ _) | (with_reducible refine Below.drew ?_) | (with_reducible refine Below.setCell ?_ ?_ _) | (with_reducible refine Below.alloc ?_ ?_ _) | omega | (simp; done) | (simp; omega))⟩
end Go.Proofs.YtpgooajifehbbaaDoor
