/- The walks of DeciPlains, DeciBack and DeciAgain. No condition. -/
import Derived.Test.YtpbfbgkiamfodaaDec4
import Derived.Test.YtpbfbgkiamfodaaDec10
namespace Go.Proofs.Ytpbfbgkiamfodaa
open Go.RowKit

set_option maxHeartbeats 800000 in
theorem deciPlains_walk (a b : Int) (a0 : 0 ≤ a) (a1 : a ≤ 18446744073709551615) (b0 : 0 ≤ b) (b1 : b ≤ 18446744073709551615) (w : World) :
    Calls Try.prog 8 #[.int .u64 a, .int .u64 b] w fun e w' => e = .returned (.bool true) ∧ Below w.heap.size w w' := by
  have J1 := Lib.hid (fun w => deciPlain_any a b a0 a1 b0 b1 w)
  have J2 := Lib.hid (fun w => refPlain_any a b a0 a1 b0 b1 w)
  generalize pPlain a b = P at *
  go_enter Try.func8, Try.ntmps8
  go_wp2_with fail
  with_reducible refine (awake14 _).mono ?_
  rintro e w1 ⟨rfl, hb1⟩
  have hz1 := hb1.size
  go_wp2_with fail
  with_reducible refine (J1.out _).mono ?_
  rintro e w2 ⟨rfl, hb2⟩
  have hw2 := hb1.trans (hb2.mono hz1)
  have hz2 := hw2.size
  clear hb2
  go_wp2_with fail
  with_reducible refine (J2.out _).mono ?_
  rintro e w3 ⟨rfl, hb3⟩
  have hw3 := hw2.trans (hb3.mono hz2)
  have hz3 := hw3.size
  clear hb3
  go_wp2_with fail
  go_ret
  exact ⟨by simp, by repeat' (first | (with_reducible assumption) | (with_reducible exact Below.refl _ _) | (with_reducible refine below_drewN ?_ _) | (with_reducible refine Below.drew ?_) | (with_reducible refine Below.setCell ?_ ?_ _) | (with_reducible refine Below.alloc ?_ ?_ _) | omega | (simp; done) | (simp; omega))⟩

set_option maxHeartbeats 800000 in
theorem deciBack_walk (n : Bool) (h l x : Int) (h0 : 0 ≤ h) (h1 : h ≤ 18446744073709551615) (l0 : 0 ≤ l) (l1 : l ≤ 18446744073709551615) (x0 : -9223372036854775808 ≤ x) (x1 : x ≤ 9223372036854775807) (w : World) :
    Calls Try.prog 9 #[.bool n, .agg #[.int .u64 h, .int .u64 l], .int .i64 x] w fun e w' => e = .returned (.bool true) ∧ Below w.heap.size w w' := by
  have J := fun w => deciJoin_any n h l x h0 h1 l0 l1 x0 x1 w
  cases e : jOk h l x
  · have eh : jHigh n h l x = 0 := by unfold jHigh; rw [e]; rfl
    have el : jLow h l x = 0 := by unfold jLow; rw [e]; rfl
    rw [e, eh, el] at J
    have J1 := Lib.hid J
    clear J e eh el
    go_enter Try.func9, Try.ntmps9
    go_wp2_with fail
    with_reducible refine (awake14 _).mono ?_
    rintro e w1 ⟨rfl, hb1⟩
    obtain ⟨c0, c1, f0, f1, hz, hw⟩ := kept2 hb1
    clear hb1
    go_wp2_with fail
    with_reducible refine (J1.out _).mono ?_
    rintro e w2 ⟨rfl, hb2⟩
    obtain ⟨c20, c21, hz2, hw2⟩ := keep4 (w := w) (a := .int .u64 h) (b := .int .u64 l) hb2 (by first | assumption | (simp [go_sem]; done) | (simp [go_sem, *]; done)) (by first | assumption | (simp [go_sem]; done) | (simp [go_sem, *]; done)) (by first | assumption | (simp; done) | (simp; omega)) (by first | assumption | (repeat' (first | (with_reducible assumption) | (with_reducible exact Below.refl _ _) | (with_reducible refine below_drewN ?_ _) | (with_reducible refine Below.drew ?_) | (with_reducible refine Below.setCell ?_ ?_ _) | (with_reducible refine Below.alloc ?_ ?_ _) | omega | (simp; done) | (simp; omega))))
    clear hb2
    go_wp2_with fail
    go_ret
    exact ⟨by simp, by repeat' (first | (with_reducible assumption) | (with_reducible exact Below.refl _ _) | (with_reducible refine below_drewN ?_ _) | (with_reducible refine Below.drew ?_) | (with_reducible refine Below.setCell ?_ ?_ _) | (with_reducible refine Below.alloc ?_ ?_ _) | omega | (simp; done) | (simp; omega))⟩
  · obtain ⟨k1, k2, k3, k4, k5, k6, k7, k8⟩ := back_kind n h l x h0 l0 e
    have hp := back_plain n h l x h0 l0 e
    have S := fun w => deciSplit_any (jHigh n h l x) (jLow h l x) k6 k7 (by omega) (by omega) w
    have Q := fun w => deciPlain_any (jHigh n h l x) (jLow h l x) k6 k7 (by omega) (by omega) w
    rw [k1, k2, k3, k4, k5] at S
    rw [hp] at Q
    rw [e] at J
    clear k1 k2 k3 k4 k5 k6 k7 k8 hp e
    generalize jHigh n h l x = H at *
    generalize jLow h l x = L at *
    have J1 := Lib.hid J
    have S1 := Lib.hid S
    have Q1 := Lib.hid Q
    clear J S Q
    go_enter Try.func9, Try.ntmps9
    go_wp2_with fail
    with_reducible refine (awake14 _).mono ?_
    rintro e w1 ⟨rfl, hb1⟩
    obtain ⟨c0, c1, f0, f1, hz, hw⟩ := kept2 hb1
    clear hb1
    go_wp2_with fail
    with_reducible refine (J1.out _).mono ?_
    rintro e w2 ⟨rfl, hb2⟩
    obtain ⟨c20, c21, hz2, hw2⟩ := keep4 (w := w) (a := .int .u64 h) (b := .int .u64 l) hb2 (by first | assumption | (simp [go_sem]; done) | (simp [go_sem, *]; done)) (by first | assumption | (simp [go_sem]; done) | (simp [go_sem, *]; done)) (by first | assumption | (simp; done) | (simp; omega)) (by first | assumption | (repeat' (first | (with_reducible assumption) | (with_reducible exact Below.refl _ _) | (with_reducible refine below_drewN ?_ _) | (with_reducible refine Below.drew ?_) | (with_reducible refine Below.setCell ?_ ?_ _) | (with_reducible refine Below.alloc ?_ ?_ _) | omega | (simp; done) | (simp; omega))))
    clear hb2
    go_wp2_with fail
    with_reducible refine (S1.out _).mono ?_
    rintro e w3 ⟨rfl, hb3⟩
    obtain ⟨c30, c31, hz3, hw3⟩ := keep4 (w := w) (a := .int .u64 h) (b := .int .u64 l) hb3 (by first | assumption | (simp [go_sem]; done) | (simp [go_sem, *]; done)) (by first | assumption | (simp [go_sem]; done) | (simp [go_sem, *]; done)) (by first | assumption | (simp; done) | (simp; omega)) (by first | assumption | (repeat' (first | (with_reducible assumption) | (with_reducible exact Below.refl _ _) | (with_reducible refine below_drewN ?_ _) | (with_reducible refine Below.drew ?_) | (with_reducible refine Below.setCell ?_ ?_ _) | (with_reducible refine Below.alloc ?_ ?_ _) | omega | (simp; done) | (simp; omega))))
    clear hb3
    go_wp2_with fail
    with_reducible refine (Q1.out _).mono ?_
    rintro e w4 ⟨rfl, hb4⟩
    obtain ⟨d0, d1, d2, d3, hz4, hw4'⟩ := kept2 hb4
    obtain ⟨c40, c41, hz5, hw4⟩ := keep4 (w := w) (a := .int .u64 h) (b := .int .u64 l) hb4 (by first | assumption | (simp [go_sem]; done) | (simp [go_sem, *]; done)) (by first | assumption | (simp [go_sem]; done) | (simp [go_sem, *]; done)) (by first | assumption | (simp; done) | (simp; omega)) (by first | assumption | (repeat' (first | (with_reducible assumption) | (with_reducible exact Below.refl _ _) | (with_reducible refine below_drewN ?_ _) | (with_reducible refine Below.drew ?_) | (with_reducible refine Below.setCell ?_ ?_ _) | (with_reducible refine Below.alloc ?_ ?_ _) | omega | (simp; done) | (simp; omega))))
    clear hb4 hw4'
    go_wp2_with fail
    go_ret
    exact ⟨by simp, by repeat' (first | (with_reducible assumption) | (with_reducible exact Below.refl _ _) | (with_reducible refine below_drewN ?_ _) | (with_reducible refine Below.drew ?_) | (with_reducible refine Below.setCell ?_ ?_ _) | (with_reducible refine Below.alloc ?_ ?_ _) | omega | (simp; done) | (simp; omega))⟩

set_option maxHeartbeats 800000 in
theorem deciAgain_walk (a b : Int) (a0 : 0 ≤ a) (a1 : a ≤ 18446744073709551615) (b0 : 0 ≤ b) (b1 : b ≤ 18446744073709551615) (w : World) :
    Calls Try.prog 10 #[.int .u64 a, .int .u64 b] w fun e w' => e = .returned (.bool true) ∧ Below w.heap.size w w' := by
  have S := fun w => deciSplit_any a b a0 a1 b0 b1 w
  obtain ⟨s0, s1, s2, s3, s4, s5⟩ := split_bounds a b b0 b1
  have J := fun w => deciJoin_any (sNeg a) (sHigh a b) (sLow a b) (sExp a) s0 s1 s2 s3 s4 s5 w
  by_cases hk : sKind a = 1
  · have hj := again_fin a b hk
    obtain ⟨b2, b3, b4, b5, b6, b7, b8, b9⟩ := back_kind (sNeg a) (sHigh a b) (sLow a b) (sExp a) s0 s2 hj
    have hp := back_plain (sNeg a) (sHigh a b) (sLow a b) (sExp a) s0 s2 hj
    have P := fun w => deciPlain_any (jHigh (sNeg a) (sHigh a b) (sLow a b) (sExp a)) (jLow (sHigh a b) (sLow a b) (sExp a)) b7 b8 (by omega) (by omega) w
    have Q := fun w => deciPlain_any a b a0 a1 b0 b1 w
    rw [hp] at P
    rw [plain_fin a b hk] at Q
    rw [hj] at J
    rw [hk] at S
    clear b2 b3 b4 b5 b6 b7 b8 b9 hp hj hk
    generalize jHigh (sNeg a) (sHigh a b) (sLow a b) (sExp a) = H at *
    generalize jLow (sHigh a b) (sLow a b) (sExp a) = L at *
    generalize sNeg a = n at *
    generalize sHigh a b = sh at *
    generalize sLow a b = sl at *
    generalize sExp a = sx at *
    by_cases ha : H = a
    · have ga := beq_t ha
      by_cases hb : L = b
      · have gb := beq_t hb
        have hq : (decide (H = a) && decide (L = b)) = true := by simp [ha, hb]
        rw [hq] at Q
        clear ha hb hq
        replace S := Lib.hid S
        replace J := Lib.hid J
        replace P := Lib.hid P
        replace Q := Lib.hid Q
        go_enter Try.func10, Try.ntmps10
        go_wp2_with fail
        with_reducible refine (awake14 _).mono ?_
        rintro e w1 ⟨rfl, hb1⟩
        have hw1 : Below w.heap.size w w1 := Below.trans (by repeat' (first | (with_reducible assumption) | (with_reducible exact Below.refl _ _) | (with_reducible refine below_drewN ?_ _) | (with_reducible refine Below.drew ?_) | (with_reducible refine Below.setCell ?_ ?_ _) | (with_reducible refine Below.alloc ?_ ?_ _) | omega | (simp; done) | (simp; omega))) (hb1.mono (by first | assumption | (simp; done) | (simp; omega)))
        have hz1 := hw1.size
        clear hb1
        go_wp2_with fail
        with_reducible refine (S.out _).mono ?_
        rintro e w2 ⟨rfl, hb2⟩
        have hw2 : Below w.heap.size w w2 := Below.trans (by repeat' (first | (with_reducible assumption) | (with_reducible exact Below.refl _ _) | (with_reducible refine below_drewN ?_ _) | (with_reducible refine Below.drew ?_) | (with_reducible refine Below.setCell ?_ ?_ _) | (with_reducible refine Below.alloc ?_ ?_ _) | omega | (simp; done) | (simp; omega))) (hb2.mono (by first | assumption | (simp; done) | (simp; omega)))
        have hz2 := hw2.size
        clear hb2
        go_wp2_with fail
        with_reducible refine (J.out _).mono ?_
        rintro e w3 ⟨rfl, hb3⟩
        have c3_0 : w3.cell? ⟨w2.heap.size, 0, none⟩ = some (.int .u64 sh) := (hb3.cell (p := ⟨w2.heap.size, 0, none⟩) (by first | assumption | (simp; done) | (simp; omega))).trans (by first | assumption | (simp [go_sem]; done) | (simp [go_sem, *]; done))
        have c3_1 : w3.cell? ⟨w2.heap.size, 1, none⟩ = some (.int .u64 sl) := (hb3.cell (p := ⟨w2.heap.size, 1, none⟩) (by first | assumption | (simp; done) | (simp; omega))).trans (by first | assumption | (simp [go_sem]; done) | (simp [go_sem, *]; done))
        have hl3_0 : w2.heap.size < w3.heap.size := by have hs := hb3.size; first | (simp at hs; omega) | omega
        have hw3 : Below w.heap.size w w3 := Below.trans (by repeat' (first | (with_reducible assumption) | (with_reducible exact Below.refl _ _) | (with_reducible refine below_drewN ?_ _) | (with_reducible refine Below.drew ?_) | (with_reducible refine Below.setCell ?_ ?_ _) | (with_reducible refine Below.alloc ?_ ?_ _) | omega | (simp; done) | (simp; omega))) (hb3.mono (by first | assumption | (simp; done) | (simp; omega)))
        have hz3 := hw3.size
        clear hb3
        go_wp2_with fail
        with_reducible refine (P.out _).mono ?_
        rintro e w4 ⟨rfl, hb4⟩
        have c4_0 : w4.cell? ⟨w2.heap.size, 0, none⟩ = some (.int .u64 sh) := (hb4.cell (p := ⟨w2.heap.size, 0, none⟩) (by first | assumption | (simp; done) | (simp; omega))).trans (by first | assumption | (simp [go_sem]; done) | (simp [go_sem, *]; done))
        have c4_1 : w4.cell? ⟨w2.heap.size, 1, none⟩ = some (.int .u64 sl) := (hb4.cell (p := ⟨w2.heap.size, 1, none⟩) (by first | assumption | (simp; done) | (simp; omega))).trans (by first | assumption | (simp [go_sem]; done) | (simp [go_sem, *]; done))
        have hl4_0 : w2.heap.size < w4.heap.size := by have hs := hb4.size; first | (simp at hs; omega) | omega
        have hw4 : Below w.heap.size w w4 := Below.trans (by repeat' (first | (with_reducible assumption) | (with_reducible exact Below.refl _ _) | (with_reducible refine below_drewN ?_ _) | (with_reducible refine Below.drew ?_) | (with_reducible refine Below.setCell ?_ ?_ _) | (with_reducible refine Below.alloc ?_ ?_ _) | omega | (simp; done) | (simp; omega))) (hb4.mono (by first | assumption | (simp; done) | (simp; omega)))
        have hz4 := hw4.size
        clear hb4
        go_wp2_with fail
        with_reducible refine (Q.out _).mono ?_
        rintro e w5 ⟨rfl, hb5⟩
        have c5_0 : w5.cell? ⟨w2.heap.size, 0, none⟩ = some (.int .u64 sh) := (hb5.cell (p := ⟨w2.heap.size, 0, none⟩) (by first | assumption | (simp; done) | (simp; omega))).trans (by first | assumption | (simp [go_sem]; done) | (simp [go_sem, *]; done))
        have c5_1 : w5.cell? ⟨w2.heap.size, 1, none⟩ = some (.int .u64 sl) := (hb5.cell (p := ⟨w2.heap.size, 1, none⟩) (by first | assumption | (simp; done) | (simp; omega))).trans (by first | assumption | (simp [go_sem]; done) | (simp [go_sem, *]; done))
        have hl5_0 : w2.heap.size < w5.heap.size := by have hs := hb5.size; first | (simp at hs; omega) | omega
        have hw5 : Below w.heap.size w w5 := Below.trans (by repeat' (first | (with_reducible assumption) | (with_reducible exact Below.refl _ _) | (with_reducible refine below_drewN ?_ _) | (with_reducible refine Below.drew ?_) | (with_reducible refine Below.setCell ?_ ?_ _) | (with_reducible refine Below.alloc ?_ ?_ _) | omega | (simp; done) | (simp; omega))) (hb5.mono (by first | assumption | (simp; done) | (simp; omega)))
        have hz5 := hw5.size
        clear hb5
        go_wp2_with fail
        go_ret
        exact ⟨by simp, by repeat' (first | (with_reducible assumption) | (with_reducible exact Below.refl _ _) | (with_reducible refine below_drewN ?_ _) | (with_reducible refine Below.drew ?_) | (with_reducible refine Below.setCell ?_ ?_ _) | (with_reducible refine Below.alloc ?_ ?_ _) | omega | (simp; done) | (simp; omega))⟩
      · have gb := beq_f hb
        have hq : (decide (H = a) && decide (L = b)) = false := by simp [hb]
        rw [hq] at Q
        clear ha hb hq
        replace S := Lib.hid S
        replace J := Lib.hid J
        replace P := Lib.hid P
        replace Q := Lib.hid Q
        go_enter Try.func10, Try.ntmps10
        go_wp2_with fail
        with_reducible refine (awake14 _).mono ?_
        rintro e w1 ⟨rfl, hb1⟩
        have hw1 : Below w.heap.size w w1 := Below.trans (by repeat' (first | (with_reducible assumption) | (with_reducible exact Below.refl _ _) | (with_reducible refine below_drewN ?_ _) | (with_reducible refine Below.drew ?_) | (with_reducible refine Below.setCell ?_ ?_ _) | (with_reducible refine Below.alloc ?_ ?_ _) | omega | (simp; done) | (simp; omega))) (hb1.mono (by first | assumption | (simp; done) | (simp; omega)))
        have hz1 := hw1.size
        clear hb1
        go_wp2_with fail
        with_reducible refine (S.out _).mono ?_
        rintro e w2 ⟨rfl, hb2⟩
        have hw2 : Below w.heap.size w w2 := Below.trans (by repeat' (first | (with_reducible assumption) | (with_reducible exact Below.refl _ _) | (with_reducible refine below_drewN ?_ _) | (with_reducible refine Below.drew ?_) | (with_reducible refine Below.setCell ?_ ?_ _) | (with_reducible refine Below.alloc ?_ ?_ _) | omega | (simp; done) | (simp; omega))) (hb2.mono (by first | assumption | (simp; done) | (simp; omega)))
        have hz2 := hw2.size
        clear hb2
        go_wp2_with fail
        with_reducible refine (J.out _).mono ?_
        rintro e w3 ⟨rfl, hb3⟩
        have c3_0 : w3.cell? ⟨w2.heap.size, 0, none⟩ = some (.int .u64 sh) := (hb3.cell (p := ⟨w2.heap.size, 0, none⟩) (by first | assumption | (simp; done) | (simp; omega))).trans (by first | assumption | (simp [go_sem]; done) | (simp [go_sem, *]; done))
        have c3_1 : w3.cell? ⟨w2.heap.size, 1, none⟩ = some (.int .u64 sl) := (hb3.cell (p := ⟨w2.heap.size, 1, none⟩) (by first | assumption | (simp; done) | (simp; omega))).trans (by first | assumption | (simp [go_sem]; done) | (simp [go_sem, *]; done))
        have hl3_0 : w2.heap.size < w3.heap.size := by have hs := hb3.size; first | (simp at hs; omega) | omega
        have hw3 : Below w.heap.size w w3 := Below.trans (by repeat' (first | (with_reducible assumption) | (with_reducible exact Below.refl _ _) | (with_reducible refine below_drewN ?_ _) | (with_reducible refine Below.drew ?_) | (with_reducible refine Below.setCell ?_ ?_ _) | (with_reducible refine Below.alloc ?_ ?_ _) | omega | (simp; done) | (simp; omega))) (hb3.mono (by first | assumption | (simp; done) | (simp; omega)))
        have hz3 := hw3.size
        clear hb3
        go_wp2_with fail
        with_reducible refine (P.out _).mono ?_
        rintro e w4 ⟨rfl, hb4⟩
        have c4_0 : w4.cell? ⟨w2.heap.size, 0, none⟩ = some (.int .u64 sh) := (hb4.cell (p := ⟨w2.heap.size, 0, none⟩) (by first | assumption | (simp; done) | (simp; omega))).trans (by first | assumption | (simp [go_sem]; done) | (simp [go_sem, *]; done))
        have c4_1 : w4.cell? ⟨w2.heap.size, 1, none⟩ = some (.int .u64 sl) := (hb4.cell (p := ⟨w2.heap.size, 1, none⟩) (by first | assumption | (simp; done) | (simp; omega))).trans (by first | assumption | (simp [go_sem]; done) | (simp [go_sem, *]; done))
        have hl4_0 : w2.heap.size < w4.heap.size := by have hs := hb4.size; first | (simp at hs; omega) | omega
        have hw4 : Below w.heap.size w w4 := Below.trans (by repeat' (first | (with_reducible assumption) | (with_reducible exact Below.refl _ _) | (with_reducible refine below_drewN ?_ _) | (with_reducible refine Below.drew ?_) | (with_reducible refine Below.setCell ?_ ?_ _) | (with_reducible refine Below.alloc ?_ ?_ _) | omega | (simp; done) | (simp; omega))) (hb4.mono (by first | assumption | (simp; done) | (simp; omega)))
        have hz4 := hw4.size
        clear hb4
        go_wp2_with fail
        with_reducible refine (Q.out _).mono ?_
        rintro e w5 ⟨rfl, hb5⟩
        have c5_0 : w5.cell? ⟨w2.heap.size, 0, none⟩ = some (.int .u64 sh) := (hb5.cell (p := ⟨w2.heap.size, 0, none⟩) (by first | assumption | (simp; done) | (simp; omega))).trans (by first | assumption | (simp [go_sem]; done) | (simp [go_sem, *]; done))
        have c5_1 : w5.cell? ⟨w2.heap.size, 1, none⟩ = some (.int .u64 sl) := (hb5.cell (p := ⟨w2.heap.size, 1, none⟩) (by first | assumption | (simp; done) | (simp; omega))).trans (by first | assumption | (simp [go_sem]; done) | (simp [go_sem, *]; done))
        have hl5_0 : w2.heap.size < w5.heap.size := by have hs := hb5.size; first | (simp at hs; omega) | omega
        have hw5 : Below w.heap.size w w5 := Below.trans (by repeat' (first | (with_reducible assumption) | (with_reducible exact Below.refl _ _) | (with_reducible refine below_drewN ?_ _) | (with_reducible refine Below.drew ?_) | (with_reducible refine Below.setCell ?_ ?_ _) | (with_reducible refine Below.alloc ?_ ?_ _) | omega | (simp; done) | (simp; omega))) (hb5.mono (by first | assumption | (simp; done) | (simp; omega)))
        have hz5 := hw5.size
        clear hb5
        go_wp2_with fail
        go_ret
        exact ⟨by simp, by repeat' (first | (with_reducible assumption) | (with_reducible exact Below.refl _ _) | (with_reducible refine below_drewN ?_ _) | (with_reducible refine Below.drew ?_) | (with_reducible refine Below.setCell ?_ ?_ _) | (with_reducible refine Below.alloc ?_ ?_ _) | omega | (simp; done) | (simp; omega))⟩
    · have ga := beq_f ha
      have hq : (decide (H = a) && decide (L = b)) = false := by simp [ha]
      rw [hq] at Q
      clear ha hq
      replace S := Lib.hid S
      replace J := Lib.hid J
      replace P := Lib.hid P
      replace Q := Lib.hid Q
      go_enter Try.func10, Try.ntmps10
      go_wp2_with fail
      with_reducible refine (awake14 _).mono ?_
      rintro e w1 ⟨rfl, hb1⟩
      have hw1 : Below w.heap.size w w1 := Below.trans (by repeat' (first | (with_reducible assumption) | (with_reducible exact Below.refl _ _) | (with_reducible refine below_drewN ?_ _) | (with_reducible refine Below.drew ?_) | (with_reducible refine Below.setCell ?_ ?_ _) | (with_reducible refine Below.alloc ?_ ?_ _) | omega | (simp; done) | (simp; omega))) (hb1.mono (by first | assumption | (simp; done) | (simp; omega)))
      have hz1 := hw1.size
      clear hb1
      go_wp2_with fail
      with_reducible refine (S.out _).mono ?_
      rintro e w2 ⟨rfl, hb2⟩
      have hw2 : Below w.heap.size w w2 := Below.trans (by repeat' (first | (with_reducible assumption) | (with_reducible exact Below.refl _ _) | (with_reducible refine below_drewN ?_ _) | (with_reducible refine Below.drew ?_) | (with_reducible refine Below.setCell ?_ ?_ _) | (with_reducible refine Below.alloc ?_ ?_ _) | omega | (simp; done) | (simp; omega))) (hb2.mono (by first | assumption | (simp; done) | (simp; omega)))
      have hz2 := hw2.size
      clear hb2
      go_wp2_with fail
      with_reducible refine (J.out _).mono ?_
      rintro e w3 ⟨rfl, hb3⟩
      have c3_0 : w3.cell? ⟨w2.heap.size, 0, none⟩ = some (.int .u64 sh) := (hb3.cell (p := ⟨w2.heap.size, 0, none⟩) (by first | assumption | (simp; done) | (simp; omega))).trans (by first | assumption | (simp [go_sem]; done) | (simp [go_sem, *]; done))
      have c3_1 : w3.cell? ⟨w2.heap.size, 1, none⟩ = some (.int .u64 sl) := (hb3.cell (p := ⟨w2.heap.size, 1, none⟩) (by first | assumption | (simp; done) | (simp; omega))).trans (by first | assumption | (simp [go_sem]; done) | (simp [go_sem, *]; done))
      have hl3_0 : w2.heap.size < w3.heap.size := by have hs := hb3.size; first | (simp at hs; omega) | omega
      have hw3 : Below w.heap.size w w3 := Below.trans (by repeat' (first | (with_reducible assumption) | (with_reducible exact Below.refl _ _) | (with_reducible refine below_drewN ?_ _) | (with_reducible refine Below.drew ?_) | (with_reducible refine Below.setCell ?_ ?_ _) | (with_reducible refine Below.alloc ?_ ?_ _) | omega | (simp; done) | (simp; omega))) (hb3.mono (by first | assumption | (simp; done) | (simp; omega)))
      have hz3 := hw3.size
      clear hb3
      go_wp2_with fail
      with_reducible refine (P.out _).mono ?_
      rintro e w4 ⟨rfl, hb4⟩
      have c4_0 : w4.cell? ⟨w2.heap.size, 0, none⟩ = some (.int .u64 sh) := (hb4.cell (p := ⟨w2.heap.size, 0, none⟩) (by first | assumption | (simp; done) | (simp; omega))).trans (by first | assumption | (simp [go_sem]; done) | (simp [go_sem, *]; done))
      have c4_1 : w4.cell? ⟨w2.heap.size, 1, none⟩ = some (.int .u64 sl) := (hb4.cell (p := ⟨w2.heap.size, 1, none⟩) (by first | assumption | (simp; done) | (simp; omega))).trans (by first | assumption | (simp [go_sem]; done) | (simp [go_sem, *]; done))
      have hl4_0 : w2.heap.size < w4.heap.size := by have hs := hb4.size; first | (simp at hs; omega) | omega
      have hw4 : Below w.heap.size w w4 := Below.trans (by repeat' (first | (with_reducible assumption) | (with_reducible exact Below.refl _ _) | (with_reducible refine below_drewN ?_ _) | (with_reducible refine Below.drew ?_) | (with_reducible refine Below.setCell ?_ ?_ _) | (with_reducible refine Below.alloc ?_ ?_ _) | omega | (simp; done) | (simp; omega))) (hb4.mono (by first | assumption | (simp; done) | (simp; omega)))
      have hz4 := hw4.size
      clear hb4
      go_wp2_with fail
      with_reducible refine (Q.out _).mono ?_
      rintro e w5 ⟨rfl, hb5⟩
      have c5_0 : w5.cell? ⟨w2.heap.size, 0, none⟩ = some (.int .u64 sh) := (hb5.cell (p := ⟨w2.heap.size, 0, none⟩) (by first | assumption | (simp; done) | (simp; omega))).trans (by first | assumption | (simp [go_sem]; done) | (simp [go_sem, *]; done))
      have c5_1 : w5.cell? ⟨w2.heap.size, 1, none⟩ = some (.int .u64 sl) := (hb5.cell (p := ⟨w2.heap.size, 1, none⟩) (by first | assumption | (simp; done) | (simp; omega))).trans (by first | assumption | (simp [go_sem]; done) | (simp [go_sem, *]; done))
      have hl5_0 : w2.heap.size < w5.heap.size := by have hs := hb5.size; first | (simp at hs; omega) | omega
      have hw5 : Below w.heap.size w w5 := Below.trans (by repeat' (first | (with_reducible assumption) | (with_reducible exact Below.refl _ _) | (with_reducible refine below_drewN ?_ _) | (with_reducible refine Below.drew ?_) | (with_reducible refine Below.setCell ?_ ?_ _) | (with_reducible refine Below.alloc ?_ ?_ _) | omega | (simp; done) | (simp; omega))) (hb5.mono (by first | assumption | (simp; done) | (simp; omega)))
      have hz5 := hw5.size
      clear hb5
      go_wp2_with fail
      go_ret
      exact ⟨by simp, by repeat' (first | (with_reducible assumption) | (with_reducible exact Below.refl _ _) | (with_reducible refine below_drewN ?_ _) | (with_reducible refine Below.drew ?_) | (with_reducible refine Below.setCell ?_ ?_ _) | (with_reducible refine Below.alloc ?_ ?_ _) | omega | (simp; done) | (simp; omega))⟩
  · obtain ⟨e1, e2, e3⟩ := again_not a b hk
    rw [e1, e2, e3] at S J
    have hk1 := beq_f hk
    have hk2 := bne_t hk
    clear hk e1 e2 e3 s0 s1 s2 s3 s4 s5
    generalize sKind a = kk at *
    generalize sNeg a = n at *
    have hj : jOk 0 0 0 = true := by decide
    rw [hj] at J
    generalize jHigh n 0 0 0 = H at *
    generalize jLow 0 0 0 = L at *
    replace S := Lib.hid S
    replace J := Lib.hid J
    go_enter Try.func10, Try.ntmps10
    go_wp2_with fail
    with_reducible refine (awake14 _).mono ?_
    rintro e w1 ⟨rfl, hb1⟩
    have hw1 : Below w.heap.size w w1 := Below.trans (by repeat' (first | (with_reducible assumption) | (with_reducible exact Below.refl _ _) | (with_reducible refine below_drewN ?_ _) | (with_reducible refine Below.drew ?_) | (with_reducible refine Below.setCell ?_ ?_ _) | (with_reducible refine Below.alloc ?_ ?_ _) | omega | (simp; done) | (simp; omega))) (hb1.mono (by first | assumption | (simp; done) | (simp; omega)))
    have hz1 := hw1.size
    clear hb1
    go_wp2_with fail
    with_reducible refine (S.out _).mono ?_
    rintro e w2 ⟨rfl, hb2⟩
    have hw2 : Below w.heap.size w w2 := Below.trans (by repeat' (first | (with_reducible assumption) | (with_reducible exact Below.refl _ _) | (with_reducible refine below_drewN ?_ _) | (with_reducible refine Below.drew ?_) | (with_reducible refine Below.setCell ?_ ?_ _) | (with_reducible refine Below.alloc ?_ ?_ _) | omega | (simp; done) | (simp; omega))) (hb2.mono (by first | assumption | (simp; done) | (simp; omega)))
    have hz2 := hw2.size
    clear hb2
    go_wp2_with fail
    with_reducible refine (J.out _).mono ?_
    rintro e w3 ⟨rfl, hb3⟩
    have c3_0 : w3.cell? ⟨w2.heap.size, 0, none⟩ = some (.int .u64 0) := (hb3.cell (p := ⟨w2.heap.size, 0, none⟩) (by first | assumption | (simp; done) | (simp; omega))).trans (by first | assumption | (simp [go_sem]; done) | (simp [go_sem, *]; done))
    have c3_1 : w3.cell? ⟨w2.heap.size, 1, none⟩ = some (.int .u64 0) := (hb3.cell (p := ⟨w2.heap.size, 1, none⟩) (by first | assumption | (simp; done) | (simp; omega))).trans (by first | assumption | (simp [go_sem]; done) | (simp [go_sem, *]; done))
    have hl3_0 : w2.heap.size < w3.heap.size := by have hs := hb3.size; first | (simp at hs; omega) | omega
    have hw3 : Below w.heap.size w w3 := Below.trans (by repeat' (first | (with_reducible assumption) | (with_reducible exact Below.refl _ _) | (with_reducible refine below_drewN ?_ _) | (with_reducible refine Below.drew ?_) | (with_reducible refine Below.setCell ?_ ?_ _) | (with_reducible refine Below.alloc ?_ ?_ _) | omega | (simp; done) | (simp; omega))) (hb3.mono (by first | assumption | (simp; done) | (simp; omega)))
    have hz3 := hw3.size
    clear hb3
    go_wp2_with fail
    go_ret
    exact ⟨by simp, by repeat' (first | (with_reducible assumption) | (with_reducible exact Below.refl _ _) | (with_reducible refine below_drewN ?_ _) | (with_reducible refine Below.drew ?_) | (with_reducible refine Below.setCell ?_ ?_ _) | (with_reducible refine Below.alloc ?_ ?_ _) | omega | (simp; done) | (simp; omega))⟩
end Go.Proofs.Ytpbfbgkiamfodaa
