/- The walk of GaussNorms. No condition. -/
import Derived.Test.YtimgmobpgbekjaaGau8
namespace Go.Proofs.Ytimgmobpgbekjaa
open Go.RowKit

theorem qsq (k a b : Int) : qre k a b * qre k a b + qim k a b * qim k a b = a * a + b * b := by
  unfold qre qim
  (repeat' split) <;> simp only [Int.neg_mul_neg] <;> first | rfl | exact Int.add_comm _ _
theorem q_bound (k a b : Int) (M : Int) (a0 : -M ≤ a) (a1 : a ≤ M) (b0 : -M ≤ b) (b1 : b ≤ M) : -M ≤ qre k a b ∧ qre k a b ≤ M ∧ -M ≤ qim k a b ∧ qim k a b ≤ M := by
  unfold qre qim
  (repeat' split) <;> omega
theorem brahma (a b c d : Int) : (a * c - b * d) * (a * c - b * d) + (a * d + b * c) * (a * d + b * c) = (a * a + b * b) * (c * c + d * d) := by grind

set_option maxHeartbeats 1600000 in
theorem gaussNorms_walk (a b c d : Int) (a0 : -9223372036854775808 ≤ a) (a1 : a ≤ 9223372036854775807) (b0 : -9223372036854775808 ≤ b) (b1 : b ≤ 9223372036854775807) (c0 : -9223372036854775808 ≤ c) (c1 : c ≤ 9223372036854775807) (d0 : -9223372036854775808 ≤ d) (d1 : d ≤ 9223372036854775807) (w : World) :
    Calls Try.prog 7 #[.agg #[.int .i64 a, .int .i64 b, .int .i64 c, .int .i64 d]] w fun e w' => e = .returned (.bool true) ∧ Below w.heap.size w w' := by
  have F := fun w => fits_any a b c d w
  cases h : (wi a && (wi b && (wi c && wi d)))
  · rw [h] at F
    replace F := Lib.hid F
    clear h
    go_enter Try.func7, Try.ntmps7
    go_wp2_with fail
    with_reducible refine (awake7 _).mono ?_
    rintro e w1 ⟨rfl, hb1⟩
    have c1_0 : w1.cell? ⟨w.heap.size, 0, none⟩ = some (.int .i64 a) := (hb1.cell (p := ⟨w.heap.size, 0, none⟩) (by first | assumption | (simp; done) | (simp; omega))).trans (by first | assumption | (simp [go_sem]; done) | (simp [go_sem, *]; done))
    have c1_1 : w1.cell? ⟨w.heap.size, 1, none⟩ = some (.int .i64 b) := (hb1.cell (p := ⟨w.heap.size, 1, none⟩) (by first | assumption | (simp; done) | (simp; omega))).trans (by first | assumption | (simp [go_sem]; done) | (simp [go_sem, *]; done))
    have c1_2 : w1.cell? ⟨w.heap.size, 2, none⟩ = some (.int .i64 c) := (hb1.cell (p := ⟨w.heap.size, 2, none⟩) (by first | assumption | (simp; done) | (simp; omega))).trans (by first | assumption | (simp [go_sem]; done) | (simp [go_sem, *]; done))
    have c1_3 : w1.cell? ⟨w.heap.size, 3, none⟩ = some (.int .i64 d) := (hb1.cell (p := ⟨w.heap.size, 3, none⟩) (by first | assumption | (simp; done) | (simp; omega))).trans (by first | assumption | (simp [go_sem]; done) | (simp [go_sem, *]; done))
    have hl1_0 : w.heap.size < w1.heap.size := by have hs := hb1.size; first | (simp at hs; omega) | omega
    have hw1 : Below w.heap.size w w1 := Below.trans (by repeat' (first | (with_reducible assumption) | (with_reducible exact Below.refl _ _) | (with_reducible refine below_drewN ?_ _) | (with_reducible refine Below.drew ?_) | (with_reducible refine Below.setCell ?_ ?_ _) | (with_reducible refine Below.alloc ?_ ?_ _) | omega | (simp; done) | (simp; omega))) (hb1.mono (by first | assumption | (simp; done) | (simp; omega)))
    have hz1 := hw1.size
    clear hb1
    go_wp2_with fail
    with_reducible refine (F.out _).mono ?_
    rintro e w2 ⟨rfl, hb2⟩
    have hw2 : Below w.heap.size w w2 := Below.trans (by repeat' (first | (with_reducible assumption) | (with_reducible exact Below.refl _ _) | (with_reducible refine below_drewN ?_ _) | (with_reducible refine Below.drew ?_) | (with_reducible refine Below.setCell ?_ ?_ _) | (with_reducible refine Below.alloc ?_ ?_ _) | omega | (simp; done) | (simp; omega))) (hb2.mono (by first | assumption | (simp; done) | (simp; omega)))
    have hz2 := hw2.size
    clear hb2
    go_wp2_with fail
    go_ret
    exact ⟨by simp, by repeat' (first | (with_reducible assumption) | (with_reducible exact Below.refl _ _) | (with_reducible refine below_drewN ?_ _) | (with_reducible refine Below.drew ?_) | (with_reducible refine Below.setCell ?_ ?_ _) | (with_reducible refine Below.alloc ?_ ?_ _) | omega | (simp; done) | (simp; omega))⟩
  · obtain ⟨⟨p0, p1⟩, ⟨q0, q1⟩, ⟨r0, r1⟩, ⟨s0, s1⟩⟩ := four_wi h
    rw [h] at F
    replace F := Lib.hid F
    have R1 := Fl.rep_ofInt a (by omega)
    have R2 := Fl.rep_ofInt b (by omega)
    have R3 := Fl.rep_ofInt c (by omega)
    have R4 := Fl.rep_ofInt d (by omega)
    have O1 := fun w => of_yes a b p0 p1 q0 q1 w
    have O2 := fun w => of_yes c d r0 r1 s0 s1 w
    have T1 := fun w => times_yes R1 R2 R3 R4 p0 p1 q0 q1 r0 r1 s0 s1 w
    have N1 := fun w => norm_yes R1 R2 p0 p1 q0 q1 w
    have N2 := fun w => norm_yes R3 R4 r0 r1 s0 s1 w
    have TU := fun w => turn_yes R1 R2 (by omega) (by omega) (by omega) (by omega) c w
    have hq := qsq c a b
    obtain ⟨y0, y1, y2, y3⟩ := q_bound c a b 33554432 p0 p1 q0 q1
    have hbr := brahma a b c d
    have k1 := sq25 p0 p1 r0 r1
    have k2 := sq25 q0 q1 s0 s1
    have k3 := sq25 p0 p1 s0 s1
    have k4 := sq25 q0 q1 r0 r1
    have k5 := sq25 p0 p1 p0 p1
    have k6 := sq25 q0 q1 q0 q1
    have k7 := sq25 r0 r1 r0 r1
    have k8 := sq25 s0 s1 s0 s1
    have t0 : -2251799813685248 ≤ a * c - b * d := by omega
    have t1 : a * c - b * d ≤ 2251799813685248 := by omega
    have t2 : -2251799813685248 ≤ a * d + b * c := by omega
    have t3 : a * d + b * c ≤ 2251799813685248 := by omega
    generalize a * c - b * d = P at *
    generalize a * d + b * c = Q at *
    generalize qre c a b = A' at *
    generalize qim c a b = B' at *
    generalize floatOfInt .f64 a = x at *
    generalize floatOfInt .f64 b = y at *
    generalize floatOfInt .f64 c = u at *
    generalize floatOfInt .f64 d = v at *
    replace T1 := Lib.hid T1
    replace TU := Lib.hid TU
    replace O1 := Lib.hid O1
    replace O2 := Lib.hid O2
    replace N1 := Lib.hid N1
    replace N2 := Lib.hid N2
    replace hq := Lib.hid hq
    replace hbr := Lib.hid hbr
    clear h R1 R2 R3 R4 k1 k2 k3 k4
    have z1 : IntKind.i64.wrap (a * a) = a * a := by rw [IntKind.wrap_i64]; omega
    have z2 : IntKind.i64.wrap (b * b) = b * b := by rw [IntKind.wrap_i64]; omega
    have z3 : IntKind.i64.wrap (c * c) = c * c := by rw [IntKind.wrap_i64]; omega
    have z4 : IntKind.i64.wrap (d * d) = d * d := by rw [IntKind.wrap_i64]; omega
    have z5 : IntKind.i64.wrap (a * a + b * b) = a * a + b * b := by rw [IntKind.wrap_i64]; omega
    have z6 : IntKind.i64.wrap (c * c + d * d) = c * c + d * d := by rw [IntKind.wrap_i64]; omega
    go_enter Try.func7, Try.ntmps7
    go_wp2_with fail
    with_reducible refine (awake7 _).mono ?_
    rintro e w1 ⟨rfl, hb1⟩
    have c1_0 : w1.cell? ⟨w.heap.size, 0, none⟩ = some (.int .i64 a) := (hb1.cell (p := ⟨w.heap.size, 0, none⟩) (by first | assumption | (simp; done) | (simp; omega))).trans (by first | assumption | (simp [go_sem]; done) | (simp [go_sem, *]; done))
    have c1_1 : w1.cell? ⟨w.heap.size, 1, none⟩ = some (.int .i64 b) := (hb1.cell (p := ⟨w.heap.size, 1, none⟩) (by first | assumption | (simp; done) | (simp; omega))).trans (by first | assumption | (simp [go_sem]; done) | (simp [go_sem, *]; done))
    have c1_2 : w1.cell? ⟨w.heap.size, 2, none⟩ = some (.int .i64 c) := (hb1.cell (p := ⟨w.heap.size, 2, none⟩) (by first | assumption | (simp; done) | (simp; omega))).trans (by first | assumption | (simp [go_sem]; done) | (simp [go_sem, *]; done))
    have c1_3 : w1.cell? ⟨w.heap.size, 3, none⟩ = some (.int .i64 d) := (hb1.cell (p := ⟨w.heap.size, 3, none⟩) (by first | assumption | (simp; done) | (simp; omega))).trans (by first | assumption | (simp [go_sem]; done) | (simp [go_sem, *]; done))
    have hl1_0 : w.heap.size < w1.heap.size := by have hs := hb1.size; first | (simp at hs; omega) | omega
    have hw1 : Below w.heap.size w w1 := Below.trans (by repeat' (first | (with_reducible assumption) | (with_reducible exact Below.refl _ _) | (with_reducible refine below_drewN ?_ _) | (with_reducible refine Below.drew ?_) | (with_reducible refine Below.setCell ?_ ?_ _) | (with_reducible refine Below.alloc ?_ ?_ _) | omega | (simp; done) | (simp; omega))) (hb1.mono (by first | assumption | (simp; done) | (simp; omega)))
    have hz1 := hw1.size
    clear hb1
    go_wp2_with fail
    with_reducible refine (F.out _).mono ?_
    rintro e w2 ⟨rfl, hb2⟩
    have c2_0 : w2.cell? ⟨w.heap.size, 0, none⟩ = some (.int .i64 a) := (hb2.cell (p := ⟨w.heap.size, 0, none⟩) (by first | assumption | (simp; done) | (simp; omega))).trans (by first | assumption | (simp [go_sem]; done) | (simp [go_sem, *]; done))
    have c2_1 : w2.cell? ⟨w.heap.size, 1, none⟩ = some (.int .i64 b) := (hb2.cell (p := ⟨w.heap.size, 1, none⟩) (by first | assumption | (simp; done) | (simp; omega))).trans (by first | assumption | (simp [go_sem]; done) | (simp [go_sem, *]; done))
    have c2_2 : w2.cell? ⟨w.heap.size, 2, none⟩ = some (.int .i64 c) := (hb2.cell (p := ⟨w.heap.size, 2, none⟩) (by first | assumption | (simp; done) | (simp; omega))).trans (by first | assumption | (simp [go_sem]; done) | (simp [go_sem, *]; done))
    have c2_3 : w2.cell? ⟨w.heap.size, 3, none⟩ = some (.int .i64 d) := (hb2.cell (p := ⟨w.heap.size, 3, none⟩) (by first | assumption | (simp; done) | (simp; omega))).trans (by first | assumption | (simp [go_sem]; done) | (simp [go_sem, *]; done))
    have hl2_0 : w.heap.size < w2.heap.size := by have hs := hb2.size; first | (simp at hs; omega) | omega
    have hw2 : Below w.heap.size w w2 := Below.trans (by repeat' (first | (with_reducible assumption) | (with_reducible exact Below.refl _ _) | (with_reducible refine below_drewN ?_ _) | (with_reducible refine Below.drew ?_) | (with_reducible refine Below.setCell ?_ ?_ _) | (with_reducible refine Below.alloc ?_ ?_ _) | omega | (simp; done) | (simp; omega))) (hb2.mono (by first | assumption | (simp; done) | (simp; omega)))
    have hz2 := hw2.size
    clear hb2
    go_wp2_with fail
    go_quiet (first | ((go_at_call 17; with_reducible exact quiet_same (O1.out _))) | ((go_at_call 17; with_reducible exact quiet_same (O2.out _))))
    go_wp2_with fail
    go_quiet (fail)
    go_wp2_with fail
    clear z1 z2 z3 z4 z5 z6
    with_reducible refine (T1.out _).mono ?_
    rintro e w3 ⟨re, im, rfl, hre, him, hb3⟩
    have c3_0 : w3.cell? ⟨w.heap.size, 0, none⟩ = some (.int .i64 a) := (hb3.cell (p := ⟨w.heap.size, 0, none⟩) (by first | assumption | (simp; done) | (simp; omega))).trans (by first | assumption | (simp [go_sem]; done) | (simp [go_sem, *]; done))
    have c3_1 : w3.cell? ⟨w.heap.size, 1, none⟩ = some (.int .i64 b) := (hb3.cell (p := ⟨w.heap.size, 1, none⟩) (by first | assumption | (simp; done) | (simp; omega))).trans (by first | assumption | (simp [go_sem]; done) | (simp [go_sem, *]; done))
    have c3_2 : w3.cell? ⟨w.heap.size, 2, none⟩ = some (.int .i64 c) := (hb3.cell (p := ⟨w.heap.size, 2, none⟩) (by first | assumption | (simp; done) | (simp; omega))).trans (by first | assumption | (simp [go_sem]; done) | (simp [go_sem, *]; done))
    have c3_3 : w3.cell? ⟨w.heap.size, 3, none⟩ = some (.int .i64 d) := (hb3.cell (p := ⟨w.heap.size, 3, none⟩) (by first | assumption | (simp; done) | (simp; omega))).trans (by first | assumption | (simp [go_sem]; done) | (simp [go_sem, *]; done))
    have hl3_0 : w.heap.size < w3.heap.size := by have hs := hb3.size; first | (simp at hs; omega) | omega
    have hw3 : Below w.heap.size w w3 := Below.trans (by repeat' (first | (with_reducible assumption) | (with_reducible exact Below.refl _ _) | (with_reducible refine below_drewN ?_ _) | (with_reducible refine Below.drew ?_) | (with_reducible refine Below.setCell ?_ ?_ _) | (with_reducible refine Below.alloc ?_ ?_ _) | omega | (simp; done) | (simp; omega))) (hb3.mono (by first | assumption | (simp; done) | (simp; omega)))
    have hz3 := hw3.size
    clear hb3
    have P1 := Lib.hid (fun w => parts_yes hre him (by omega) (by omega) (by omega) (by omega) w)
    have WP := fun w => within_any P w
    have WQ := fun w => within_any Q w
    have NY := fun h0 h1 h2 h3 w => norm_yes hre him h0 h1 h2 h3 w
    have NN := fun h w => norm_no re im h w
    have WN := fun h => W25_no hre h
    have WM := fun h => W25_no him h
    replace hre := Lib.hid hre
    replace him := Lib.hid him
    go_wp2_with fail
    with_reducible refine (P1.out _).mono ?_
    rintro e w4 ⟨rfl, hb4⟩
    have c4_0 : w4.cell? ⟨w.heap.size, 0, none⟩ = some (.int .i64 a) := (hb4.cell (p := ⟨w.heap.size, 0, none⟩) (by first | assumption | (simp; done) | (simp; omega))).trans (by first | assumption | (simp [go_sem]; done) | (simp [go_sem, *]; done))
    have c4_1 : w4.cell? ⟨w.heap.size, 1, none⟩ = some (.int .i64 b) := (hb4.cell (p := ⟨w.heap.size, 1, none⟩) (by first | assumption | (simp; done) | (simp; omega))).trans (by first | assumption | (simp [go_sem]; done) | (simp [go_sem, *]; done))
    have c4_2 : w4.cell? ⟨w.heap.size, 2, none⟩ = some (.int .i64 c) := (hb4.cell (p := ⟨w.heap.size, 2, none⟩) (by first | assumption | (simp; done) | (simp; omega))).trans (by first | assumption | (simp [go_sem]; done) | (simp [go_sem, *]; done))
    have c4_3 : w4.cell? ⟨w.heap.size, 3, none⟩ = some (.int .i64 d) := (hb4.cell (p := ⟨w.heap.size, 3, none⟩) (by first | assumption | (simp; done) | (simp; omega))).trans (by first | assumption | (simp [go_sem]; done) | (simp [go_sem, *]; done))
    have hl4_0 : w.heap.size < w4.heap.size := by have hs := hb4.size; first | (simp at hs; omega) | omega
    have hw4 : Below w.heap.size w w4 := Below.trans (by repeat' (first | (with_reducible assumption) | (with_reducible exact Below.refl _ _) | (with_reducible refine below_drewN ?_ _) | (with_reducible refine Below.drew ?_) | (with_reducible refine Below.setCell ?_ ?_ _) | (with_reducible refine Below.alloc ?_ ?_ _) | omega | (simp; done) | (simp; omega))) (hb4.mono (by first | assumption | (simp; done) | (simp; omega)))
    have hz4 := hw4.size
    clear hb4
    go_wp2_with fail
    with_reducible refine (N1.out _).mono ?_
    rintro e w5 ⟨rfl, hb5⟩
    have c5_0 : w5.cell? ⟨w.heap.size, 0, none⟩ = some (.int .i64 a) := (hb5.cell (p := ⟨w.heap.size, 0, none⟩) (by first | assumption | (simp; done) | (simp; omega))).trans (by first | assumption | (simp [go_sem]; done) | (simp [go_sem, *]; done))
    have c5_1 : w5.cell? ⟨w.heap.size, 1, none⟩ = some (.int .i64 b) := (hb5.cell (p := ⟨w.heap.size, 1, none⟩) (by first | assumption | (simp; done) | (simp; omega))).trans (by first | assumption | (simp [go_sem]; done) | (simp [go_sem, *]; done))
    have c5_2 : w5.cell? ⟨w.heap.size, 2, none⟩ = some (.int .i64 c) := (hb5.cell (p := ⟨w.heap.size, 2, none⟩) (by first | assumption | (simp; done) | (simp; omega))).trans (by first | assumption | (simp [go_sem]; done) | (simp [go_sem, *]; done))
    have c5_3 : w5.cell? ⟨w.heap.size, 3, none⟩ = some (.int .i64 d) := (hb5.cell (p := ⟨w.heap.size, 3, none⟩) (by first | assumption | (simp; done) | (simp; omega))).trans (by first | assumption | (simp [go_sem]; done) | (simp [go_sem, *]; done))
    have hl5_0 : w.heap.size < w5.heap.size := by have hs := hb5.size; first | (simp at hs; omega) | omega
    have hw5 : Below w.heap.size w w5 := Below.trans (by repeat' (first | (with_reducible assumption) | (with_reducible exact Below.refl _ _) | (with_reducible refine below_drewN ?_ _) | (with_reducible refine Below.drew ?_) | (with_reducible refine Below.setCell ?_ ?_ _) | (with_reducible refine Below.alloc ?_ ?_ _) | omega | (simp; done) | (simp; omega))) (hb5.mono (by first | assumption | (simp; done) | (simp; omega)))
    have hz5 := hw5.size
    clear hb5
    go_wp2_with fail
    with_reducible refine (N2.out _).mono ?_
    rintro e w6 ⟨rfl, hb6⟩
    have c6_0 : w6.cell? ⟨w.heap.size, 0, none⟩ = some (.int .i64 a) := (hb6.cell (p := ⟨w.heap.size, 0, none⟩) (by first | assumption | (simp; done) | (simp; omega))).trans (by first | assumption | (simp [go_sem]; done) | (simp [go_sem, *]; done))
    have c6_1 : w6.cell? ⟨w.heap.size, 1, none⟩ = some (.int .i64 b) := (hb6.cell (p := ⟨w.heap.size, 1, none⟩) (by first | assumption | (simp; done) | (simp; omega))).trans (by first | assumption | (simp [go_sem]; done) | (simp [go_sem, *]; done))
    have c6_2 : w6.cell? ⟨w.heap.size, 2, none⟩ = some (.int .i64 c) := (hb6.cell (p := ⟨w.heap.size, 2, none⟩) (by first | assumption | (simp; done) | (simp; omega))).trans (by first | assumption | (simp [go_sem]; done) | (simp [go_sem, *]; done))
    have c6_3 : w6.cell? ⟨w.heap.size, 3, none⟩ = some (.int .i64 d) := (hb6.cell (p := ⟨w.heap.size, 3, none⟩) (by first | assumption | (simp; done) | (simp; omega))).trans (by first | assumption | (simp [go_sem]; done) | (simp [go_sem, *]; done))
    have hl6_0 : w.heap.size < w6.heap.size := by have hs := hb6.size; first | (simp at hs; omega) | omega
    have hw6 : Below w.heap.size w w6 := Below.trans (by repeat' (first | (with_reducible assumption) | (with_reducible exact Below.refl _ _) | (with_reducible refine below_drewN ?_ _) | (with_reducible refine Below.drew ?_) | (with_reducible refine Below.setCell ?_ ?_ _) | (with_reducible refine Below.alloc ?_ ?_ _) | omega | (simp; done) | (simp; omega))) (hb6.mono (by first | assumption | (simp; done) | (simp; omega)))
    have hz6 := hw6.size
    clear hb6
    go_wp2_with fail
    with_reducible refine (TU.out _).mono ?_
    rintro e w7 ⟨re5, im5, rfl, hre5, him5, hb7⟩
    have c7_0 : w7.cell? ⟨w.heap.size, 0, none⟩ = some (.int .i64 a) := (hb7.cell (p := ⟨w.heap.size, 0, none⟩) (by first | assumption | (simp; done) | (simp; omega))).trans (by first | assumption | (simp [go_sem]; done) | (simp [go_sem, *]; done))
    have c7_1 : w7.cell? ⟨w.heap.size, 1, none⟩ = some (.int .i64 b) := (hb7.cell (p := ⟨w.heap.size, 1, none⟩) (by first | assumption | (simp; done) | (simp; omega))).trans (by first | assumption | (simp [go_sem]; done) | (simp [go_sem, *]; done))
    have c7_2 : w7.cell? ⟨w.heap.size, 2, none⟩ = some (.int .i64 c) := (hb7.cell (p := ⟨w.heap.size, 2, none⟩) (by first | assumption | (simp; done) | (simp; omega))).trans (by first | assumption | (simp [go_sem]; done) | (simp [go_sem, *]; done))
    have c7_3 : w7.cell? ⟨w.heap.size, 3, none⟩ = some (.int .i64 d) := (hb7.cell (p := ⟨w.heap.size, 3, none⟩) (by first | assumption | (simp; done) | (simp; omega))).trans (by first | assumption | (simp [go_sem]; done) | (simp [go_sem, *]; done))
    have hl7_0 : w.heap.size < w7.heap.size := by have hs := hb7.size; first | (simp at hs; omega) | omega
    have hw7 : Below w.heap.size w w7 := Below.trans (by repeat' (first | (with_reducible assumption) | (with_reducible exact Below.refl _ _) | (with_reducible refine below_drewN ?_ _) | (with_reducible refine Below.drew ?_) | (with_reducible refine Below.setCell ?_ ?_ _) | (with_reducible refine Below.alloc ?_ ?_ _) | omega | (simp; done) | (simp; omega))) (hb7.mono (by first | assumption | (simp; done) | (simp; omega)))
    have hz7 := hw7.size
    clear hb7
    have N3 := fun w => norm_yes hre5 him5 y0 y1 y2 y3 w
    rw [hq.out] at N3
    replace N3 := Lib.hid N3
    clear hre5 him5
    go_wp2_with fail
    with_reducible refine (N3.out _).mono ?_
    rintro e w8 ⟨rfl, hb8⟩
    have c8_0 : w8.cell? ⟨w.heap.size, 0, none⟩ = some (.int .i64 a) := (hb8.cell (p := ⟨w.heap.size, 0, none⟩) (by first | assumption | (simp; done) | (simp; omega))).trans (by first | assumption | (simp [go_sem]; done) | (simp [go_sem, *]; done))
    have c8_1 : w8.cell? ⟨w.heap.size, 1, none⟩ = some (.int .i64 b) := (hb8.cell (p := ⟨w.heap.size, 1, none⟩) (by first | assumption | (simp; done) | (simp; omega))).trans (by first | assumption | (simp [go_sem]; done) | (simp [go_sem, *]; done))
    have c8_2 : w8.cell? ⟨w.heap.size, 2, none⟩ = some (.int .i64 c) := (hb8.cell (p := ⟨w.heap.size, 2, none⟩) (by first | assumption | (simp; done) | (simp; omega))).trans (by first | assumption | (simp [go_sem]; done) | (simp [go_sem, *]; done))
    have c8_3 : w8.cell? ⟨w.heap.size, 3, none⟩ = some (.int .i64 d) := (hb8.cell (p := ⟨w.heap.size, 3, none⟩) (by first | assumption | (simp; done) | (simp; omega))).trans (by first | assumption | (simp [go_sem]; done) | (simp [go_sem, *]; done))
    have hl8_0 : w.heap.size < w8.heap.size := by have hs := hb8.size; first | (simp at hs; omega) | omega
    have hw8 : Below w.heap.size w w8 := Below.trans (by repeat' (first | (with_reducible assumption) | (with_reducible exact Below.refl _ _) | (with_reducible refine below_drewN ?_ _) | (with_reducible refine Below.drew ?_) | (with_reducible refine Below.setCell ?_ ?_ _) | (with_reducible refine Below.alloc ?_ ?_ _) | omega | (simp; done) | (simp; omega))) (hb8.mono (by first | assumption | (simp; done) | (simp; omega)))
    have hz8 := hw8.size
    clear hb8
    go_wp2_with fail
    cases hp : wi P
    · have hn : (W25 re && W25 im) = false := by rw [WN (by rintro ⟨x0, x1⟩; rw [wi_t x0 x1] at hp; cases hp)]; rfl
      have N4 := fun w => NN hn w
      rw [hp] at WP
      replace WP := Lib.hid WP
      replace N4 := Lib.hid N4
      clear NN NY WN WM WQ hn hp
      with_reducible refine (WP.out _).mono ?_
      rintro e w' ⟨rfl, rfl⟩
      go_wp2_with fail
      with_reducible refine (N4.out _).mono ?_
      rintro e w9 ⟨rfl, hb9⟩
      have hw9 : Below w.heap.size w w9 := Below.trans (by repeat' (first | (with_reducible assumption) | (with_reducible exact Below.refl _ _) | (with_reducible refine below_drewN ?_ _) | (with_reducible refine Below.drew ?_) | (with_reducible refine Below.setCell ?_ ?_ _) | (with_reducible refine Below.alloc ?_ ?_ _) | omega | (simp; done) | (simp; omega))) (hb9.mono (by first | assumption | (simp; done) | (simp; omega)))
      have hz9 := hw9.size
      clear hb9
      go_wp2_with fail
      go_ret
      exact ⟨by simp, by repeat' (first | (with_reducible assumption) | (with_reducible exact Below.refl _ _) | (with_reducible refine below_drewN ?_ _) | (with_reducible refine Below.drew ?_) | (with_reducible refine Below.setCell ?_ ?_ _) | (with_reducible refine Below.alloc ?_ ?_ _) | omega | (simp; done) | (simp; omega))⟩
    · rw [hp] at WP
      replace WP := Lib.hid WP
      cases hr : wi Q
      · have hn : (W25 re && W25 im) = false := by rw [WM (by rintro ⟨x0, x1⟩; rw [wi_t x0 x1] at hr; cases hr), Bool.and_false]
        have N4 := fun w => NN hn w
        rw [hr] at WQ
        replace WQ := Lib.hid WQ
        replace N4 := Lib.hid N4
        clear NN NY WN WM hn hp hr
        with_reducible refine (WP.out _).mono ?_
        rintro e w' ⟨rfl, rfl⟩
        go_wp2_with fail
        with_reducible refine (WQ.out _).mono ?_
        rintro e w' ⟨rfl, rfl⟩
        go_wp2_with fail
        with_reducible refine (N4.out _).mono ?_
        rintro e w9 ⟨rfl, hb9⟩
        have hw9 : Below w.heap.size w w9 := Below.trans (by repeat' (first | (with_reducible assumption) | (with_reducible exact Below.refl _ _) | (with_reducible refine below_drewN ?_ _) | (with_reducible refine Below.drew ?_) | (with_reducible refine Below.setCell ?_ ?_ _) | (with_reducible refine Below.alloc ?_ ?_ _) | omega | (simp; done) | (simp; omega))) (hb9.mono (by first | assumption | (simp; done) | (simp; omega)))
        have hz9 := hw9.size
        clear hb9
        go_wp2_with fail
        go_ret
        exact ⟨by simp, by repeat' (first | (with_reducible assumption) | (with_reducible exact Below.refl _ _) | (with_reducible refine below_drewN ?_ _) | (with_reducible refine Below.drew ?_) | (with_reducible refine Below.setCell ?_ ?_ _) | (with_reducible refine Below.alloc ?_ ?_ _) | omega | (simp; done) | (simp; omega))⟩
      · obtain ⟨i0, i1⟩ := wi_b hp
        obtain ⟨j0, j1⟩ := wi_b hr
        have N4 := fun w => NY i0 i1 j0 j1 w
        have k1 := sq25 i0 i1 i0 i1
        have k2 := sq25 j0 j1 j0 j1
        have l0 : -9223372036854775808 ≤ P * P + Q * Q := by omega
        have l1 : P * P + Q * Q ≤ 9223372036854775807 := by omega
        rw [hbr.out] at N4 l0 l1
        rw [hr] at WQ
        replace WQ := Lib.hid WQ
        replace N4 := Lib.hid N4
        clear NN NY WN WM hp hr k1 k2
        with_reducible refine (WP.out _).mono ?_
        rintro e w' ⟨rfl, rfl⟩
        go_wp2_with fail
        with_reducible refine (WQ.out _).mono ?_
        rintro e w' ⟨rfl, rfl⟩
        go_wp2_with fail
        with_reducible refine (N4.out _).mono ?_
        rintro e w9 ⟨rfl, hb9⟩
        have hw9 : Below w.heap.size w w9 := Below.trans (by repeat' (first | (with_reducible assumption) | (with_reducible exact Below.refl _ _) | (with_reducible refine below_drewN ?_ _) | (with_reducible refine Below.drew ?_) | (with_reducible refine Below.setCell ?_ ?_ _) | (with_reducible refine Below.alloc ?_ ?_ _) | omega | (simp; done) | (simp; omega))) (hb9.mono (by first | assumption | (simp; done) | (simp; omega)))
        have hz9 := hw9.size
        clear hb9
        go_wp2_with fail
        go_ret
        exact ⟨by simp, by repeat' (first | (with_reducible assumption) | (with_reducible exact Below.refl _ _) | (with_reducible refine below_drewN ?_ _) | (with_reducible refine Below.drew ?_) | (with_reducible refine Below.setCell ?_ ?_ _) | (with_reducible refine Below.alloc ?_ ?_ _) | omega | (simp; done) | (simp; omega))⟩
end Go.Proofs.Ytimgmobpgbekjaa
