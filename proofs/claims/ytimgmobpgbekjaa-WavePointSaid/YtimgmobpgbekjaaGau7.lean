/- The walk of GaussTimes. No condition. -/
import Derived.Test.YtimgmobpgbekjaaGau6
namespace Go.Proofs.Ytimgmobpgbekjaa
open Go.RowKit

theorem four_wi {a b c d : Int} (h : (wi a && (wi b && (wi c && wi d))) = true) : (-33554432 ≤ a ∧ a ≤ 33554432) ∧ (-33554432 ≤ b ∧ b ≤ 33554432) ∧ (-33554432 ≤ c ∧ c ≤ 33554432) ∧ (-33554432 ≤ d ∧ d ≤ 33554432) := by
  rw [Bool.and_eq_true, Bool.and_eq_true, Bool.and_eq_true] at h
  exact ⟨wi_b h.1, wi_b h.2.1, wi_b h.2.2.1, wi_b h.2.2.2⟩

set_option maxHeartbeats 1600000 in
theorem gaussTimes_walk (a b c d : Int) (a0 : -9223372036854775808 ≤ a) (a1 : a ≤ 9223372036854775807) (b0 : -9223372036854775808 ≤ b) (b1 : b ≤ 9223372036854775807) (c0 : -9223372036854775808 ≤ c) (c1 : c ≤ 9223372036854775807) (d0 : -9223372036854775808 ≤ d) (d1 : d ≤ 9223372036854775807) (w : World) :
    Calls Try.prog 6 #[.agg #[.int .i64 a, .int .i64 b, .int .i64 c, .int .i64 d]] w fun e w' => e = .returned (.bool true) ∧ Below w.heap.size w w' := by
  have F := fun w => fits_any a b c d w
  cases h : (wi a && (wi b && (wi c && wi d)))
  · rw [h] at F
    replace F := Lib.hid F
    clear h
    go_enter Try.func6, Try.ntmps6
    go_wp2_with fail
    with_reducible refine (awake7 _).mono ?_
    rintro e w1 ⟨rfl, hb1⟩
    have c1_0 : w1.cell? ⟨w.heap.size, 0, none⟩ = some (.int .i64 a) := (hb1.cell (p := ⟨w.heap.size, 0, none⟩) (by first | assumption | (simp; done) | (simp; omega))).trans (by first | assumption | (simp [go_sem]; done) | (simp [go_sem, *]; done))
    have c1_1 : w1.cell? ⟨w.heap.size, 1, none⟩ = some (.int .i64 b) := (hb1.cell (p := ⟨w.heap.size, 1, none⟩) (by first | assumption | (simp; done) | (simp; omega))).trans (by first | assumption | (simp [go_sem]; done) | (simp [go_sem, *]; done))
    have c1_2 : w1.cell? ⟨w.heap.size, 2, none⟩ = some (.int .i64 c) := (hb1.cell (p := ⟨w.heap.size, 2, none⟩) (by first | assumption | (simp; done) | (simp; omega))).trans (by first | assumption | (simp [go_sem]; done) | (simp [go_sem, *]; done))
    have c1_3 : w1.cell? ⟨w.heap.size, 3, none⟩ = some (.int .i64 d) := (hb1.cell (p := ⟨w.heap.size, 3, none⟩) (by first | assumption | (simp; done) | (simp; omega))).trans (by first | assumption | (simp [go_sem]; done) | (simp [go_sem, *]; done))
    have hl1_0 : w.heap.size < w1.heap.size := by have hs := hb1.size; first | (simp at hs; omega) | omega
    have hw1 : Below w.heap.size w w1 := Below.trans (by repeat' (first | (with_reducible assumption) | (with_reducible exact Below.refl _ _) | (with_reducible refine below_drewN ?_ _) | (with_reducible refine Below.drew ?_) | (with_reducible refine Below.setCell ?_ ?_ _) | (with_reducible refine Below.alloc ?_ ?_ _) | omega | (simp; done) | (simp; omega))) (hb1.mono (by first | assumption | (simp; done) | (simp; omega)))
    have hz1 := hw1.size
    clear hb1
    go_wp2_with fail
    with_reducible refine (F.out _).mono ?_
    rintro e w2 ⟨rfl, hb2⟩
    have hw2 : Below w.heap.size w w2 := Below.trans (by repeat' (first | (with_reducible assumption) | (with_reducible exact Below.refl _ _) | (with_reducible refine below_drewN ?_ _) | (with_reducible refine Below.drew ?_) | (with_reducible refine Below.setCell ?_ ?_ _) | (with_reducible refine Below.alloc ?_ ?_ _) | omega | (simp; done) | (simp; omega))) (hb2.mono (by first | assumption | (simp; done) | (simp; omega)))
    have hz2 := hw2.size
    clear hb2
    go_wp2_with fail
    go_ret
    exact ⟨by simp, by repeat' (first | (with_reducible assumption) | (with_reducible exact Below.refl _ _) | (with_reducible refine below_drewN ?_ _) | (with_reducible refine Below.drew ?_) | (with_reducible refine Below.setCell ?_ ?_ _) | (with_reducible refine Below.alloc ?_ ?_ _) | omega | (simp; done) | (simp; omega))⟩
  · obtain ⟨⟨p0, p1⟩, ⟨q0, q1⟩, ⟨r0, r1⟩, ⟨s0, s1⟩⟩ := four_wi h
    rw [h] at F
    replace F := Lib.hid F
    have R1 := Fl.rep_ofInt a (by omega)
    have R2 := Fl.rep_ofInt b (by omega)
    have R3 := Fl.rep_ofInt c (by omega)
    have R4 := Fl.rep_ofInt d (by omega)
    have O1 := fun w => of_yes a b p0 p1 q0 q1 w
    have O2 := fun w => of_yes c d r0 r1 s0 s1 w
    have T1 := fun w => times_yes R1 R2 R3 R4 p0 p1 q0 q1 r0 r1 s0 s1 w
    have T2 := fun w => times_yes R3 R4 R1 R2 r0 r1 s0 s1 p0 p1 q0 q1 w
    have k1 := sq25 p0 p1 r0 r1
    have k2 := sq25 q0 q1 s0 s1
    have k3 := sq25 p0 p1 s0 s1
    have k4 := sq25 q0 q1 r0 r1
    have e1 : c * a - d * b = a * c - b * d := by rw [Int.mul_comm c a, Int.mul_comm d b]
    have e2 : c * b + d * a = a * d + b * c := by rw [Int.mul_comm c b, Int.mul_comm d a, Int.add_comm]
    rw [e1, e2] at T2
    generalize floatOfInt .f64 a = x at *
    generalize floatOfInt .f64 b = y at *
    generalize floatOfInt .f64 c = u at *
    generalize floatOfInt .f64 d = v at *
    replace T1 := Lib.hid T1
    replace T2 := Lib.hid T2
    replace O1 := Lib.hid O1
    replace O2 := Lib.hid O2
    clear h e1 e2 R1 R2 R3 R4
    go_enter Try.func6, Try.ntmps6
    go_wp2_with fail
    with_reducible refine (awake7 _).mono ?_
    rintro e w1 ⟨rfl, hb1⟩
    have c1_0 : w1.cell? ⟨w.heap.size, 0, none⟩ = some (.int .i64 a) := (hb1.cell (p := ⟨w.heap.size, 0, none⟩) (by first | assumption | (simp; done) | (simp; omega))).trans (by first | assumption | (simp [go_sem]; done) | (simp [go_sem, *]; done))
    have c1_1 : w1.cell? ⟨w.heap.size, 1, none⟩ = some (.int .i64 b) := (hb1.cell (p := ⟨w.heap.size, 1, none⟩) (by first | assumption | (simp; done) | (simp; omega))).trans (by first | assumption | (simp [go_sem]; done) | (simp [go_sem, *]; done))
    have c1_2 : w1.cell? ⟨w.heap.size, 2, none⟩ = some (.int .i64 c) := (hb1.cell (p := ⟨w.heap.size, 2, none⟩) (by first | assumption | (simp; done) | (simp; omega))).trans (by first | assumption | (simp [go_sem]; done) | (simp [go_sem, *]; done))
    have c1_3 : w1.cell? ⟨w.heap.size, 3, none⟩ = some (.int .i64 d) := (hb1.cell (p := ⟨w.heap.size, 3, none⟩) (by first | assumption | (simp; done) | (simp; omega))).trans (by first | assumption | (simp [go_sem]; done) | (simp [go_sem, *]; done))
    have hl1_0 : w.heap.size < w1.heap.size := by have hs := hb1.size; first | (simp at hs; omega) | omega
    have hw1 : Below w.heap.size w w1 := Below.trans (by repeat' (first | (with_reducible assumption) | (with_reducible exact Below.refl _ _) | (with_reducible refine below_drewN ?_ _) | (with_reducible refine Below.drew ?_) | (with_reducible refine Below.setCell ?_ ?_ _) | (with_reducible refine Below.alloc ?_ ?_ _) | omega | (simp; done) | (simp; omega))) (hb1.mono (by first | assumption | (simp; done) | (simp; omega)))
    have hz1 := hw1.size
    clear hb1
    go_wp2_with fail
    with_reducible refine (F.out _).mono ?_
    rintro e w2 ⟨rfl, hb2⟩
    have c2_0 : w2.cell? ⟨w.heap.size, 0, none⟩ = some (.int .i64 a) := (hb2.cell (p := ⟨w.heap.size, 0, none⟩) (by first | assumption | (simp; done) | (simp; omega))).trans (by first | assumption | (simp [go_sem]; done) | (simp [go_sem, *]; done))
    have c2_1 : w2.cell? ⟨w.heap.size, 1, none⟩ = some (.int .i64 b) := (hb2.cell (p := ⟨w.heap.size, 1, none⟩) (by first | assumption | (simp; done) | (simp; omega))).trans (by first | assumption | (simp [go_sem]; done) | (simp [go_sem, *]; done))
    have c2_2 : w2.cell? ⟨w.heap.size, 2, none⟩ = some (.int .i64 c) := (hb2.cell (p := ⟨w.heap.size, 2, none⟩) (by first | assumption | (simp; done) | (simp; omega))).trans (by first | assumption | (simp [go_sem]; done) | (simp [go_sem, *]; done))
    have c2_3 : w2.cell? ⟨w.heap.size, 3, none⟩ = some (.int .i64 d) := (hb2.cell (p := ⟨w.heap.size, 3, none⟩) (by first | assumption | (simp; done) | (simp; omega))).trans (by first | assumption | (simp [go_sem]; done) | (simp [go_sem, *]; done))
    have hl2_0 : w.heap.size < w2.heap.size := by have hs := hb2.size; first | (simp at hs; omega) | omega
    have hw2 : Below w.heap.size w w2 := Below.trans (by repeat' (first | (with_reducible assumption) | (with_reducible exact Below.refl _ _) | (with_reducible refine below_drewN ?_ _) | (with_reducible refine Below.drew ?_) | (with_reducible refine Below.setCell ?_ ?_ _) | (with_reducible refine Below.alloc ?_ ?_ _) | omega | (simp; done) | (simp; omega))) (hb2.mono (by first | assumption | (simp; done) | (simp; omega)))
    have hz2 := hw2.size
    clear hb2
    go_wp2_with fail
    go_quiet (first | ((go_at_call 17; with_reducible exact quiet_same (O1.out _))) | ((go_at_call 17; with_reducible exact quiet_same (O2.out _))))
    go_wp2_with fail
    with_reducible refine (T1.out _).mono ?_
    rintro e w3 ⟨re, im, rfl, hre, him, hb3⟩
    have c3_0 : w3.cell? ⟨w.heap.size, 0, none⟩ = some (.int .i64 a) := (hb3.cell (p := ⟨w.heap.size, 0, none⟩) (by first | assumption | (simp; done) | (simp; omega))).trans (by first | assumption | (simp [go_sem]; done) | (simp [go_sem, *]; done))
    have c3_1 : w3.cell? ⟨w.heap.size, 1, none⟩ = some (.int .i64 b) := (hb3.cell (p := ⟨w.heap.size, 1, none⟩) (by first | assumption | (simp; done) | (simp; omega))).trans (by first | assumption | (simp [go_sem]; done) | (simp [go_sem, *]; done))
    have c3_2 : w3.cell? ⟨w.heap.size, 2, none⟩ = some (.int .i64 c) := (hb3.cell (p := ⟨w.heap.size, 2, none⟩) (by first | assumption | (simp; done) | (simp; omega))).trans (by first | assumption | (simp [go_sem]; done) | (simp [go_sem, *]; done))
    have c3_3 : w3.cell? ⟨w.heap.size, 3, none⟩ = some (.int .i64 d) := (hb3.cell (p := ⟨w.heap.size, 3, none⟩) (by first | assumption | (simp; done) | (simp; omega))).trans (by first | assumption | (simp [go_sem]; done) | (simp [go_sem, *]; done))
    have hl3_0 : w.heap.size < w3.heap.size := by have hs := hb3.size; first | (simp at hs; omega) | omega
    have hw3 : Below w.heap.size w w3 := Below.trans (by repeat' (first | (with_reducible assumption) | (with_reducible exact Below.refl _ _) | (with_reducible refine below_drewN ?_ _) | (with_reducible refine Below.drew ?_) | (with_reducible refine Below.setCell ?_ ?_ _) | (with_reducible refine Below.alloc ?_ ?_ _) | omega | (simp; done) | (simp; omega))) (hb3.mono (by first | assumption | (simp; done) | (simp; omega)))
    have hz3 := hw3.size
    clear hb3
    have P1 := Lib.hid (fun w => parts_yes hre him (by omega) (by omega) (by omega) (by omega) w)
    go_wp2_with fail
    with_reducible refine (P1.out _).mono ?_
    rintro e w4 ⟨rfl, hb4⟩
    have c4_0 : w4.cell? ⟨w.heap.size, 0, none⟩ = some (.int .i64 a) := (hb4.cell (p := ⟨w.heap.size, 0, none⟩) (by first | assumption | (simp; done) | (simp; omega))).trans (by first | assumption | (simp [go_sem]; done) | (simp [go_sem, *]; done))
    have c4_1 : w4.cell? ⟨w.heap.size, 1, none⟩ = some (.int .i64 b) := (hb4.cell (p := ⟨w.heap.size, 1, none⟩) (by first | assumption | (simp; done) | (simp; omega))).trans (by first | assumption | (simp [go_sem]; done) | (simp [go_sem, *]; done))
    have c4_2 : w4.cell? ⟨w.heap.size, 2, none⟩ = some (.int .i64 c) := (hb4.cell (p := ⟨w.heap.size, 2, none⟩) (by first | assumption | (simp; done) | (simp; omega))).trans (by first | assumption | (simp [go_sem]; done) | (simp [go_sem, *]; done))
    have c4_3 : w4.cell? ⟨w.heap.size, 3, none⟩ = some (.int .i64 d) := (hb4.cell (p := ⟨w.heap.size, 3, none⟩) (by first | assumption | (simp; done) | (simp; omega))).trans (by first | assumption | (simp [go_sem]; done) | (simp [go_sem, *]; done))
    have hl4_0 : w.heap.size < w4.heap.size := by have hs := hb4.size; first | (simp at hs; omega) | omega
    have hw4 : Below w.heap.size w w4 := Below.trans (by repeat' (first | (with_reducible assumption) | (with_reducible exact Below.refl _ _) | (with_reducible refine below_drewN ?_ _) | (with_reducible refine Below.drew ?_) | (with_reducible refine Below.setCell ?_ ?_ _) | (with_reducible refine Below.alloc ?_ ?_ _) | omega | (simp; done) | (simp; omega))) (hb4.mono (by first | assumption | (simp; done) | (simp; omega)))
    have hz4 := hw4.size
    clear hb4
    go_wp2_with fail
    with_reducible refine (T2.out _).mono ?_
    rintro e w5 ⟨re', im', rfl, hre', him', hb5⟩
    have c5_0 : w5.cell? ⟨w.heap.size, 0, none⟩ = some (.int .i64 a) := (hb5.cell (p := ⟨w.heap.size, 0, none⟩) (by first | assumption | (simp; done) | (simp; omega))).trans (by first | assumption | (simp [go_sem]; done) | (simp [go_sem, *]; done))
    have c5_1 : w5.cell? ⟨w.heap.size, 1, none⟩ = some (.int .i64 b) := (hb5.cell (p := ⟨w.heap.size, 1, none⟩) (by first | assumption | (simp; done) | (simp; omega))).trans (by first | assumption | (simp [go_sem]; done) | (simp [go_sem, *]; done))
    have c5_2 : w5.cell? ⟨w.heap.size, 2, none⟩ = some (.int .i64 c) := (hb5.cell (p := ⟨w.heap.size, 2, none⟩) (by first | assumption | (simp; done) | (simp; omega))).trans (by first | assumption | (simp [go_sem]; done) | (simp [go_sem, *]; done))
    have c5_3 : w5.cell? ⟨w.heap.size, 3, none⟩ = some (.int .i64 d) := (hb5.cell (p := ⟨w.heap.size, 3, none⟩) (by first | assumption | (simp; done) | (simp; omega))).trans (by first | assumption | (simp [go_sem]; done) | (simp [go_sem, *]; done))
    have hl5_0 : w.heap.size < w5.heap.size := by have hs := hb5.size; first | (simp at hs; omega) | omega
    have hw5 : Below w.heap.size w w5 := Below.trans (by repeat' (first | (with_reducible assumption) | (with_reducible exact Below.refl _ _) | (with_reducible refine below_drewN ?_ _) | (with_reducible refine Below.drew ?_) | (with_reducible refine Below.setCell ?_ ?_ _) | (with_reducible refine Below.alloc ?_ ?_ _) | omega | (simp; done) | (simp; omega))) (hb5.mono (by first | assumption | (simp; done) | (simp; omega)))
    have hz5 := hw5.size
    clear hb5
    have P2 := Lib.hid (fun w => parts_yes hre' him' (by omega) (by omega) (by omega) (by omega) w)
    go_wp2_with fail
    with_reducible refine (P2.out _).mono ?_
    rintro e w6 ⟨rfl, hb6⟩
    have c6_0 : w6.cell? ⟨w.heap.size, 0, none⟩ = some (.int .i64 a) := (hb6.cell (p := ⟨w.heap.size, 0, none⟩) (by first | assumption | (simp; done) | (simp; omega))).trans (by first | assumption | (simp [go_sem]; done) | (simp [go_sem, *]; done))
    have c6_1 : w6.cell? ⟨w.heap.size, 1, none⟩ = some (.int .i64 b) := (hb6.cell (p := ⟨w.heap.size, 1, none⟩) (by first | assumption | (simp; done) | (simp; omega))).trans (by first | assumption | (simp [go_sem]; done) | (simp [go_sem, *]; done))
    have c6_2 : w6.cell? ⟨w.heap.size, 2, none⟩ = some (.int .i64 c) := (hb6.cell (p := ⟨w.heap.size, 2, none⟩) (by first | assumption | (simp; done) | (simp; omega))).trans (by first | assumption | (simp [go_sem]; done) | (simp [go_sem, *]; done))
    have c6_3 : w6.cell? ⟨w.heap.size, 3, none⟩ = some (.int .i64 d) := (hb6.cell (p := ⟨w.heap.size, 3, none⟩) (by first | assumption | (simp; done) | (simp; omega))).trans (by first | assumption | (simp [go_sem]; done) | (simp [go_sem, *]; done))
    have hl6_0 : w.heap.size < w6.heap.size := by have hs := hb6.size; first | (simp at hs; omega) | omega
    have hw6 : Below w.heap.size w w6 := Below.trans (by repeat' (first | (with_reducible assumption) | (with_reducible exact Below.refl _ _) | (with_reducible refine below_drewN ?_ _) | (with_reducible refine Below.drew ?_) | (with_reducible refine Below.setCell ?_ ?_ _) | (with_reducible refine Below.alloc ?_ ?_ _) | omega | (simp; done) | (simp; omega))) (hb6.mono (by first | assumption | (simp; done) | (simp; omega)))
    have hz6 := hw6.size
    clear hb6
    go_wp2_with fail
    go_ret
    exact ⟨by simp, by repeat' (first | (with_reducible assumption) | (with_reducible exact Below.refl _ _) | (with_reducible refine below_drewN ?_ _) | (with_reducible refine Below.drew ?_) | (with_reducible refine Below.setCell ?_ ?_ _) | (with_reducible refine Below.alloc ?_ ?_ _) | omega | (simp; done) | (simp; omega))⟩
end Go.Proofs.Ytimgmobpgbekjaa
