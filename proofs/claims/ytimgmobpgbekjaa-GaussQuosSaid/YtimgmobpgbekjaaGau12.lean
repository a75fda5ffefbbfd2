/- The walk of GaussQuos. No condition. -/
import Derived.Test.YtimgmobpgbekjaaGau9
namespace Go.Proofs.Ytimgmobpgbekjaa
open Go.RowKit

theorem keepQ {w W w2 : World} {a b c d : Value} (hb2 : Below W.heap.size W w2) (h0 : W.cell? ⟨w.heap.size, 0, none⟩ = some a) (h1 : W.cell? ⟨w.heap.size, 1, none⟩ = some b) (h2 : W.cell? ⟨w.heap.size, 2, none⟩ = some c) (h3 : W.cell? ⟨w.heap.size, 3, none⟩ = some d) (hl : w.heap.size < W.heap.size) (hB : Below w.heap.size w W) :
    w2.cell? ⟨w.heap.size, 0, none⟩ = some a ∧ w2.cell? ⟨w.heap.size, 1, none⟩ = some b ∧ w2.cell? ⟨w.heap.size, 2, none⟩ = some c ∧ w2.cell? ⟨w.heap.size, 3, none⟩ = some d ∧ w.heap.size < w2.heap.size ∧ Below w.heap.size w w2 :=
  ⟨(hb2.cell (p := ⟨w.heap.size, 0, none⟩) hl).trans h0, (hb2.cell (p := ⟨w.heap.size, 1, none⟩) hl).trans h1, (hb2.cell (p := ⟨w.heap.size, 2, none⟩) hl).trans h2, (hb2.cell (p := ⟨w.heap.size, 3, none⟩) hl).trans h3, Nat.lt_of_lt_of_le hl hb2.size, hB.trans (hb2.mono (Nat.le_of_lt hl))⟩

set_option maxHeartbeats 3200000 in
theorem gaussQuos_walk (a b c d : Int) (a0 : -9223372036854775808 ≤ a) (a1 : a ≤ 9223372036854775807) (b0 : -9223372036854775808 ≤ b) (b1 : b ≤ 9223372036854775807) (c0 : -9223372036854775808 ≤ c) (c1 : c ≤ 9223372036854775807) (d0 : -9223372036854775808 ≤ d) (d1 : d ≤ 9223372036854775807) (w : World) :
    Calls Try.prog 8 #[.agg #[.int .i64 a, .int .i64 b, .int .i64 c, .int .i64 d]] w fun e w' => e = .returned (.bool true) ∧ Below w.heap.size w w' := by
  have F := fun w => fits_any a b c d w
  cases h : (wi a && (wi b && (wi c && wi d)))
  · rw [h] at F
    replace F := Lib.hid F
    clear h
    go_enter Try.func8, Try.ntmps8
    go_wp2_with fail
    with_reducible refine (awake7 _).mono ?_
    rintro e w1 ⟨rfl, hb1⟩
    have c1_0 : w1.cell? ⟨w.heap.size, 0, none⟩ = some (.int .i64 a) := (hb1.cell (p := ⟨w.heap.size, 0, none⟩) (by first | assumption | (simp; done) | (simp; omega))).trans (by first | assumption | (simp [go_sem]; done) | (simp [go_sem, *]; done))
    have c1_1 : w1.cell? ⟨w.heap.size, 1, none⟩ = some (.int .i64 b) := (hb1.cell (p := ⟨w.heap.size, 1, none⟩) (by first | assumption | (simp; done) | (simp; omega))).trans (by first | assumption | (simp [go_sem]; done) | (simp [go_sem, *]; done))
    have c1_2 : w1.cell? ⟨w.heap.size, 2, none⟩ = some (.int .i64 c) := (hb1.cell (p := ⟨w.heap.size, 2, none⟩) (by first | assumption | (simp; done) | (simp; omega))).trans (by first | assumption | (simp [go_sem]; done) | (simp [go_sem, *]; done))
    have c1_3 : w1.cell? ⟨w.heap.size, 3, none⟩ = some (.int .i64 d) := (hb1.cell (p := ⟨w.heap.size, 3, none⟩) (by first | assumption | (simp; done) | (simp; omega))).trans (by first | assumption | (simp [go_sem]; done) | (simp [go_sem, *]; done))
    have hl1_0 : w.heap.size < w1.heap.size := by have hs := hb1.size; first | (simp at hs; omega) | omega
    have hw1 : Below w.heap.size w w1 := Below.trans (by repeat' (first | (with_reducible assumption) | (with_reducible exact Below.refl _ _) | (with_reducible refine below_drewN ?_ _) | (with_reducible refine Below.drew ?_) | (with_reducible refine Below.setCell ?_ ?_ _) | (with_reducible refine Below.alloc ?_ ?_ _) | omega | (simp; done) | (simp; omega))) (hb1.mono (by first | assumption | (simp; done) | (simp; omega)))
    have hz1 := hw1.size
    clear hb1
    go_wp2_with fail
    with_reducible refine (F.out _).mono ?_
    rintro e w2 ⟨rfl, hb2⟩
    have hw2 : Below w.heap.size w w2 := Below.trans (by repeat' (first | (with_reducible assumption) | (with_reducible exact Below.refl _ _) | (with_reducible refine below_drewN ?_ _) | (with_reducible refine Below.drew ?_) | (with_reducible refine Below.setCell ?_ ?_ _) | (with_reducible refine Below.alloc ?_ ?_ _) | omega | (simp; done) | (simp; omega))) (hb2.mono (by first | assumption | (simp; done) | (simp; omega)))
    have hz2 := hw2.size
    clear hb2
    go_wp2_with fail
    go_ret
    exact ⟨by simp, by repeat' (first | (with_reducible assumption) | (with_reducible exact Below.refl _ _) | (with_reducible refine below_drewN ?_ _) | (with_reducible refine Below.drew ?_) | (with_reducible refine Below.setCell ?_ ?_ _) | (with_reducible refine Below.alloc ?_ ?_ _) | omega | (simp; done) | (simp; omega))⟩
  · obtain ⟨⟨p0, p1⟩, ⟨q0, q1⟩, ⟨r0, r1⟩, ⟨s0, s1⟩⟩ := four_wi h
    rw [h] at F
    replace F := Lib.hid F
    have R1 := Fl.rep_ofInt a (by omega)
    have R2 := Fl.rep_ofInt b (by omega)
    have R3 := Fl.rep_ofInt c (by omega)
    have R4 := Fl.rep_ofInt d (by omega)
    have O1 := fun w => of_yes a b p0 p1 q0 q1 w
    have O2 := fun w => of_yes c d r0 r1 s0 s1 w
    have k1 := sq25 p0 p1 r0 r1
    have k2 := sq25 q0 q1 s0 s1
    have k3 := sq25 p0 p1 s0 s1
    have k4 := sq25 q0 q1 r0 r1
    have k5 := sq25 p0 p1 p0 p1
    have k6 := sq25 q0 q1 q0 q1
    have k7 := sq25 r0 r1 r0 r1
    have k8 := sq25 s0 s1 s0 s1
    have z1 : IntKind.i64.wrap (a * c) = a * c := by rw [IntKind.wrap_i64]; omega
    have z2 : IntKind.i64.wrap (b * d) = b * d := by rw [IntKind.wrap_i64]; omega
    have z3 : IntKind.i64.wrap (b * c) = b * c := by rw [IntKind.wrap_i64]; omega
    have z4 : IntKind.i64.wrap (a * d) = a * d := by rw [IntKind.wrap_i64]; omega
    have z5 : IntKind.i64.wrap (a * c + b * d) = a * c + b * d := by rw [IntKind.wrap_i64]; omega
    have z6 : IntKind.i64.wrap (b * c - a * d) = b * c - a * d := by rw [IntKind.wrap_i64]; omega
    generalize floatOfInt .f64 a = x at *
    generalize floatOfInt .f64 b = y at *
    generalize floatOfInt .f64 c = u at *
    generalize floatOfInt .f64 d = v at *
    replace O1 := Lib.hid O1
    replace O2 := Lib.hid O2
    by_cases hcd : c = 0 ∧ d = 0
    · have hN : c * c + d * d ≤ 0 := by rw [hcd.1, hcd.2]; decide
      rw [hcd.1] at R3
      rw [hcd.2] at R4
      have QQ := fun w => quo_zero R1 R2 R3 R4 p0 p1 q0 q1 w
      replace QQ := Lib.hid QQ
      have PP := Lib.hid (fun w => parts_yes Fl.rep0 Fl.rep0 (by decide) (by decide) (by decide) (by decide) w)
      clear h R1 R2 R3 R4 hcd
      go_enter Try.func8, Try.ntmps8
      go_wp2_with fail
      with_reducible refine (awake7 _).mono ?_
      rintro e w1 ⟨rfl, hb1⟩
      have c1_0 : w1.cell? ⟨w.heap.size, 0, none⟩ = some (.int .i64 a) := (hb1.cell (p := ⟨w.heap.size, 0, none⟩) (by first | assumption | (simp; done) | (simp; omega))).trans (by first | assumption | (simp [go_sem]; done) | (simp [go_sem, *]; done))
      have c1_1 : w1.cell? ⟨w.heap.size, 1, none⟩ = some (.int .i64 b) := (hb1.cell (p := ⟨w.heap.size, 1, none⟩) (by first | assumption | (simp; done) | (simp; omega))).trans (by first | assumption | (simp [go_sem]; done) | (simp [go_sem, *]; done))
      have c1_2 : w1.cell? ⟨w.heap.size, 2, none⟩ = some (.int .i64 c) := (hb1.cell (p := ⟨w.heap.size, 2, none⟩) (by first | assumption | (simp; done) | (simp; omega))).trans (by first | assumption | (simp [go_sem]; done) | (simp [go_sem, *]; done))
      have c1_3 : w1.cell? ⟨w.heap.size, 3, none⟩ = some (.int .i64 d) := (hb1.cell (p := ⟨w.heap.size, 3, none⟩) (by first | assumption | (simp; done) | (simp; omega))).trans (by first | assumption | (simp [go_sem]; done) | (simp [go_sem, *]; done))
      have hl1_0 : w.heap.size < w1.heap.size := by have hs := hb1.size; first | (simp at hs; omega) | omega
      have hw1 : Below w.heap.size w w1 := Below.trans (by repeat' (first | (with_reducible assumption) | (with_reducible exact Below.refl _ _) | (with_reducible refine below_drewN ?_ _) | (with_reducible refine Below.drew ?_) | (with_reducible refine Below.setCell ?_ ?_ _) | (with_reducible refine Below.alloc ?_ ?_ _) | omega | (simp; done) | (simp; omega))) (hb1.mono (by first | assumption | (simp; done) | (simp; omega)))
      have hz1 := hw1.size
      clear hb1
      go_wp2_with fail
      with_reducible refine (F.out _).mono ?_
      rintro e w2 ⟨rfl, hb2⟩
      have c2_0 : w2.cell? ⟨w.heap.size, 0, none⟩ = some (.int .i64 a) := (hb2.cell (p := ⟨w.heap.size, 0, none⟩) (by first | assumption | (simp; done) | (simp; omega))).trans (by first | assumption | (simp [go_sem]; done) | (simp [go_sem, *]; done))
      have c2_1 : w2.cell? ⟨w.heap.size, 1, none⟩ = some (.int .i64 b) := (hb2.cell (p := ⟨w.heap.size, 1, none⟩) (by first | assumption | (simp; done) | (simp; omega))).trans (by first | assumption | (simp [go_sem]; done) | (simp [go_sem, *]; done))
      have c2_2 : w2.cell? ⟨w.heap.size, 2, none⟩ = some (.int .i64 c) := (hb2.cell (p := ⟨w.heap.size, 2, none⟩) (by first | assumption | (simp; done) | (simp; omega))).trans (by first | assumption | (simp [go_sem]; done) | (simp [go_sem, *]; done))
      have c2_3 : w2.cell? ⟨w.heap.size, 3, none⟩ = some (.int .i64 d) := (hb2.cell (p := ⟨w.heap.size, 3, none⟩) (by first | assumption | (simp; done) | (simp; omega))).trans (by first | assumption | (simp [go_sem]; done) | (simp [go_sem, *]; done))
      have hl2_0 : w.heap.size < w2.heap.size := by have hs := hb2.size; first | (simp at hs; omega) | omega
      have hw2 : Below w.heap.size w w2 := Below.trans (by repeat' (first | (with_reducible assumption) | (with_reducible exact Below.refl _ _) | (with_reducible refine below_drewN ?_ _) | (with_reducible refine Below.drew ?_) | (with_reducible refine Below.setCell ?_ ?_ _) | (with_reducible refine Below.alloc ?_ ?_ _) | omega | (simp; done) | (simp; omega))) (hb2.mono (by first | assumption | (simp; done) | (simp; omega)))
      have hz2 := hw2.size
      clear hb2
      go_wp2_with fail
      first | (go_region_held3 (fun W => W.cell? ⟨w.heap.size, 0, none⟩ = some (.int .i64 a) ∧ W.cell? ⟨w.heap.size, 1, none⟩ = some (.int .i64 b) ∧ W.cell? ⟨w.heap.size, 2, none⟩ = some (.int .i64 c) ∧ W.cell? ⟨w.heap.size, 3, none⟩ = some (.int .i64 d) ∧ w.heap.size < W.heap.size ∧ Below w.heap.size w W) (((try dsimp only); (repeat' apply And.intro) <;> (first | assumption | (simp [*, go_sem]; done) | omega | (simp; omega) | (repeat' (first | (with_reducible assumption) | (with_reducible exact Below.refl _ _) | (with_reducible refine below_drewN ?_ _) | (with_reducible refine Below.drew ?_) | (with_reducible refine Below.setCell ?_ ?_ _) | (with_reducible refine Below.alloc ?_ ?_ _) | omega | (simp; done) | (simp; omega)))))) (first | (go_at_call 17; (with_reducible refine (O1.out _).mono ?_); rintro e wq ⟨rfl, rfl⟩) | (go_at_call 17; (with_reducible refine (O2.out _).mono ?_); rintro e wq ⟨rfl, rfl⟩) | (go_at_call 25; (with_reducible refine (QQ.out _).mono ?_); rintro e w3 ⟨rfl, hb3⟩; obtain ⟨c3_0, c3_1, c3_2, c3_3, hl3, hw3⟩ := keepQ (w := w) hb3 (by first | assumption | (simp [go_sem, *]; done)) (by first | assumption | (simp [go_sem, *]; done)) (by first | assumption | (simp [go_sem, *]; done)) (by first | assumption | (simp [go_sem, *]; done)) (by first | assumption | (simp; done) | (simp; omega)) (by first | assumption | (repeat' (first | (with_reducible assumption) | (with_reducible exact Below.refl _ _) | (with_reducible refine below_drewN ?_ _) | (with_reducible refine Below.drew ?_) | (with_reducible refine Below.setCell ?_ ?_ _) | (with_reducible refine Below.alloc ?_ ?_ _) | omega | (simp; done) | (simp; omega))))))) | fail
      all_goals
        go_wp2_with fail
        have hz3 := hw3.size
        go_quiet (fail)
        go_wp2_with fail
        clear z1 z2 z3 z4 z5 z6
        with_reducible refine (PP.out _).mono ?_
        rintro e w4 ⟨rfl, hb4⟩
        have hw4 : Below w.heap.size w w4 := Below.trans (by repeat' (first | (with_reducible assumption) | (with_reducible exact Below.refl _ _) | (with_reducible refine below_drewN ?_ _) | (with_reducible refine Below.drew ?_) | (with_reducible refine Below.setCell ?_ ?_ _) | (with_reducible refine Below.alloc ?_ ?_ _) | omega | (simp; done) | (simp; omega))) (hb4.mono (by first | assumption | (simp; done) | (simp; omega)))
        have hz4 := hw4.size
        clear hb4
        go_wp2_with fail
        go_ret
        exact ⟨by simp, by repeat' (first | (with_reducible assumption) | (with_reducible exact Below.refl _ _) | (with_reducible refine below_drewN ?_ _) | (with_reducible refine Below.drew ?_) | (with_reducible refine Below.setCell ?_ ?_ _) | (with_reducible refine Below.alloc ?_ ?_ _) | omega | (simp; done) | (simp; omega))⟩
    · have hN := norm_pos hcd
      have n1 : c * c + d * d ≤ 4503599627370496 := by omega
      obtain ⟨t0, t1⟩ := tdiv_bound (N := c * c + d * d) (B := 4503599627370496) (show -4503599627370496 ≤ a * c + b * d by omega) (by omega)
      obtain ⟨t2, t3⟩ := tdiv_bound (N := c * c + d * d) (B := 4503599627370496) (show -4503599627370496 ≤ b * c - a * d by omega) (by omega)
      cases hok : qOk (a * c + b * d) (b * c - a * d) (c * c + d * d)
      · have QQ := fun w => quo_no R1 R2 R3 R4 p0 p1 q0 q1 r0 r1 s0 s1 hcd hok w
        replace QQ := Lib.hid QQ
        have PP := Lib.hid (fun w => parts_yes Fl.rep0 Fl.rep0 (by decide) (by decide) (by decide) (by decide) w)
        clear h R1 R2 R3 R4 hcd
        unfold qOk at hok
        by_cases hr : (a * c + b * d).tmod (c * c + d * d) = 0
        · have f1 : ((a * c + b * d).tmod (c * c + d * d) == 0) = true := beq_t hr
          have f2 : ((b * c - a * d).tmod (c * c + d * d) == 0) = false := by rw [f1] at hok; exact hok
          clear hok hr
          go_enter Try.func8, Try.ntmps8
          go_wp2_with fail
          with_reducible refine (awake7 _).mono ?_
          rintro e w1 ⟨rfl, hb1⟩
          have c1_0 : w1.cell? ⟨w.heap.size, 0, none⟩ = some (.int .i64 a) := (hb1.cell (p := ⟨w.heap.size, 0, none⟩) (by first | assumption | (simp; done) | (simp; omega))).trans (by first | assumption | (simp [go_sem]; done) | (simp [go_sem, *]; done))
          have c1_1 : w1.cell? ⟨w.heap.size, 1, none⟩ = some (.int .i64 b) := (hb1.cell (p := ⟨w.heap.size, 1, none⟩) (by first | assumption | (simp; done) | (simp; omega))).trans (by first | assumption | (simp [go_sem]; done) | (simp [go_sem, *]; done))
          have c1_2 : w1.cell? ⟨w.heap.size, 2, none⟩ = some (.int .i64 c) := (hb1.cell (p := ⟨w.heap.size, 2, none⟩) (by first | assumption | (simp; done) | (simp; omega))).trans (by first | assumption | (simp [go_sem]; done) | (simp [go_sem, *]; done))
          have c1_3 : w1.cell? ⟨w.heap.size, 3, none⟩ = some (.int .i64 d) := (hb1.cell (p := ⟨w.heap.size, 3, none⟩) (by first | assumption | (simp; done) | (simp; omega))).trans (by first | assumption | (simp [go_sem]; done) | (simp [go_sem, *]; done))
          have hl1_0 : w.heap.size < w1.heap.size := by have hs := hb1.size; first | (simp at hs; omega) | omega
          have hw1 : Below w.heap.size w w1 := Below.trans (by repeat' (first | (with_reducible assumption) | (with_reducible exact Below.refl _ _) | (with_reducible refine below_drewN ?_ _) | (with_reducible refine Below.drew ?_) | (with_reducible refine Below.setCell ?_ ?_ _) | (with_reducible refine Below.alloc ?_ ?_ _) | omega | (simp; done) | (simp; omega))) (hb1.mono (by first | assumption | (simp; done) | (simp; omega)))
          have hz1 := hw1.size
          clear hb1
          go_wp2_with fail
          with_reducible refine (F.out _).mono ?_
          rintro e w2 ⟨rfl, hb2⟩
          have c2_0 : w2.cell? ⟨w.heap.size, 0, none⟩ = some (.int .i64 a) := (hb2.cell (p := ⟨w.heap.size, 0, none⟩) (by first | assumption | (simp; done) | (simp; omega))).trans (by first | assumption | (simp [go_sem]; done) | (simp [go_sem, *]; done))
          have c2_1 : w2.cell? ⟨w.heap.size, 1, none⟩ = some (.int .i64 b) := (hb2.cell (p := ⟨w.heap.size, 1, none⟩) (by first | assumption | (simp; done) | (simp; omega))).trans (by first | assumption | (simp [go_sem]; done) | (simp [go_sem, *]; done))
          have c2_2 : w2.cell? ⟨w.heap.size, 2, none⟩ = some (.int .i64 c) := (hb2.cell (p := ⟨w.heap.size, 2, none⟩) (by first | assumption | (simp; done) | (simp; omega))).trans (by first | assumption | (simp [go_sem]; done) | (simp [go_sem, *]; done))
          have c2_3 : w2.cell? ⟨w.heap.size, 3, none⟩ = some (.int .i64 d) := (hb2.cell (p := ⟨w.heap.size, 3, none⟩) (by first | assumption | (simp; done) | (simp; omega))).trans (by first | assumption | (simp [go_sem]; done) | (simp [go_sem, *]; done))
          have hl2_0 : w.heap.size < w2.heap.size := by have hs := hb2.size; first | (simp at hs; omega) | omega
          have hw2 : Below w.heap.size w w2 := Below.trans (by repeat' (first | (with_reducible assumption) | (with_reducible exact Below.refl _ _) | (with_reducible refine below_drewN ?_ _) | (with_reducible refine Below.drew ?_) | (with_reducible refine Below.setCell ?_ ?_ _) | (with_reducible refine Below.alloc ?_ ?_ _) | omega | (simp; done) | (simp; omega))) (hb2.mono (by first | assumption | (simp; done) | (simp; omega)))
          have hz2 := hw2.size
          clear hb2
          go_wp2_with fail
          first | (go_region_held3 (fun W => W.cell? ⟨w.heap.size, 0, none⟩ = some (.int .i64 a) ∧ W.cell? ⟨w.heap.size, 1, none⟩ = some (.int .i64 b) ∧ W.cell? ⟨w.heap.size, 2, none⟩ = some (.int .i64 c) ∧ W.cell? ⟨w.heap.size, 3, none⟩ = some (.int .i64 d) ∧ w.heap.size < W.heap.size ∧ Below w.heap.size w W) (((try dsimp only); (repeat' apply And.intro) <;> (first | assumption | (simp [*, go_sem]; done) | omega | (simp; omega) | (repeat' (first | (with_reducible assumption) | (with_reducible exact Below.refl _ _) | (with_reducible refine below_drewN ?_ _) | (with_reducible refine Below.drew ?_) | (with_reducible refine Below.setCell ?_ ?_ _) | (with_reducible refine Below.alloc ?_ ?_ _) | omega | (simp; done) | (simp; omega)))))) (first | (go_at_call 17; (with_reducible refine (O1.out _).mono ?_); rintro e wq ⟨rfl, rfl⟩) | (go_at_call 17; (with_reducible refine (O2.out _).mono ?_); rintro e wq ⟨rfl, rfl⟩) | (go_at_call 25; (with_reducible refine (QQ.out _).mono ?_); rintro e w3 ⟨rfl, hb3⟩; obtain ⟨c3_0, c3_1, c3_2, c3_3, hl3, hw3⟩ := keepQ (w := w) hb3 (by first | assumption | (simp [go_sem, *]; done)) (by first | assumption | (simp [go_sem, *]; done)) (by first | assumption | (simp [go_sem, *]; done)) (by first | assumption | (simp [go_sem, *]; done)) (by first | assumption | (simp; done) | (simp; omega)) (by first | assumption | (repeat' (first | (with_reducible assumption) | (with_reducible exact Below.refl _ _) | (with_reducible refine below_drewN ?_ _) | (with_reducible refine Below.drew ?_) | (with_reducible refine Below.setCell ?_ ?_ _) | (with_reducible refine Below.alloc ?_ ?_ _) | omega | (simp; done) | (simp; omega))))))) | fail
          all_goals
            go_wp2_with fail
            have hz3 := hw3.size
            go_quiet (fail)
            go_wp2_with fail
            clear z1 z2 z3 z4 z5 z6
            with_reducible refine (PP.out _).mono ?_
            rintro e w4 ⟨rfl, hb4⟩
            have hw4 : Below w.heap.size w w4 := Below.trans (by repeat' (first | (with_reducible assumption) | (with_reducible exact Below.refl _ _) | (with_reducible refine below_drewN ?_ _) | (with_reducible refine Below.drew ?_) | (with_reducible refine Below.setCell ?_ ?_ _) | (with_reducible refine Below.alloc ?_ ?_ _) | omega | (simp; done) | (simp; omega))) (hb4.mono (by first | assumption | (simp; done) | (simp; omega)))
            have hz4 := hw4.size
            clear hb4
            go_wp2_with fail
            go_ret
            exact ⟨by simp, by repeat' (first | (with_reducible assumption) | (with_reducible exact Below.refl _ _) | (with_reducible refine below_drewN ?_ _) | (with_reducible refine Below.drew ?_) | (with_reducible refine Below.setCell ?_ ?_ _) | (with_reducible refine Below.alloc ?_ ?_ _) | omega | (simp; done) | (simp; omega))⟩
        · have f1 : ((a * c + b * d).tmod (c * c + d * d) == 0) = false := beq_f hr
          clear hok hr
          go_enter Try.func8, Try.ntmps8
          go_wp2_with fail
          with_reducible refine (awake7 _).mono ?_
          rintro e w1 ⟨rfl, hb1⟩
          have c1_0 : w1.cell? ⟨w.heap.size, 0, none⟩ = some (.int .i64 a) := (hb1.cell (p := ⟨w.heap.size, 0, none⟩) (by first | assumption | (simp; done) | (simp; omega))).trans (by first | assumption | (simp [go_sem]; done) | (simp [go_sem, *]; done))
          have c1_1 : w1.cell? ⟨w.heap.size, 1, none⟩ = some (.int .i64 b) := (hb1.cell (p := ⟨w.heap.size, 1, none⟩) (by first | assumption | (simp; done) | (simp; omega))).trans (by first | assumption | (simp [go_sem]; done) | (simp [go_sem, *]; done))
          have c1_2 : w1.cell? ⟨w.heap.size, 2, none⟩ = some (.int .i64 c) := (hb1.cell (p := ⟨w.heap.size, 2, none⟩) (by first | assumption | (simp; done) | (simp; omega))).trans (by first | assumption | (simp [go_sem]; done) | (simp [go_sem, *]; done))
          have c1_3 : w1.cell? ⟨w.heap.size, 3, none⟩ = some (.int .i64 d) := (hb1.cell (p := ⟨w.heap.size, 3, none⟩) (by first | assumption | (simp; done) | (simp; omega))).trans (by first | assumption | (simp [go_sem]; done) | (simp [go_sem, *]; done))
          have hl1_0 : w.heap.size < w1.heap.size := by have hs := hb1.size; first | (simp at hs; omega) | omega
          have hw1 : Below w.heap.size w w1 := Below.trans (by repeat' (first | (with_reducible assumption) | (with_reducible exact Below.refl _ _) | (with_reducible refine below_drewN ?_ _) | (with_reducible refine Below.drew ?_) | (with_reducible refine Below.setCell ?_ ?_ _) | (with_reducible refine Below.alloc ?_ ?_ _) | omega | (simp; done) | (simp; omega))) (hb1.mono (by first | assumption | (simp; done) | (simp; omega)))
          have hz1 := hw1.size
          clear hb1
          go_wp2_with fail
          with_reducible refine (F.out _).mono ?_
          rintro e w2 ⟨rfl, hb2⟩
          have c2_0 : w2.cell? ⟨w.heap.size, 0, none⟩ = some (.int .i64 a) := (hb2.cell (p := ⟨w.heap.size, 0, none⟩) (by first | assumption | (simp; done) | (simp; omega))).trans (by first | assumption | (simp [go_sem]; done) | (simp [go_sem, *]; done))
          have c2_1 : w2.cell? ⟨w.heap.size, 1, none⟩ = some (.int .i64 b) := (hb2.cell (p := ⟨w.heap.size, 1, none⟩) (by first | assumption | (simp; done) | (simp; omega))).trans (by first | assumption | (simp [go_sem]; done) | (simp [go_sem, *]; done))
          have c2_2 : w2.cell? ⟨w.heap.size, 2, none⟩ = some (.int .i64 c) := (hb2.cell (p := ⟨w.heap.size, 2, none⟩) (by first | assumption | (simp; done) | (simp; omega))).trans (by first | assumption | (simp [go_sem]; done) | (simp [go_sem, *]; done))
          have c2_3 : w2.cell? ⟨w.heap.size, 3, none⟩ = some (.int .i64 d) := (hb2.cell (p := ⟨w.heap.size, 3, none⟩) (by first | assumption | (simp; done) | (simp; omega))).trans (by first | assumption | (simp [go_sem]; done) | (simp [go_sem, *]; done))
          have hl2_0 : w.heap.size < w2.heap.size := by have hs := hb2.size; first | (simp at hs; omega) | omega
          have hw2 : Below w.heap.size w w2 := Below.trans (by repeat' (first | (with_reducible assumption) | (with_reducible exact Below.refl _ _) | (with_reducible refine below_drewN ?_ _) | (with_reducible refine Below.drew ?_) | (with_reducible refine Below.setCell ?_ ?_ _) | (with_reducible refine Below.alloc ?_ ?_ _) | omega | (simp; done) | (simp; omega))) (hb2.mono (by first | assumption | (simp; done) | (simp; omega)))
          have hz2 := hw2.size
          clear hb2
          go_wp2_with fail
          first | (go_region_held3 (fun W => W.cell? ⟨w.heap.size, 0, none⟩ = some (.int .i64 a) ∧ W.cell? ⟨w.heap.size, 1, none⟩ = some (.int .i64 b) ∧ W.cell? ⟨w.heap.size, 2, none⟩ = some (.int .i64 c) ∧ W.cell? ⟨w.heap.size, 3, none⟩ = some (.int .i64 d) ∧ w.heap.size < W.heap.size ∧ Below w.heap.size w W) (((try dsimp only); (repeat' apply And.intro) <;> (first | assumption | (simp [*, go_sem]; done) | omega | (simp; omega) | (repeat' (first | (with_reducible assumption) | (with_reducible exact Below.refl _ _) | (with_reducible refine below_drewN ?_ _) | (with_reducible refine Below.drew ?_) | (with_reducible refine Below.setCell ?_ ?_ _) | (with_reducible refine Below.alloc ?_ ?_ _) | omega | (simp; done) | (simp; omega)))))) (first | (go_at_call 17; (with_reducible refine (O1.out _).mono ?_); rintro e wq ⟨rfl, rfl⟩) | (go_at_call 17; (with_reducible refine (O2.out _).mono ?_); rintro e wq ⟨rfl, rfl⟩) | (go_at_call 25; (with_reducible refine (QQ.out _).mono ?_); rintro e w3 ⟨rfl, hb3⟩; obtain ⟨c3_0, c3_1, c3_2, c3_3, hl3, hw3⟩ := keepQ (w := w) hb3 (by first | assumption | (simp [go_sem, *]; done)) (by first | assumption | (simp [go_sem, *]; done)) (by first | assumption | (simp [go_sem, *]; done)) (by first | assumption | (simp [go_sem, *]; done)) (by first | assumption | (simp; done) | (simp; omega)) (by first | assumption | (repeat' (first | (with_reducible assumption) | (with_reducible exact Below.refl _ _) | (with_reducible refine below_drewN ?_ _) | (with_reducible refine Below.drew ?_) | (with_reducible refine Below.setCell ?_ ?_ _) | (with_reducible refine Below.alloc ?_ ?_ _) | omega | (simp; done) | (simp; omega))))))) | fail
          all_goals
            go_wp2_with fail
            have hz3 := hw3.size
            go_quiet (fail)
            go_wp2_with fail
            clear z1 z2 z3 z4 z5 z6
            with_reducible refine (PP.out _).mono ?_
            rintro e w4 ⟨rfl, hb4⟩
            have hw4 : Below w.heap.size w w4 := Below.trans (by repeat' (first | (with_reducible assumption) | (with_reducible exact Below.refl _ _) | (with_reducible refine below_drewN ?_ _) | (with_reducible refine Below.drew ?_) | (with_reducible refine Below.setCell ?_ ?_ _) | (with_reducible refine Below.alloc ?_ ?_ _) | omega | (simp; done) | (simp; omega))) (hb4.mono (by first | assumption | (simp; done) | (simp; omega)))
            have hz4 := hw4.size
            clear hb4
            go_wp2_with fail
            go_ret
            exact ⟨by simp, by repeat' (first | (with_reducible assumption) | (with_reducible exact Below.refl _ _) | (with_reducible refine below_drewN ?_ _) | (with_reducible refine Below.drew ?_) | (with_reducible refine Below.setCell ?_ ?_ _) | (with_reducible refine Below.alloc ?_ ?_ _) | omega | (simp; done) | (simp; omega))⟩
      · have QQ := fun w => quo_yes R1 R2 R3 R4 p0 p1 q0 q1 r0 r1 s0 s1 hcd hok w
        replace QQ := Lib.hid QQ
        have PP := Lib.hid (fun w => parts_yes (Fl.rep_ofInt ((a * c + b * d).tdiv (c * c + d * d)) (by omega)) (Fl.rep_ofInt ((b * c - a * d).tdiv (c * c + d * d)) (by omega)) (by omega) (by omega) (by omega) (by omega) w)
        clear h R1 R2 R3 R4 hcd
        unfold qOk at hok
        rw [Bool.and_eq_true] at hok
        obtain ⟨f1, f2⟩ := hok
        go_enter Try.func8, Try.ntmps8
        go_wp2_with fail
        with_reducible refine (awake7 _).mono ?_
        rintro e w1 ⟨rfl, hb1⟩
        have c1_0 : w1.cell? ⟨w.heap.size, 0, none⟩ = some (.int .i64 a) := (hb1.cell (p := ⟨w.heap.size, 0, none⟩) (by first | assumption | (simp; done) | (simp; omega))).trans (by first | assumption | (simp [go_sem]; done) | (simp [go_sem, *]; done))
        have c1_1 : w1.cell? ⟨w.heap.size, 1, none⟩ = some (.int .i64 b) := (hb1.cell (p := ⟨w.heap.size, 1, none⟩) (by first | assumption | (simp; done) | (simp; omega))).trans (by first | assumption | (simp [go_sem]; done) | (simp [go_sem, *]; done))
        have c1_2 : w1.cell? ⟨w.heap.size, 2, none⟩ = some (.int .i64 c) := (hb1.cell (p := ⟨w.heap.size, 2, none⟩) (by first | assumption | (simp; done) | (simp; omega))).trans (by first | assumption | (simp [go_sem]; done) | (simp [go_sem, *]; done))
        have c1_3 : w1.cell? ⟨w.heap.size, 3, none⟩ = some (.int .i64 d) := (hb1.cell (p := ⟨w.heap.size, 3, none⟩) (by first | assumption | (simp; done) | (simp; omega))).trans (by first | assumption | (simp [go_sem]; done) | (simp [go_sem, *]; done))
        have hl1_0 : w.heap.size < w1.heap.size := by have hs := hb1.size; first | (simp at hs; omega) | omega
        have hw1 : Below w.heap.size w w1 := Below.trans (by repeat' (first | (with_reducible assumption) | (with_reducible exact Below.refl _ _) | (with_reducible refine below_drewN ?_ _) | (with_reducible refine Below.drew ?_) | (with_reducible refine Below.setCell ?_ ?_ _) | (with_reducible refine Below.alloc ?_ ?_ _) | omega | (simp; done) | (simp; omega))) (hb1.mono (by first | assumption | (simp; done) | (simp; omega)))
        have hz1 := hw1.size
        clear hb1
        go_wp2_with fail
        with_reducible refine (F.out _).mono ?_
        rintro e w2 ⟨rfl, hb2⟩
        have c2_0 : w2.cell? ⟨w.heap.size, 0, none⟩ = some (.int .i64 a) := (hb2.cell (p := ⟨w.heap.size, 0, none⟩) (by first | assumption | (simp; done) | (simp; omega))).trans (by first | assumption | (simp [go_sem]; done) | (simp [go_sem, *]; done))
        have c2_1 : w2.cell? ⟨w.heap.size, 1, none⟩ = some (.int .i64 b) := (hb2.cell (p := ⟨w.heap.size, 1, none⟩) (by first | assumption | (simp; done) | (simp; omega))).trans (by first | assumption | (simp [go_sem]; done) | (simp [go_sem, *]; done))
        have c2_2 : w2.cell? ⟨w.heap.size, 2, none⟩ = some (.int .i64 c) := (hb2.cell (p := ⟨w.heap.size, 2, none⟩) (by first | assumption | (simp; done) | (simp; omega))).trans (by first | assumption | (simp [go_sem]; done) | (simp [go_sem, *]; done))
        have c2_3 : w2.cell? ⟨w.heap.size, 3, none⟩ = some (.int .i64 d) := (hb2.cell (p := ⟨w.heap.size, 3, none⟩) (by first | assumption | (simp; done) | (simp; omega))).trans (by first | assumption | (simp [go_sem]; done) | (simp [go_sem, *]; done))
        have hl2_0 : w.heap.size < w2.heap.size := by have hs := hb2.size; first | (simp at hs; omega) | omega
        have hw2 : Below w.heap.size w w2 := Below.trans (by repeat' (first | (with_reducible assumption) | (with_reducible exact Below.refl _ _) | (with_reducible refine below_drewN ?_ _) | (with_reducible refine Below.drew ?_) | (with_reducible refine Below.setCell ?_ ?_ _) | (with_reducible refine Below.alloc ?_ ?_ _) | omega | (simp; done) | (simp; omega))) (hb2.mono (by first | assumption | (simp; done) | (simp; omega)))
        have hz2 := hw2.size
        clear hb2
        go_wp2_with fail
        first | (go_region_held3 (fun W => W.cell? ⟨w.heap.size, 0, none⟩ = some (.int .i64 a) ∧ W.cell? ⟨w.heap.size, 1, none⟩ = some (.int .i64 b) ∧ W.cell? ⟨w.heap.size, 2, none⟩ = some (.int .i64 c) ∧ W.cell? ⟨w.heap.size, 3, none⟩ = some (.int .i64 d) ∧ w.heap.size < W.heap.size ∧ Below w.heap.size w W) (((try dsimp only); (repeat' apply And.intro) <;> (first | assumption | (simp [*, go_sem]; done) | omega | (simp; omega) | (repeat' (first | (with_reducible assumption) | (with_reducible exact Below.refl _ _) | (with_reducible refine below_drewN ?_ _) | (with_reducible refine Below.drew ?_) | (with_reducible refine Below.setCell ?_ ?_ _) | (with_reducible refine Below.alloc ?_ ?_ _) | omega | (simp; done) | (simp; omega)))))) (first | (go_at_call 17; (with_reducible refine (O1.out _).mono ?_); rintro e wq ⟨rfl, rfl⟩) | (go_at_call 17; (with_reducible refine (O2.out _).mono ?_); rintro e wq ⟨rfl, rfl⟩) | (go_at_call 25; (with_reducible refine (QQ.out _).mono ?_); rintro e w3 ⟨rfl, hb3⟩; obtain ⟨c3_0, c3_1, c3_2, c3_3, hl3, hw3⟩ := keepQ (w := w) hb3 (by first | assumption | (simp [go_sem, *]; done)) (by first | assumption | (simp [go_sem, *]; done)) (by first | assumption | (simp [go_sem, *]; done)) (by first | assumption | (simp [go_sem, *]; done)) (by first | assumption | (simp; done) | (simp; omega)) (by first | assumption | (repeat' (first | (with_reducible assumption) | (with_reducible exact Below.refl _ _) | (with_reducible refine below_drewN ?_ _) | (with_reducible refine Below.drew ?_) | (with_reducible refine Below.setCell ?_ ?_ _) | (with_reducible refine Below.alloc ?_ ?_ _) | omega | (simp; done) | (simp; omega))))))) | fail
        all_goals
          go_wp2_with fail
          have hz3 := hw3.size
          go_quiet (fail)
          go_wp2_with fail
          clear z1 z2 z3 z4 z5 z6
          go_quiet (fail)
          go_wp2_with fail
          with_reducible refine (PP.out _).mono ?_
          rintro e w4 ⟨rfl, hb4⟩
          have hw4 : Below w.heap.size w w4 := Below.trans (by repeat' (first | (with_reducible assumption) | (with_reducible exact Below.refl _ _) | (with_reducible refine below_drewN ?_ _) | (with_reducible refine Below.drew ?_) | (with_reducible refine Below.setCell ?_ ?_ _) | (with_reducible refine Below.alloc ?_ ?_ _) | omega | (simp; done) | (simp; omega))) (hb4.mono (by first | assumption | (simp; done) | (simp; omega)))
          have hz4 := hw4.size
          clear hb4
          go_wp2_with fail
          go_ret
          exact ⟨by simp, by repeat' (first | (with_reducible assumption) | (with_reducible exact Below.refl _ _) | (with_reducible refine below_drewN ?_ _) | (with_reducible refine Below.drew ?_) | (with_reducible refine Below.setCell ?_ ?_ _) | (with_reducible refine Below.alloc ?_ ?_ _) | omega | (simp; done) | (simp; omega))⟩
end Go.Proofs.Ytimgmobpgbekjaa
