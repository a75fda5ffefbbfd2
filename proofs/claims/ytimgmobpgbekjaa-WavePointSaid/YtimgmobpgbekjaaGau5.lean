/- Contracts of package gauss: Norm; the law's own small functions; awake. Conditions: as each says. -/
import Derived.Test.YtimgmobpgbekjaaGau4
namespace Go.Proofs.Ytimgmobpgbekjaa
open Go.RowKit

set_option maxHeartbeats 400000 in
theorem norm_no (x y : Nat) (h : (W25 x && W25 y) = false) (w : World) :
    Calls Try.prog 24 #[.complex .f64 x y] w fun e w' => e = .returned (.int .i64 0) ∧ Below w.heap.size w w' := by
  have T := Lib.hid (fun w => times_no x y x (Op.negFloat .f64 y) (by rw [h]; rfl) w)
  have U := Lib.hid (fun w => turned_any x y w)
  have c1 := fun w => run_f2i Fl.rep0 (by decide) (by decide) w
  generalize Op.negFloat .f64 y = z at *
  clear h
  go_enter Try.func24, Try.ntmps24
  go_wp2_with fail
  with_reducible refine (U.out _).mono ?_
  rintro e w1 ⟨rfl, rfl⟩
  go_wp2_with fail
  with_reducible refine (T.out _).mono ?_
  rintro e w1 ⟨rfl, hb⟩
  go_wp2_with fail
  go_ret
  exact ⟨rfl, hb⟩

set_option maxHeartbeats 400000 in
theorem norm_yes {x y : Nat} {a b : Int} (hx : Fl.Rep x a) (hy : Fl.Rep y b) (a0 : -33554432 ≤ a) (a1 : a ≤ 33554432) (b0 : -33554432 ≤ b) (b1 : b ≤ 33554432) (w : World) :
    Calls Try.prog 24 #[.complex .f64 x y] w fun e w' => e = .returned (.int .i64 (a * a + b * b)) ∧ Below w.heap.size w w' := by
  have s1 := sq25 a0 a1 a0 a1
  have s2 := sq25 b0 b1 b0 b1
  have T := Lib.hid (fun w => times_yes hx hy hx (Fl.neg_rep hy) a0 a1 b0 b1 a0 a1 (by omega) (by omega) w)
  have U := Lib.hid (fun w => turned_any x y w)
  have e1 : a * a - b * -b = a * a + b * b := by rw [Int.mul_neg]; omega
  rw [e1] at T
  have hn0 : -9223372036854775808 ≤ a * a + b * b := by omega
  have hn1 : a * a + b * b ≤ 9223372036854775807 := by omega
  clear s1 s2 e1
  generalize a * a + b * b = n at *
  generalize a * -b + b * a = m at *
  generalize Op.negFloat .f64 y = z at *
  go_enter Try.func24, Try.ntmps24
  go_wp2_with fail
  with_reducible refine (U.out _).mono ?_
  rintro e w1 ⟨rfl, rfl⟩
  go_wp2_with fail
  with_reducible refine (T.out _).mono ?_
  rintro e w1 ⟨re, im, rfl, hre, him, hb⟩
  have c1 := fun w => run_f2i hre hn0 hn1 w
  go_wp2_with fail
  go_ret
  exact ⟨rfl, hb⟩

def wi (v : Int) : Bool := decide (-33554432 ≤ v) && decide (v ≤ 33554432)
theorem wi_t {v : Int} (h0 : -33554432 ≤ v) (h1 : v ≤ 33554432) : wi v = true := by unfold wi; simp [h0, h1]
theorem wi_f {v : Int} (h : ¬ (-33554432 ≤ v ∧ v ≤ 33554432)) : wi v = false := by unfold wi; rw [Bool.and_eq_false_iff, decide_eq_false_iff_not, decide_eq_false_iff_not]; omega
theorem wi_b {v : Int} (h : wi v = true) : -33554432 ≤ v ∧ v ≤ 33554432 := by unfold wi at h; simpa using h

set_option maxHeartbeats 400000 in
theorem within_any (v : Int) (w : World) :
    Calls Try.prog 18 #[.int .i64 v] w fun e w' => e = .returned (.bool (wi v)) ∧ w = w' := by
  by_cases h0 : -33554432 ≤ v
  · by_cases h1 : v ≤ 33554432
    · rw [wi_t h0 h1]
      go_enter Try.func18, Try.ntmps18
      go_wp2_with fail
      go_ret
      exact ⟨rfl, rfl⟩
    · rw [wi_f (by omega)]
      have d0 : decide (v ≤ 33554432) = false := by simpa using h1
      go_enter Try.func18, Try.ntmps18
      go_wp2_with fail
      go_ret
      exact ⟨rfl, rfl⟩
  · rw [wi_f (by omega)]
    have d0 : decide (-33554432 ≤ v) = false := by simpa using h0
    go_enter Try.func18, Try.ntmps18
    go_wp2_with fail
    go_ret
    exact ⟨rfl, rfl⟩

def ti (v : Int) : Int := v
set_option maxHeartbeats 800000 in
theorem awake7 (w : World) : Calls Try.prog 15 #[] w fun e w' => e = .returned (.bool true) ∧ Below w.heap.size w w' := by
  have r1 := Fl.rep_ofInt 1 (by decide)
  have r2 := Fl.rep_ofInt 2 (by decide)
  have r3 := Fl.rep_ofInt 3 (by decide)
  have r4 := Fl.rep_ofInt (-1) (by decide)
  have r5 := Fl.rep_ofInt 0 (by decide)
  have O1 := Lib.hid (fun w => of_yes 1 2 (by decide) (by decide) (by decide) (by decide) w)
  have O2 := Lib.hid (fun w => of_yes 3 (-1) (by decide) (by decide) (by decide) (by decide) w)
  have O3 := Lib.hid (fun w => of_yes 1 0 (by decide) (by decide) (by decide) (by decide) w)
  have T1 := Lib.hid (fun w => times_yes r1 r2 r3 r4 (by decide) (by decide) (by decide) (by decide) (by decide) (by decide) (by decide) (by decide) w)
  have T2 := Lib.hid (fun w => turn_yes r1 r5 (by decide) (by decide) (by decide) (by decide) (-1) w)
  have e1 : (1 * 3 - 2 * -1 : Int) = 5 := by decide
  have e2 : (1 * -1 + 2 * 3 : Int) = 5 := by decide
  have e3 : qre (-1) 1 0 = 0 := by decide
  have e4 : qim (-1) 1 0 = -1 := by decide
  rw [e1, e2] at T1
  rw [e3, e4] at T2
  clear e1 e2 e3 e4 r1 r2 r3 r4 r5
  generalize floatOfInt .f64 1 = x1 at *
  generalize floatOfInt .f64 2 = x2 at *
  generalize floatOfInt .f64 3 = x3 at *
  generalize floatOfInt .f64 (-1) = x4 at *
  generalize floatOfInt .f64 0 = x5 at *
  go_enter Try.func15, Try.ntmps15
  go_wp2_with fail
  with_reducible refine (O1.out _).mono ?_
  rintro e w1 ⟨rfl, rfl⟩
  go_wp2_with fail
  with_reducible refine (O2.out _).mono ?_
  rintro e w1 ⟨rfl, rfl⟩
  go_wp2_with fail
  with_reducible refine (T1.out _).mono ?_
  rintro e w1 ⟨re, im, rfl, hre, him, hb1⟩
  have P1 := Lib.hid (fun w => parts_yes hre him (by decide) (by decide) (by decide) (by decide) w)
  have hz1 := hb1.size
  go_wp2_with fail
  with_reducible refine (P1.out _).mono ?_
  rintro e w2 ⟨rfl, hb2⟩
  have hw2 := hb1.trans (hb2.mono hz1)
  have hz2 := hw2.size
  clear hb2
  go_wp2_with fail
  with_reducible refine (O3.out _).mono ?_
  rintro e w2' ⟨rfl, rfl⟩
  go_wp2_with fail
  with_reducible refine (T2.out _).mono ?_
  rintro e w3 ⟨re3, im3, rfl, hre3, him3, hb3⟩
  have P2 := Lib.hid (fun w => parts_yes hre3 him3 (by decide) (by decide) (by decide) (by decide) w)
  have hw3 := hw2.trans (hb3.mono hz2)
  have hz3 := hw3.size
  clear hb3
  go_wp2_with fail
  with_reducible refine (P2.out _).mono ?_
  rintro e w4 ⟨rfl, hb4⟩
  have hw4 := hw3.trans (hb4.mono hz3)
  clear hb4
  go_wp2_with fail
  go_ret
  exact ⟨rfl, by repeat' (first | (with_reducible assumption) | (with_reducible exact Below.refl _ _) | (with_reducible refine below_drewN ?_ _) | (with_reducible refine Below.drew ?_) | (with_reducible refine Below.setCell ?_ ?_ _) | (with_reducible refine Below.alloc ?_ ?_ _) | omega | (simp; done) | (simp; omega))⟩
end Go.Proofs.Ytimgmobpgbekjaa
