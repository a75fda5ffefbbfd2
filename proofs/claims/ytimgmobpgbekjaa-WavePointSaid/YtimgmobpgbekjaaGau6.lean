/- The walks of GaussParts, GaussTurns. No condition. -/
import Derived.Test.YtimgmobpgbekjaaGau5
namespace Go.Proofs.Ytimgmobpgbekjaa
open Go.RowKit

theorem quiet_same {P : Program} {f : FuncId} {args : Array Value} {w : World} {n : Nat} {v : Value}
    (h : Calls P f args (w.drewN n) fun e w' => e = .returned v ∧ w.drewN n = w') : Calls P f args (w.drewN n) fun e w'' => e = .returned v ∧ ∃ m, w'' = w.drewN m :=
  h.mono fun _ _ ⟨he, hm⟩ => ⟨he, n, hm.symm⟩

set_option maxHeartbeats 400000 in
theorem gaussParts_walk (a b : Int) (a0 : -9223372036854775808 ≤ a) (a1 : a ≤ 9223372036854775807) (b0 : -9223372036854775808 ≤ b) (b1 : b ≤ 9223372036854775807) (w : World) :
    Calls Try.prog 3 #[.int .i64 a, .int .i64 b] w fun e w' => e = .returned (.bool true) ∧ Below w.heap.size w w' := by
  have WA := fun w => within_any a w
  have WB := fun w => within_any b w
  cases h1 : wi a
  · have hn : ¬ (-33554432 ≤ a ∧ a ≤ 33554432 ∧ -33554432 ≤ b ∧ b ≤ 33554432) := by
      rintro ⟨x0, x1, _, _⟩; rw [wi_t x0 x1] at h1; cases h1
    have O := Lib.hid (fun w => of_no a b hn w)
    have P := Lib.hid (fun w => parts_yes Fl.rep0 Fl.rep0 (by decide) (by decide) (by decide) (by decide) w)
    rw [h1] at WA
    have WA := Lib.hid WA
    clear WB h1 hn
    go_enter Try.func3, Try.ntmps3
    go_wp2_with fail
    with_reducible refine (awake7 _).mono ?_
    rintro e w1 ⟨rfl, hb1⟩
    have hw1 : Below w.heap.size w w1 := Below.trans (by repeat' (first | (with_reducible assumption) | (with_reducible exact Below.refl _ _) | (with_reducible refine below_drewN ?_ _) | (with_reducible refine Below.drew ?_) | (with_reducible refine Below.setCell ?_ ?_ _) | (with_reducible refine Below.alloc ?_ ?_ _) | omega | (simp; done) | (simp; omega))) (hb1.mono (by first | assumption | (simp; done) | (simp; omega)))
    have hz1 := hw1.size
    clear hb1
    go_wp2_with fail
    with_reducible refine (O.out _).mono ?_
    rintro e w' ⟨rfl, rfl⟩
    go_wp2_with fail
    with_reducible refine (P.out _).mono ?_
    rintro e w2 ⟨rfl, hb2⟩
    have hw2 : Below w.heap.size w w2 := Below.trans (by repeat' (first | (with_reducible assumption) | (with_reducible exact Below.refl _ _) | (with_reducible refine below_drewN ?_ _) | (with_reducible refine Below.drew ?_) | (with_reducible refine Below.setCell ?_ ?_ _) | (with_reducible refine Below.alloc ?_ ?_ _) | omega | (simp; done) | (simp; omega))) (hb2.mono (by first | assumption | (simp; done) | (simp; omega)))
    have hz2 := hw2.size
    clear hb2
    go_wp2_with fail
    with_reducible refine (WA.out _).mono ?_
    rintro e w' ⟨rfl, rfl⟩
    go_wp2_with fail
    go_ret
    exact ⟨by simp, by repeat' (first | (with_reducible assumption) | (with_reducible exact Below.refl _ _) | (with_reducible refine below_drewN ?_ _) | (with_reducible refine Below.drew ?_) | (with_reducible refine Below.setCell ?_ ?_ _) | (with_reducible refine Below.alloc ?_ ?_ _) | omega | (simp; done) | (simp; omega))⟩
  · rw [h1] at WA
    have WA := Lib.hid WA
    obtain ⟨p0, p1⟩ := wi_b h1
    cases h2 : wi b
    · have hn : ¬ (-33554432 ≤ a ∧ a ≤ 33554432 ∧ -33554432 ≤ b ∧ b ≤ 33554432) := by
        rintro ⟨_, _, x0, x1⟩; rw [wi_t x0 x1] at h2; cases h2
      have O := Lib.hid (fun w => of_no a b hn w)
      have P := Lib.hid (fun w => parts_yes Fl.rep0 Fl.rep0 (by decide) (by decide) (by decide) (by decide) w)
      rw [h2] at WB
      have WB := Lib.hid WB
      clear h2 hn h1
      go_enter Try.func3, Try.ntmps3
      go_wp2_with fail
      with_reducible refine (awake7 _).mono ?_
      rintro e w1 ⟨rfl, hb1⟩
      have hw1 : Below w.heap.size w w1 := Below.trans (by repeat' (first | (with_reducible assumption) | (with_reducible exact Below.refl _ _) | (with_reducible refine below_drewN ?_ _) | (with_reducible refine Below.drew ?_) | (with_reducible refine Below.setCell ?_ ?_ _) | (with_reducible refine Below.alloc ?_ ?_ _) | omega | (simp; done) | (simp; omega))) (hb1.mono (by first | assumption | (simp; done) | (simp; omega)))
      have hz1 := hw1.size
      clear hb1
      go_wp2_with fail
      with_reducible refine (O.out _).mono ?_
      rintro e w' ⟨rfl, rfl⟩
      go_wp2_with fail
      with_reducible refine (P.out _).mono ?_
      rintro e w2 ⟨rfl, hb2⟩
      have hw2 : Below w.heap.size w w2 := Below.trans (by repeat' (first | (with_reducible assumption) | (with_reducible exact Below.refl _ _) | (with_reducible refine below_drewN ?_ _) | (with_reducible refine Below.drew ?_) | (with_reducible refine Below.setCell ?_ ?_ _) | (with_reducible refine Below.alloc ?_ ?_ _) | omega | (simp; done) | (simp; omega))) (hb2.mono (by first | assumption | (simp; done) | (simp; omega)))
      have hz2 := hw2.size
      clear hb2
      go_wp2_with fail
      with_reducible refine (WA.out _).mono ?_
      rintro e w' ⟨rfl, rfl⟩
      go_wp2_with fail
      with_reducible refine (WB.out _).mono ?_
      rintro e w' ⟨rfl, rfl⟩
      go_wp2_with fail
      go_ret
      exact ⟨by simp, by repeat' (first | (with_reducible assumption) | (with_reducible exact Below.refl _ _) | (with_reducible refine below_drewN ?_ _) | (with_reducible refine Below.drew ?_) | (with_reducible refine Below.setCell ?_ ?_ _) | (with_reducible refine Below.alloc ?_ ?_ _) | omega | (simp; done) | (simp; omega))⟩
    · rw [h2] at WB
      have WB := Lib.hid WB
      obtain ⟨q0, q1⟩ := wi_b h2
      have O := Lib.hid (fun w => of_yes a b p0 p1 q0 q1 w)
      have P := Lib.hid (fun w => parts_yes (Fl.rep_ofInt a (by omega)) (Fl.rep_ofInt b (by omega)) (by omega) (by omega) (by omega) (by omega) w)
      generalize floatOfInt .f64 a = x at *
      generalize floatOfInt .f64 b = y at *
      clear h1 h2
      go_enter Try.func3, Try.ntmps3
      go_wp2_with fail
      with_reducible refine (awake7 _).mono ?_
      rintro e w1 ⟨rfl, hb1⟩
      have hw1 : Below w.heap.size w w1 := Below.trans (by repeat' (first | (with_reducible assumption) | (with_reducible exact Below.refl _ _) | (with_reducible refine below_drewN ?_ _) | (with_reducible refine Below.drew ?_) | (with_reducible refine Below.setCell ?_ ?_ _) | (with_reducible refine Below.alloc ?_ ?_ _) | omega | (simp; done) | (simp; omega))) (hb1.mono (by first | assumption | (simp; done) | (simp; omega)))
      have hz1 := hw1.size
      clear hb1
      go_wp2_with fail
      with_reducible refine (O.out _).mono ?_
      rintro e w' ⟨rfl, rfl⟩
      go_wp2_with fail
      with_reducible refine (P.out _).mono ?_
      rintro e w2 ⟨rfl, hb2⟩
      have hw2 : Below w.heap.size w w2 := Below.trans (by repeat' (first | (with_reducible assumption) | (with_reducible exact Below.refl _ _) | (with_reducible refine below_drewN ?_ _) | (with_reducible refine Below.drew ?_) | (with_reducible refine Below.setCell ?_ ?_ _) | (with_reducible refine Below.alloc ?_ ?_ _) | omega | (simp; done) | (simp; omega))) (hb2.mono (by first | assumption | (simp; done) | (simp; omega)))
      have hz2 := hw2.size
      clear hb2
      go_wp2_with fail
      with_reducible refine (WA.out _).mono ?_
      rintro e w' ⟨rfl, rfl⟩
      go_wp2_with fail
      with_reducible refine (WB.out _).mono ?_
      rintro e w' ⟨rfl, rfl⟩
      go_wp2_with fail
      go_ret
      exact ⟨by simp, by repeat' (first | (with_reducible assumption) | (with_reducible exact Below.refl _ _) | (with_reducible refine below_drewN ?_ _) | (with_reducible refine Below.drew ?_) | (with_reducible refine Below.setCell ?_ ?_ _) | (with_reducible refine Below.alloc ?_ ?_ _) | omega | (simp; done) | (simp; omega))⟩

set_option maxHeartbeats 1600000 in
theorem gaussTurns_in (a b k : Int) (p0 : -33554432 ≤ a) (p1 : a ≤ 33554432) (q0 : -33554432 ≤ b) (q1 : b ≤ 33554432) (w : World) :
    Calls Try.prog 5 #[.int .i64 a, .int .i64 b, .int .i64 k] w fun e w' => e = .returned (.bool true) ∧ Below w.heap.size w w' := by
  have WA := fun w => within_any a w
  have WB := fun w => within_any b w
  rw [wi_t p0 p1] at WA
  rw [wi_t q0 q1] at WB
  have WA := Lib.hid WA
  have WB := Lib.hid WB
  have O := Lib.hid (fun w => of_yes a b p0 p1 q0 q1 w)
  have T := fun w => turn_yes (Fl.rep_ofInt a (by omega)) (Fl.rep_ofInt b (by omega)) (by omega) (by omega) (by omega) (by omega) k w
  generalize floatOfInt .f64 a = x at *
  generalize floatOfInt .f64 b = y at *
  have m3 := and3 k
  rcases (show k % 4 = 0 ∨ k % 4 = 1 ∨ k % 4 = 2 ∨ k % 4 = 3 from by omega) with hk | hk | hk | hk
  · have e1 : qre k a b = a := by unfold qre; rw [hk]; simp
    have e2 : qim k a b = b := by unfold qim; rw [hk]; simp
    rw [e1, e2] at T
    have TH := Lib.hid T
    rw [hk] at m3
    clear T e1 e2 hk
    go_enter Try.func5, Try.ntmps5
    go_wp2_with fail
    with_reducible refine (awake7 _).mono ?_
    rintro e w1 ⟨rfl, hb1⟩
    have hw1 : Below w.heap.size w w1 := Below.trans (by repeat' (first | (with_reducible assumption) | (with_reducible exact Below.refl _ _) | (with_reducible refine below_drewN ?_ _) | (with_reducible refine Below.drew ?_) | (with_reducible refine Below.setCell ?_ ?_ _) | (with_reducible refine Below.alloc ?_ ?_ _) | omega | (simp; done) | (simp; omega))) (hb1.mono (by first | assumption | (simp; done) | (simp; omega)))
    have hz1 := hw1.size
    clear hb1
    go_wp2_with fail
    with_reducible refine (WA.out _).mono ?_
    rintro e w' ⟨rfl, rfl⟩
    go_wp2_with fail
    with_reducible refine (WB.out _).mono ?_
    rintro e w' ⟨rfl, rfl⟩
    go_wp2_with fail
    with_reducible refine (O.out _).mono ?_
    rintro e w' ⟨rfl, rfl⟩
    go_wp2_with fail
    with_reducible refine (TH.out _).mono ?_
    rintro e w2 ⟨re, im, rfl, hre, him, hb2⟩
    have P := Lib.hid (fun w => parts_yes hre him (by omega) (by omega) (by omega) (by omega) w)
    have hw2 := hw1.trans (hb2.mono hz1)
    have hz2 := hw2.size
    clear hb2
    go_wp2_with fail
    with_reducible refine (P.out _).mono ?_
    rintro e w3 ⟨rfl, hb3⟩
    have hw3 : Below w.heap.size w w3 := Below.trans (by repeat' (first | (with_reducible assumption) | (with_reducible exact Below.refl _ _) | (with_reducible refine below_drewN ?_ _) | (with_reducible refine Below.drew ?_) | (with_reducible refine Below.setCell ?_ ?_ _) | (with_reducible refine Below.alloc ?_ ?_ _) | omega | (simp; done) | (simp; omega))) (hb3.mono (by first | assumption | (simp; done) | (simp; omega)))
    have hz3 := hw3.size
    clear hb3
    go_wp2_with fail
    go_ret
    exact ⟨by simp, by repeat' (first | (with_reducible assumption) | (with_reducible exact Below.refl _ _) | (with_reducible refine below_drewN ?_ _) | (with_reducible refine Below.drew ?_) | (with_reducible refine Below.setCell ?_ ?_ _) | (with_reducible refine Below.alloc ?_ ?_ _) | omega | (simp; done) | (simp; omega))⟩
  · have e1 : qre k a b = -b := by unfold qre; rw [hk]; simp
    have e2 : qim k a b = a := by unfold qim; rw [hk]; simp
    rw [e1, e2] at T
    have TH := Lib.hid T
    rw [hk] at m3
    clear T e1 e2 hk
    go_enter Try.func5, Try.ntmps5
    go_wp2_with fail
    with_reducible refine (awake7 _).mono ?_
    rintro e w1 ⟨rfl, hb1⟩
    have hw1 : Below w.heap.size w w1 := Below.trans (by repeat' (first | (with_reducible assumption) | (with_reducible exact Below.refl _ _) | (with_reducible refine below_drewN ?_ _) | (with_reducible refine Below.drew ?_) | (with_reducible refine Below.setCell ?_ ?_ _) | (with_reducible refine Below.alloc ?_ ?_ _) | omega | (simp; done) | (simp; omega))) (hb1.mono (by first | assumption | (simp; done) | (simp; omega)))
    have hz1 := hw1.size
    clear hb1
    go_wp2_with fail
    with_reducible refine (WA.out _).mono ?_
    rintro e w' ⟨rfl, rfl⟩
    go_wp2_with fail
    with_reducible refine (WB.out _).mono ?_
    rintro e w' ⟨rfl, rfl⟩
    go_wp2_with fail
    with_reducible refine (O.out _).mono ?_
    rintro e w' ⟨rfl, rfl⟩
    go_wp2_with fail
    with_reducible refine (TH.out _).mono ?_
    rintro e w2 ⟨re, im, rfl, hre, him, hb2⟩
    have P := Lib.hid (fun w => parts_yes hre him (by omega) (by omega) (by omega) (by omega) w)
    have hw2 := hw1.trans (hb2.mono hz1)
    have hz2 := hw2.size
    clear hb2
    go_wp2_with fail
    with_reducible refine (P.out _).mono ?_
    rintro e w3 ⟨rfl, hb3⟩
    have hw3 : Below w.heap.size w w3 := Below.trans (by repeat' (first | (with_reducible assumption) | (with_reducible exact Below.refl _ _) | (with_reducible refine below_drewN ?_ _) | (with_reducible refine Below.drew ?_) | (with_reducible refine Below.setCell ?_ ?_ _) | (with_reducible refine Below.alloc ?_ ?_ _) | omega | (simp; done) | (simp; omega))) (hb3.mono (by first | assumption | (simp; done) | (simp; omega)))
    have hz3 := hw3.size
    clear hb3
    go_wp2_with fail
    go_ret
    exact ⟨by simp, by repeat' (first | (with_reducible assumption) | (with_reducible exact Below.refl _ _) | (with_reducible refine below_drewN ?_ _) | (with_reducible refine Below.drew ?_) | (with_reducible refine Below.setCell ?_ ?_ _) | (with_reducible refine Below.alloc ?_ ?_ _) | omega | (simp; done) | (simp; omega))⟩
  · have e1 : qre k a b = -a := by unfold qre; rw [hk]; simp
    have e2 : qim k a b = -b := by unfold qim; rw [hk]; simp
    rw [e1, e2] at T
    have TH := Lib.hid T
    rw [hk] at m3
    clear T e1 e2 hk
    go_enter Try.func5, Try.ntmps5
    go_wp2_with fail
    with_reducible refine (awake7 _).mono ?_
    rintro e w1 ⟨rfl, hb1⟩
    have hw1 : Below w.heap.size w w1 := Below.trans (by repeat' (first | (with_reducible assumption) | (with_reducible exact Below.refl _ _) | (with_reducible refine below_drewN ?_ _) | (with_reducible refine Below.drew ?_) | (with_reducible refine Below.setCell ?_ ?_ _) | (with_reducible refine Below.alloc ?_ ?_ _) | omega | (simp; done) | (simp; omega))) (hb1.mono (by first | assumption | (simp; done) | (simp; omega)))
    have hz1 := hw1.size
    clear hb1
    go_wp2_with fail
    with_reducible refine (WA.out _).mono ?_
    rintro e w' ⟨rfl, rfl⟩
    go_wp2_with fail
    with_reducible refine (WB.out _).mono ?_
    rintro e w' ⟨rfl, rfl⟩
    go_wp2_with fail
    with_reducible refine (O.out _).mono ?_
    rintro e w' ⟨rfl, rfl⟩
    go_wp2_with fail
    with_reducible refine (TH.out _).mono ?_
    rintro e w2 ⟨re, im, rfl, hre, him, hb2⟩
    have P := Lib.hid (fun w => parts_yes hre him (by omega) (by omega) (by omega) (by omega) w)
    have hw2 := hw1.trans (hb2.mono hz1)
    have hz2 := hw2.size
    clear hb2
    go_wp2_with fail
    with_reducible refine (P.out _).mono ?_
    rintro e w3 ⟨rfl, hb3⟩
    have hw3 : Below w.heap.size w w3 := Below.trans (by repeat' (first | (with_reducible assumption) | (with_reducible exact Below.refl _ _) | (with_reducible refine below_drewN ?_ _) | (with_reducible refine Below.drew ?_) | (with_reducible refine Below.setCell ?_ ?_ _) | (with_reducible refine Below.alloc ?_ ?_ _) | omega | (simp; done) | (simp; omega))) (hb3.mono (by first | assumption | (simp; done) | (simp; omega)))
    have hz3 := hw3.size
    clear hb3
    go_wp2_with fail
    go_ret
    exact ⟨by simp, by repeat' (first | (with_reducible assumption) | (with_reducible exact Below.refl _ _) | (with_reducible refine below_drewN ?_ _) | (with_reducible refine Below.drew ?_) | (with_reducible refine Below.setCell ?_ ?_ _) | (with_reducible refine Below.alloc ?_ ?_ _) | omega | (simp; done) | (simp; omega))⟩
  · have e1 : qre k a b = b := by unfold qre; rw [hk]; simp
    have e2 : qim k a b = -a := by unfold qim; rw [hk]; simp
    rw [e1, e2] at T
    have TH := Lib.hid T
    rw [hk] at m3
    clear T e1 e2 hk
    go_enter Try.func5, Try.ntmps5
    go_wp2_with fail
    with_reducible refine (awake7 _).mono ?_
    rintro e w1 ⟨rfl, hb1⟩
    have hw1 : Below w.heap.size w w1 := Below.trans (by repeat' (first | (with_reducible assumption) | (with_reducible exact Below.refl _ _) | (with_reducible refine below_drewN ?_ _) | (with_reducible refine Below.drew ?_) | (with_reducible refine Below.setCell ?_ ?_ _) | (with_reducible refine Below.alloc ?_ ?_ _) | omega | (simp; done) | (simp; omega))) (hb1.mono (by first | assumption | (simp; done) | (simp; omega)))
    have hz1 := hw1.size
    clear hb1
    go_wp2_with fail
    with_reducible refine (WA.out _).mono ?_
    rintro e w' ⟨rfl, rfl⟩
    go_wp2_with fail
    with_reducible refine (WB.out _).mono ?_
    rintro e w' ⟨rfl, rfl⟩
    go_wp2_with fail
    with_reducible refine (O.out _).mono ?_
    rintro e w' ⟨rfl, rfl⟩
    go_wp2_with fail
    with_reducible refine (TH.out _).mono ?_
    rintro e w2 ⟨re, im, rfl, hre, him, hb2⟩
    have P := Lib.hid (fun w => parts_yes hre him (by omega) (by omega) (by omega) (by omega) w)
    have hw2 := hw1.trans (hb2.mono hz1)
    have hz2 := hw2.size
    clear hb2
    go_wp2_with fail
    with_reducible refine (P.out _).mono ?_
    rintro e w3 ⟨rfl, hb3⟩
    have hw3 : Below w.heap.size w w3 := Below.trans (by repeat' (first | (with_reducible assumption) | (with_reducible exact Below.refl _ _) | (with_reducible refine below_drewN ?_ _) | (with_reducible refine Below.drew ?_) | (with_reducible refine Below.setCell ?_ ?_ _) | (with_reducible refine Below.alloc ?_ ?_ _) | omega | (simp; done) | (simp; omega))) (hb3.mono (by first | assumption | (simp; done) | (simp; omega)))
    have hz3 := hw3.size
    clear hb3
    go_wp2_with fail
    go_ret
    exact ⟨by simp, by repeat' (first | (with_reducible assumption) | (with_reducible exact Below.refl _ _) | (with_reducible refine below_drewN ?_ _) | (with_reducible refine Below.drew ?_) | (with_reducible refine Below.setCell ?_ ?_ _) | (with_reducible refine Below.alloc ?_ ?_ _) | omega | (simp; done) | (simp; omega))⟩

set_option maxHeartbeats 800000 in
theorem gaussTurns_walk (a b k : Int) (a0 : -9223372036854775808 ≤ a) (a1 : a ≤ 9223372036854775807) (b0 : -9223372036854775808 ≤ b) (b1 : b ≤ 9223372036854775807) (_ : -9223372036854775808 ≤ k) (_ : k ≤ 9223372036854775807) (w : World) :
    Calls Try.prog 5 #[.int .i64 a, .int .i64 b, .int .i64 k] w fun e w' => e = .returned (.bool true) ∧ Below w.heap.size w w' := by
  have WA := fun w => within_any a w
  have WB := fun w => within_any b w
  cases h1 : wi a
  · rw [h1] at WA
    have WA := Lib.hid WA
    clear WB h1
    go_enter Try.func5, Try.ntmps5
    go_wp2_with fail
    with_reducible refine (awake7 _).mono ?_
    rintro e w1 ⟨rfl, hb1⟩
    have hw1 : Below w.heap.size w w1 := Below.trans (by repeat' (first | (with_reducible assumption) | (with_reducible exact Below.refl _ _) | (with_reducible refine below_drewN ?_ _) | (with_reducible refine Below.drew ?_) | (with_reducible refine Below.setCell ?_ ?_ _) | (with_reducible refine Below.alloc ?_ ?_ _) | omega | (simp; done) | (simp; omega))) (hb1.mono (by first | assumption | (simp; done) | (simp; omega)))
    have hz1 := hw1.size
    clear hb1
    go_wp2_with fail
    with_reducible refine (WA.out _).mono ?_
    rintro e w' ⟨rfl, rfl⟩
    go_wp2_with fail
    go_ret
    exact ⟨by simp, by repeat' (first | (with_reducible assumption) | (with_reducible exact Below.refl _ _) | (with_reducible refine below_drewN ?_ _) | (with_reducible refine Below.drew ?_) | (with_reducible refine Below.setCell ?_ ?_ _) | (with_reducible refine Below.alloc ?_ ?_ _) | omega | (simp; done) | (simp; omega))⟩
  · cases h2 : wi b
    · rw [h1] at WA
      rw [h2] at WB
      have WA := Lib.hid WA
      have WB := Lib.hid WB
      clear h1 h2
      go_enter Try.func5, Try.ntmps5
      go_wp2_with fail
      with_reducible refine (awake7 _).mono ?_
      rintro e w1 ⟨rfl, hb1⟩
      have hw1 : Below w.heap.size w w1 := Below.trans (by repeat' (first | (with_reducible assumption) | (with_reducible exact Below.refl _ _) | (with_reducible refine below_drewN ?_ _) | (with_reducible refine Below.drew ?_) | (with_reducible refine Below.setCell ?_ ?_ _) | (with_reducible refine Below.alloc ?_ ?_ _) | omega | (simp; done) | (simp; omega))) (hb1.mono (by first | assumption | (simp; done) | (simp; omega)))
      have hz1 := hw1.size
      clear hb1
      go_wp2_with fail
      with_reducible refine (WA.out _).mono ?_
      rintro e w' ⟨rfl, rfl⟩
      go_wp2_with fail
      with_reducible refine (WB.out _).mono ?_
      rintro e w' ⟨rfl, rfl⟩
      go_wp2_with fail
      go_ret
      exact ⟨by simp, by repeat' (first | (with_reducible assumption) | (with_reducible exact Below.refl _ _) | (with_reducible refine below_drewN ?_ _) | (with_reducible refine Below.drew ?_) | (with_reducible refine Below.setCell ?_ ?_ _) | (with_reducible refine Below.alloc ?_ ?_ _) | omega | (simp; done) | (simp; omega))⟩
    · obtain ⟨p0, p1⟩ := wi_b h1
      obtain ⟨q0, q1⟩ := wi_b h2
      exact gaussTurns_in a b k p0 p1 q0 q1 w

set_option maxHeartbeats 800000 in
theorem fits_any (a b c d : Int) (w : World) :
    Calls Try.prog 22 #[.agg #[.int .i64 a, .int .i64 b, .int .i64 c, .int .i64 d]] w fun e w' => e = .returned (.bool (wi a && (wi b && (wi c && wi d)))) ∧ Below w.heap.size w w' := by
  have W0 := fun w => within_any a w
  have W1 := fun w => within_any b w
  have W2 := fun w => within_any c w
  have W3 := fun w => within_any d w
  cases h0 : wi a
  · rw [h0] at W0
    have W0 := Lib.hid W0
    clear h0
    go_enter Try.func22, Try.ntmps22
    go_wp2_with fail
    with_reducible refine (W0.out _).mono ?_
    rintro e w' ⟨rfl, rfl⟩
    go_wp2_with fail
    go_ret
    exact ⟨rfl, by repeat' (first | (with_reducible assumption) | (with_reducible exact Below.refl _ _) | (with_reducible refine below_drewN ?_ _) | (with_reducible refine Below.drew ?_) | (with_reducible refine Below.setCell ?_ ?_ _) | (with_reducible refine Below.alloc ?_ ?_ _) | omega | (simp; done) | (simp; omega))⟩
  · rw [h0] at W0
    have W0 := Lib.hid W0
    cases h1 : wi b
    · rw [h1] at W1
      have W1 := Lib.hid W1
      clear h0 h1
      go_enter Try.func22, Try.ntmps22
      go_wp2_with fail
      with_reducible refine (W0.out _).mono ?_
      rintro e w' ⟨rfl, rfl⟩
      go_wp2_with fail
      with_reducible refine (W1.out _).mono ?_
      rintro e w' ⟨rfl, rfl⟩
      go_wp2_with fail
      go_ret
      exact ⟨rfl, by repeat' (first | (with_reducible assumption) | (with_reducible exact Below.refl _ _) | (with_reducible refine below_drewN ?_ _) | (with_reducible refine Below.drew ?_) | (with_reducible refine Below.setCell ?_ ?_ _) | (with_reducible refine Below.alloc ?_ ?_ _) | omega | (simp; done) | (simp; omega))⟩
    · rw [h1] at W1
      have W1 := Lib.hid W1
      cases h2 : wi c
      · rw [h2] at W2
        have W2 := Lib.hid W2
        clear h0 h1 h2
        go_enter Try.func22, Try.ntmps22
        go_wp2_with fail
        with_reducible refine (W0.out _).mono ?_
        rintro e w' ⟨rfl, rfl⟩
        go_wp2_with fail
        with_reducible refine (W1.out _).mono ?_
        rintro e w' ⟨rfl, rfl⟩
        go_wp2_with fail
        with_reducible refine (W2.out _).mono ?_
        rintro e w' ⟨rfl, rfl⟩
        go_wp2_with fail
        go_ret
        exact ⟨rfl, by repeat' (first | (with_reducible assumption) | (with_reducible exact Below.refl _ _) | (with_reducible refine below_drewN ?_ _) | (with_reducible refine Below.drew ?_) | (with_reducible refine Below.setCell ?_ ?_ _) | (with_reducible refine Below.alloc ?_ ?_ _) | omega | (simp; done) | (simp; omega))⟩
      · rw [h2] at W2
        have W2 := Lib.hid W2
        cases h3 : wi d
        · rw [h3] at W3
          have W3 := Lib.hid W3
          clear h0 h1 h2 h3
          go_enter Try.func22, Try.ntmps22
          go_wp2_with fail
          with_reducible refine (W0.out _).mono ?_
          rintro e w' ⟨rfl, rfl⟩
          go_wp2_with fail
          with_reducible refine (W1.out _).mono ?_
          rintro e w' ⟨rfl, rfl⟩
          go_wp2_with fail
          with_reducible refine (W2.out _).mono ?_
          rintro e w' ⟨rfl, rfl⟩
          go_wp2_with fail
          with_reducible refine (W3.out _).mono ?_
          rintro e w' ⟨rfl, rfl⟩
          go_wp2_with fail
          go_ret
          exact ⟨rfl, by repeat' (first | (with_reducible assumption) | (with_reducible exact Below.refl _ _) | (with_reducible refine below_drewN ?_ _) | (with_reducible refine Below.drew ?_) | (with_reducible refine Below.setCell ?_ ?_ _) | (with_reducible refine Below.alloc ?_ ?_ _) | omega | (simp; done) | (simp; omega))⟩
        · rw [h3] at W3
          have W3 := Lib.hid W3
          clear h0 h1 h2 h3
          go_enter Try.func22, Try.ntmps22
          go_wp2_with fail
          with_reducible refine (W0.out _).mono ?_
          rintro e w' ⟨rfl, rfl⟩
          go_wp2_with fail
          with_reducible refine (W1.out _).mono ?_
          rintro e w' ⟨rfl, rfl⟩
          go_wp2_with fail
          with_reducible refine (W2.out _).mono ?_
          rintro e w' ⟨rfl, rfl⟩
          go_wp2_with fail
          with_reducible refine (W3.out _).mono ?_
          rintro e w' ⟨rfl, rfl⟩
          go_wp2_with fail
          go_ret
          exact ⟨rfl, by repeat' (first | (with_reducible assumption) | (with_reducible exact Below.refl _ _) | (with_reducible refine below_drewN ?_ _) | (with_reducible refine Below.drew ?_) | (with_reducible refine Below.setCell ?_ ?_ _) | (with_reducible refine Below.alloc ?_ ?_ _) | omega | (simp; done) | (simp; omega))⟩
end Go.Proofs.Ytimgmobpgbekjaa
