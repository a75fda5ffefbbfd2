/- The walk of GaussBits. No condition. -/
import Derived.Test.YtimgmobpgbekjaaGau10
import Derived.Test.YtimgmobpgbekjaaGau6
namespace Go.Proofs.Ytimgmobpgbekjaa
open Go.RowKit

theorem w9_rep {a : Int} (a0 : 0 ≤ a) (a1 : a ≤ 18446744073709551615) {p : Int} (h : whole9 a = some p) : Fl.Rep a.toNat p := by
  have e : ((a.toNat : Nat) : Int) = a := Int.toNat_of_nonneg a0
  rw [← e] at h
  exact whole9_rep (by omega) h
theorem w52_none {a : Int} (a0 : 0 ≤ a) (a1 : a ≤ 18446744073709551615) (h : ∀ p, whole9 a = some p → ¬ (-4503599627370496 ≤ p ∧ p ≤ 4503599627370496)) : W52 a.toNat = false := by
  have e : ((a.toNat : Nat) : Int) = a := Int.toNat_of_nonneg a0
  rw [← e] at h
  exact W52_none (by omega) h
theorem frombits_run (a : Int) (w : World) :
    (callFunc 19 #[.int .u64 a]).run Try.prog w = .ok (.value (.float .f64 a.toNat)) w := by
  rw [run_callFunc_extern (P := Try.prog) (fn := Try.f19) (e := Extern.MathFloatBits.float64frombits) (by kernel_rfl) (by kernel_rfl) (by kernel_rfl) (by kernel_rfl) (by kernel_rfl)]
  rfl
theorem w9gen {a : Int} (a0 : 0 ≤ a) (a1 : a ≤ 18446744073709551615) (w : World) :
    Calls Try.prog 20 #[.int .u64 a] w fun e w' => e = .returned (.tuple #[.int .i64 ((whole9 a).getD 0), .bool (whole9 a).isSome]) ∧ w = w' := ref9Whole_any a a0 a1 w
theorem w9some {a : Int} (a0 : 0 ≤ a) (a1 : a ≤ 18446744073709551615) {p : Int} (h : whole9 a = some p) (w : World) :
    Calls Try.prog 20 #[.int .u64 a] w fun e w' => e = .returned (.tuple #[.int .i64 p, .bool true]) ∧ w = w' := by
  have := w9gen a0 a1 w
  rw [h] at this
  exact this
theorem w9none {a : Int} (a0 : 0 ≤ a) (a1 : a ≤ 18446744073709551615) (h : whole9 a = none) (w : World) :
    Calls Try.prog 20 #[.int .u64 a] w fun e w' => e = .returned (.tuple #[.int .i64 0, .bool false]) ∧ w = w' := by
  have := w9gen a0 a1 w
  rw [h] at this
  exact this

set_option maxHeartbeats 1600000 in
theorem gaussBits_walk (a b : Int) (a0 : 0 ≤ a) (a1 : a ≤ 18446744073709551615) (b0 : 0 ≤ b) (b1 : b ≤ 18446744073709551615) (w : World) :
    Calls Try.prog 4 #[.int .u64 a, .int .u64 b] w fun e w' => e = .returned (.bool true) ∧ Below w.heap.size w w' := by
  have WA := fun w => ref9Whole_any a a0 a1 w
  have WB := fun w => ref9Whole_any b b0 b1 w
  have FX := fun w => frombits_run a w
  have FY := fun w => frombits_run b w
  cases hA : whole9 a with
  | none =>
    replace WA := fun w => w9none a0 a1 hA w
    replace WB := fun w => w9gen b0 b1 w
    have PP := fun w => parts_no a.toNat b.toNat (by rw [w52_none a0 a1 (fun p hp => by rw [hA] at hp; cases hp)]; rfl) w
    clear hA
    generalize (whole9 b).getD 0 = bq at *
    generalize (whole9 b).isSome = bs at *
    replace WA := Lib.hid WA
    replace WB := Lib.hid WB
    replace PP := Lib.hid PP
    go_enter Try.func4, Try.ntmps4
    go_wp2_with fail
    with_reducible refine (awake7 _).mono ?_
    rintro e w1 ⟨rfl, hb1⟩
    have hw1 : Below w.heap.size w w1 := Below.trans (by repeat' (first | (with_reducible assumption) | (with_reducible exact Below.refl _ _) | (with_reducible refine below_drewN ?_ _) | (with_reducible refine Below.drew ?_) | (with_reducible refine Below.setCell ?_ ?_ _) | (with_reducible refine Below.alloc ?_ ?_ _) | omega | (simp; done) | (simp; omega))) (hb1.mono (by first | assumption | (simp; done) | (simp; omega)))
    have hz1 := hw1.size
    clear hb1
    go_wp2_with fail
    with_reducible refine (PP.out _).mono ?_
    rintro e w2 ⟨rfl, hb2⟩
    have hw2 : Below w.heap.size w w2 := Below.trans (by repeat' (first | (with_reducible assumption) | (with_reducible exact Below.refl _ _) | (with_reducible refine below_drewN ?_ _) | (with_reducible refine Below.drew ?_) | (with_reducible refine Below.setCell ?_ ?_ _) | (with_reducible refine Below.alloc ?_ ?_ _) | omega | (simp; done) | (simp; omega))) (hb2.mono (by first | assumption | (simp; done) | (simp; omega)))
    have hz2 := hw2.size
    clear hb2
    go_wp2_with fail
    with_reducible refine (WA.out _).mono ?_
    rintro e w' ⟨rfl, rfl⟩
    go_wp2_with fail
    with_reducible refine (WB.out _).mono ?_
    rintro e w' ⟨rfl, rfl⟩
    go_wp2_with fail
    go_ret
    exact ⟨by simp, by repeat' (first | (with_reducible assumption) | (with_reducible exact Below.refl _ _) | (with_reducible refine below_drewN ?_ _) | (with_reducible refine Below.drew ?_) | (with_reducible refine Below.setCell ?_ ?_ _) | (with_reducible refine Below.alloc ?_ ?_ _) | omega | (simp; done) | (simp; omega))⟩
  | some p =>
    cases hB : whole9 b with
    | none =>
      replace WA := fun w => w9some a0 a1 hA w
      replace WB := fun w => w9none b0 b1 hB w
      have PP := fun w => parts_no a.toNat b.toNat (by rw [w52_none b0 b1 (fun p hp => by rw [hB] at hp; cases hp), Bool.and_false]) w
      clear hA hB
      replace WA := Lib.hid WA
      replace WB := Lib.hid WB
      replace PP := Lib.hid PP
      go_enter Try.func4, Try.ntmps4
      go_wp2_with fail
      with_reducible refine (awake7 _).mono ?_
      rintro e w1 ⟨rfl, hb1⟩
      have hw1 : Below w.heap.size w w1 := Below.trans (by repeat' (first | (with_reducible assumption) | (with_reducible exact Below.refl _ _) | (with_reducible refine below_drewN ?_ _) | (with_reducible refine Below.drew ?_) | (with_reducible refine Below.setCell ?_ ?_ _) | (with_reducible refine Below.alloc ?_ ?_ _) | omega | (simp; done) | (simp; omega))) (hb1.mono (by first | assumption | (simp; done) | (simp; omega)))
      have hz1 := hw1.size
      clear hb1
      go_wp2_with fail
      with_reducible refine (PP.out _).mono ?_
      rintro e w2 ⟨rfl, hb2⟩
      have hw2 : Below w.heap.size w w2 := Below.trans (by repeat' (first | (with_reducible assumption) | (with_reducible exact Below.refl _ _) | (with_reducible refine below_drewN ?_ _) | (with_reducible refine Below.drew ?_) | (with_reducible refine Below.setCell ?_ ?_ _) | (with_reducible refine Below.alloc ?_ ?_ _) | omega | (simp; done) | (simp; omega))) (hb2.mono (by first | assumption | (simp; done) | (simp; omega)))
      have hz2 := hw2.size
      clear hb2
      go_wp2_with fail
      with_reducible refine (WA.out _).mono ?_
      rintro e w' ⟨rfl, rfl⟩
      go_wp2_with fail
      with_reducible refine (WB.out _).mono ?_
      rintro e w' ⟨rfl, rfl⟩
      go_wp2_with fail
      go_ret
      exact ⟨by simp, by repeat' (first | (with_reducible assumption) | (with_reducible exact Below.refl _ _) | (with_reducible refine below_drewN ?_ _) | (with_reducible refine Below.drew ?_) | (with_reducible refine Below.setCell ?_ ?_ _) | (with_reducible refine Below.alloc ?_ ?_ _) | omega | (simp; done) | (simp; omega))⟩
    | some q =>
      by_cases h1 : p < -4503599627370496
      · skip
        replace WA := fun w => w9some a0 a1 hA w
        replace WB := fun w => w9some b0 b1 hB w
        have PP := fun w => parts_no a.toNat b.toNat (by rw [w52_none a0 a1 (fun p' hp' hb => by rw [hA] at hp'; injection hp' with hp'; omega)]; rfl) w
        clear hA hB
        replace WA := Lib.hid WA
        replace WB := Lib.hid WB
        replace PP := Lib.hid PP
        go_enter Try.func4, Try.ntmps4
        go_wp2_with fail
        with_reducible refine (awake7 _).mono ?_
        rintro e w1 ⟨rfl, hb1⟩
        have hw1 : Below w.heap.size w w1 := Below.trans (by repeat' (first | (with_reducible assumption) | (with_reducible exact Below.refl _ _) | (with_reducible refine below_drewN ?_ _) | (with_reducible refine Below.drew ?_) | (with_reducible refine Below.setCell ?_ ?_ _) | (with_reducible refine Below.alloc ?_ ?_ _) | omega | (simp; done) | (simp; omega))) (hb1.mono (by first | assumption | (simp; done) | (simp; omega)))
        have hz1 := hw1.size
        clear hb1
        go_wp2_with fail
        with_reducible refine (PP.out _).mono ?_
        rintro e w2 ⟨rfl, hb2⟩
        have hw2 : Below w.heap.size w w2 := Below.trans (by repeat' (first | (with_reducible assumption) | (with_reducible exact Below.refl _ _) | (with_reducible refine below_drewN ?_ _) | (with_reducible refine Below.drew ?_) | (with_reducible refine Below.setCell ?_ ?_ _) | (with_reducible refine Below.alloc ?_ ?_ _) | omega | (simp; done) | (simp; omega))) (hb2.mono (by first | assumption | (simp; done) | (simp; omega)))
        have hz2 := hw2.size
        clear hb2
        go_wp2_with fail
        with_reducible refine (WA.out _).mono ?_
        rintro e w' ⟨rfl, rfl⟩
        go_wp2_with fail
        with_reducible refine (WB.out _).mono ?_
        rintro e w' ⟨rfl, rfl⟩
        go_wp2_with fail
        go_ret
        exact ⟨by simp, by repeat' (first | (with_reducible assumption) | (with_reducible exact Below.refl _ _) | (with_reducible refine below_drewN ?_ _) | (with_reducible refine Below.drew ?_) | (with_reducible refine Below.setCell ?_ ?_ _) | (with_reducible refine Below.alloc ?_ ?_ _) | omega | (simp; done) | (simp; omega))⟩
      · by_cases h2 : 4503599627370496 < p
        · skip
          replace WA := fun w => w9some a0 a1 hA w
          replace WB := fun w => w9some b0 b1 hB w
          have PP := fun w => parts_no a.toNat b.toNat (by rw [w52_none a0 a1 (fun p' hp' hb => by rw [hA] at hp'; injection hp' with hp'; omega)]; rfl) w
          clear hA hB
          replace WA := Lib.hid WA
          replace WB := Lib.hid WB
          replace PP := Lib.hid PP
          go_enter Try.func4, Try.ntmps4
          go_wp2_with fail
          with_reducible refine (awake7 _).mono ?_
          rintro e w1 ⟨rfl, hb1⟩
          have hw1 : Below w.heap.size w w1 := Below.trans (by repeat' (first | (with_reducible assumption) | (with_reducible exact Below.refl _ _) | (with_reducible refine below_drewN ?_ _) | (with_reducible refine Below.drew ?_) | (with_reducible refine Below.setCell ?_ ?_ _) | (with_reducible refine Below.alloc ?_ ?_ _) | omega | (simp; done) | (simp; omega))) (hb1.mono (by first | assumption | (simp; done) | (simp; omega)))
          have hz1 := hw1.size
          clear hb1
          go_wp2_with fail
          with_reducible refine (PP.out _).mono ?_
          rintro e w2 ⟨rfl, hb2⟩
          have hw2 : Below w.heap.size w w2 := Below.trans (by repeat' (first | (with_reducible assumption) | (with_reducible exact Below.refl _ _) | (with_reducible refine below_drewN ?_ _) | (with_reducible refine Below.drew ?_) | (with_reducible refine Below.setCell ?_ ?_ _) | (with_reducible refine Below.alloc ?_ ?_ _) | omega | (simp; done) | (simp; omega))) (hb2.mono (by first | assumption | (simp; done) | (simp; omega)))
          have hz2 := hw2.size
          clear hb2
          go_wp2_with fail
          with_reducible refine (WA.out _).mono ?_
          rintro e w' ⟨rfl, rfl⟩
          go_wp2_with fail
          with_reducible refine (WB.out _).mono ?_
          rintro e w' ⟨rfl, rfl⟩
          go_wp2_with fail
          go_ret
          exact ⟨by simp, by repeat' (first | (with_reducible assumption) | (with_reducible exact Below.refl _ _) | (with_reducible refine below_drewN ?_ _) | (with_reducible refine Below.drew ?_) | (with_reducible refine Below.setCell ?_ ?_ _) | (with_reducible refine Below.alloc ?_ ?_ _) | omega | (simp; done) | (simp; omega))⟩
        · by_cases h3 : q < -4503599627370496
          · skip
            replace WA := fun w => w9some a0 a1 hA w
            replace WB := fun w => w9some b0 b1 hB w
            have PP := fun w => parts_no a.toNat b.toNat (by rw [w52_none b0 b1 (fun p' hp' hb => by rw [hB] at hp'; injection hp' with hp'; omega), Bool.and_false]) w
            clear hA hB
            replace WA := Lib.hid WA
            replace WB := Lib.hid WB
            replace PP := Lib.hid PP
            go_enter Try.func4, Try.ntmps4
            go_wp2_with fail
            with_reducible refine (awake7 _).mono ?_
            rintro e w1 ⟨rfl, hb1⟩
            have hw1 : Below w.heap.size w w1 := Below.trans (by repeat' (first | (with_reducible assumption) | (with_reducible exact Below.refl _ _) | (with_reducible refine below_drewN ?_ _) | (with_reducible refine Below.drew ?_) | (with_reducible refine Below.setCell ?_ ?_ _) | (with_reducible refine Below.alloc ?_ ?_ _) | omega | (simp; done) | (simp; omega))) (hb1.mono (by first | assumption | (simp; done) | (simp; omega)))
            have hz1 := hw1.size
            clear hb1
            go_wp2_with fail
            with_reducible refine (PP.out _).mono ?_
            rintro e w2 ⟨rfl, hb2⟩
            have hw2 : Below w.heap.size w w2 := Below.trans (by repeat' (first | (with_reducible assumption) | (with_reducible exact Below.refl _ _) | (with_reducible refine below_drewN ?_ _) | (with_reducible refine Below.drew ?_) | (with_reducible refine Below.setCell ?_ ?_ _) | (with_reducible refine Below.alloc ?_ ?_ _) | omega | (simp; done) | (simp; omega))) (hb2.mono (by first | assumption | (simp; done) | (simp; omega)))
            have hz2 := hw2.size
            clear hb2
            go_wp2_with fail
            with_reducible refine (WA.out _).mono ?_
            rintro e w' ⟨rfl, rfl⟩
            go_wp2_with fail
            with_reducible refine (WB.out _).mono ?_
            rintro e w' ⟨rfl, rfl⟩
            go_wp2_with fail
            go_ret
            exact ⟨by simp, by repeat' (first | (with_reducible assumption) | (with_reducible exact Below.refl _ _) | (with_reducible refine below_drewN ?_ _) | (with_reducible refine Below.drew ?_) | (with_reducible refine Below.setCell ?_ ?_ _) | (with_reducible refine Below.alloc ?_ ?_ _) | omega | (simp; done) | (simp; omega))⟩
          · by_cases h4 : 4503599627370496 < q
            · skip
              replace WA := fun w => w9some a0 a1 hA w
              replace WB := fun w => w9some b0 b1 hB w
              have PP := fun w => parts_no a.toNat b.toNat (by rw [w52_none b0 b1 (fun p' hp' hb => by rw [hB] at hp'; injection hp' with hp'; omega), Bool.and_false]) w
              clear hA hB
              replace WA := Lib.hid WA
              replace WB := Lib.hid WB
              replace PP := Lib.hid PP
              go_enter Try.func4, Try.ntmps4
              go_wp2_with fail
              with_reducible refine (awake7 _).mono ?_
              rintro e w1 ⟨rfl, hb1⟩
              have hw1 : Below w.heap.size w w1 := Below.trans (by repeat' (first | (with_reducible assumption) | (with_reducible exact Below.refl _ _) | (with_reducible refine below_drewN ?_ _) | (with_reducible refine Below.drew ?_) | (with_reducible refine Below.setCell ?_ ?_ _) | (with_reducible refine Below.alloc ?_ ?_ _) | omega | (simp; done) | (simp; omega))) (hb1.mono (by first | assumption | (simp; done) | (simp; omega)))
              have hz1 := hw1.size
              clear hb1
              go_wp2_with fail
              with_reducible refine (PP.out _).mono ?_
              rintro e w2 ⟨rfl, hb2⟩
              have hw2 : Below w.heap.size w w2 := Below.trans (by repeat' (first | (with_reducible assumption) | (with_reducible exact Below.refl _ _) | (with_reducible refine below_drewN ?_ _) | (with_reducible refine Below.drew ?_) | (with_reducible refine Below.setCell ?_ ?_ _) | (with_reducible refine Below.alloc ?_ ?_ _) | omega | (simp; done) | (simp; omega))) (hb2.mono (by first | assumption | (simp; done) | (simp; omega)))
              have hz2 := hw2.size
              clear hb2
              go_wp2_with fail
              with_reducible refine (WA.out _).mono ?_
              rintro e w' ⟨rfl, rfl⟩
              go_wp2_with fail
              with_reducible refine (WB.out _).mono ?_
              rintro e w' ⟨rfl, rfl⟩
              go_wp2_with fail
              go_ret
              exact ⟨by simp, by repeat' (first | (with_reducible assumption) | (with_reducible exact Below.refl _ _) | (with_reducible refine below_drewN ?_ _) | (with_reducible refine Below.drew ?_) | (with_reducible refine Below.setCell ?_ ?_ _) | (with_reducible refine Below.alloc ?_ ?_ _) | omega | (simp; done) | (simp; omega))⟩
            · skip
              replace WA := fun w => w9some a0 a1 hA w
              replace WB := fun w => w9some b0 b1 hB w
              have PP := fun w => parts_yes (w9_rep a0 a1 hA) (w9_rep b0 b1 hB) (by omega) (by omega) (by omega) (by omega) w
              clear hA hB
              replace WA := Lib.hid WA
              replace WB := Lib.hid WB
              replace PP := Lib.hid PP
              go_enter Try.func4, Try.ntmps4
              go_wp2_with fail
              with_reducible refine (awake7 _).mono ?_
              rintro e w1 ⟨rfl, hb1⟩
              have hw1 : Below w.heap.size w w1 := Below.trans (by repeat' (first | (with_reducible assumption) | (with_reducible exact Below.refl _ _) | (with_reducible refine below_drewN ?_ _) | (with_reducible refine Below.drew ?_) | (with_reducible refine Below.setCell ?_ ?_ _) | (with_reducible refine Below.alloc ?_ ?_ _) | omega | (simp; done) | (simp; omega))) (hb1.mono (by first | assumption | (simp; done) | (simp; omega)))
              have hz1 := hw1.size
              clear hb1
              go_wp2_with fail
              with_reducible refine (PP.out _).mono ?_
              rintro e w2 ⟨rfl, hb2⟩
              have hw2 : Below w.heap.size w w2 := Below.trans (by repeat' (first | (with_reducible assumption) | (with_reducible exact Below.refl _ _) | (with_reducible refine below_drewN ?_ _) | (with_reducible refine Below.drew ?_) | (with_reducible refine Below.setCell ?_ ?_ _) | (with_reducible refine Below.alloc ?_ ?_ _) | omega | (simp; done) | (simp; omega))) (hb2.mono (by first | assumption | (simp; done) | (simp; omega)))
              have hz2 := hw2.size
              clear hb2
              go_wp2_with fail
              with_reducible refine (WA.out _).mono ?_
              rintro e w' ⟨rfl, rfl⟩
              go_wp2_with fail
              with_reducible refine (WB.out _).mono ?_
              rintro e w' ⟨rfl, rfl⟩
              go_wp2_with fail
              go_ret
              exact ⟨by simp, by repeat' (first | (with_reducible assumption) | (with_reducible exact Below.refl _ _) | (with_reducible refine below_drewN ?_ _) | (with_reducible refine Below.drew ?_) | (with_reducible refine Below.setCell ?_ ?_ _) | (with_reducible refine Below.alloc ?_ ?_ _) | omega | (simp; done) | (simp; omega))⟩
end Go.Proofs.Ytimgmobpgbekjaa
