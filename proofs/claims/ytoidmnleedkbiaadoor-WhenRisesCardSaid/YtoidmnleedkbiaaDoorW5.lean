/- Contracts of when.leap, month, ahead and the reference's leap, days. Condition: years from 0 to 10001, months from 1 to 12. -/
import Derived.Test.YtoidmnleedkbiaaDoorProg
import Derived.Test.YtoidmnleedkbiaaDoorAid
import Derived.Test.YtoidmnleedkbiaaDoorWhen
import Derived.Outline
namespace Go.Proofs.YtoidmnleedkbiaaDoor
open Go.RowKit
set_option linter.unusedSimpArgs false
set_option linter.unusedVariables false

set_option maxHeartbeats 400000 in
theorem leap_any (y : Int) (y0 : 0 ≤ y) (y1 : y ≤ 10001) (w : World) :
    Calls Tryd.prog 16 #[.int .i64 y] w fun e w' => e = .returned (.bool (decide (lp y = 1))) ∧ w = w' := by
  have hl : decide (lp y = 1) = (decide (y % 4 = 0) && (!decide (y % 100 = 0) || decide (y % 400 = 0))) := by
    unfold lp
    by_cases a : y % 4 = 0 <;> by_cases b : y % 100 = 0 <;> by_cases c : y % 400 = 0 <;> simp [a, b, c]
  rw [hl]
  clear hl
  by_cases a : y % 4 = 0
  · by_cases b : y % 100 = 0
    · by_cases c : y % 400 = 0
      · have a1 := beq_t a
        have b1 := bne_f b
        have c1 := beq_t c
        go_enter Tryd.func16, Tryd.ntmps16
        go_wp2_with fail
        go_ret
        exact ⟨by simp [a, b, c], rfl⟩
      · have a1 := beq_t a
        have b1 := bne_f b
        have c1 := beq_f c
        go_enter Tryd.func16, Tryd.ntmps16
        go_wp2_with fail
        go_ret
        exact ⟨by simp [a, b, c], rfl⟩
    · have a1 := beq_t a
      have b1 := bne_t b
      go_enter Tryd.func16, Tryd.ntmps16
      go_wp2_with fail
      go_ret
      exact ⟨by simp [a, b], rfl⟩
  · have a1 := beq_f a
    go_enter Tryd.func16, Tryd.ntmps16
    go_wp2_with fail
    go_ret
    exact ⟨by simp [a], rfl⟩

set_option maxHeartbeats 1600000 in
theorem month_any (y m : Int) (y0 : 0 ≤ y) (y1 : y ≤ 10001) (m0 : 1 ≤ m) (m1 : m ≤ 12) (w : World) :
    Calls Tryd.prog 10 #[.int .i64 y, .int .i64 m] w fun e w' => e = .returned (.int .i64 (mlen y m)) ∧ w = w' := by
  have L := fun w => leap_any y y0 y1 w
  obtain ⟨p, hp⟩ : ∃ p, lp y = p := ⟨_, rfl⟩
  have hp2 := lp_01 y
  rw [hp] at hp2
  have hm : mlen y m = if m = 2 then 28 + p else if m = 4 ∨ m = 6 ∨ m = 9 ∨ m = 11 then 30 else 31 := by unfold mlen; rw [hp]
  rw [hm]
  rw [hp] at L
  have L := Lib.hid L
  clear hp hm
  rcases (show p = 0 ∨ p = 1 by omega) with rfl | rfl
  all_goals
    rcases (show m = 1 ∨ m = 2 ∨ m = 3 ∨ m = 4 ∨ m = 5 ∨ m = 6 ∨ m = 7 ∨ m = 8 ∨ m = 9 ∨ m = 10 ∨ m = 11 ∨ m = 12 by omega) with rfl | rfl | rfl | rfl | rfl | rfl | rfl | rfl | rfl | rfl | rfl | rfl
    all_goals
      go_enter Tryd.func10, Tryd.ntmps10
      go_wp2_with (go_at_call 16; (with_reducible refine (L.out _).mono ?_); rintro e w' ⟨rfl, rfl⟩)
      go_ret
      exact ⟨rfl, rfl⟩

set_option maxHeartbeats 400000 in
theorem ahead_any (y : Int) (y0 : 1 ≤ y) (y1 : y ≤ 10001) (w : World) :
    Calls Tryd.prog 11 #[.int .i64 y] w fun e w' => e = .returned (.int .i64 (ahd y)) ∧ w = w' := by
  go_enter Tryd.func11, Tryd.ntmps11
  go_wp2_with fail
  go_ret
  exact ⟨by unfold ahd; rfl, rfl⟩
end Go.Proofs.YtoidmnleedkbiaaDoor
