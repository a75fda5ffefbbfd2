/- Contracts of package wave: fit. No condition. -/
import Derived.Test.YtogmmhacjndebaaDoorProg
import Derived.Test.YtogmmhacjndebaaDoorAid
import Derived.Test.YtogmmhacjndebaaDoorGau3
import Derived.Test.YtogmmhacjndebaaDoorGau5
namespace Go.Proofs.YtogmmhacjndebaaDoor
open Go.RowKit
set_option linter.unusedSimpArgs false
set_option linter.unusedVariables false

/-- Four complex numbers, by the bits of their parts. -/
def c4 (x y : Nat → Nat) : Value := .agg #[.complex .f64 (x 0) (y 0), .complex .f64 (x 1) (y 1), .complex .f64 (x 2) (y 2), .complex .f64 (x 3) (y 3)]
theorem four_cases {j : Nat} (h : j < 4) : j = 0 ∨ j = 1 ∨ j = 2 ∨ j = 3 := by omega
theorem idx4 (x y : Nat → Nat) (j : Nat) (h : j < 4) (w : World) : (Instr.index 58 (.agg #[.complex .f64 (x 0) (y 0), .complex .f64 (x 1) (y 1), .complex .f64 (x 2) (y 2), .complex .f64 (x 3) (y 3)]) (.int .i64 (j : Int))).run Tryd.prog w = .ok (.complex .f64 (x j) (y j)) w := by
  rcases four_cases h with rfl | rfl | rfl | rfl <;> kernel_rfl

def W50 (x : Nat) : Bool := isW x 14055734437023318016 4832362400168542208
theorem rep50 : Fl.Rep 4832362400168542208 1125899906842624 := by
  have h := Fl.rep_ofInt 1125899906842624 (by decide)
  have e : floatOfInt .f64 1125899906842624 = 4832362400168542208 := by decide +kernel
  rwa [e] at h
theorem rep50n : Fl.Rep 14055734437023318016 (-1125899906842624) := by
  have h := Fl.rep_ofInt (-1125899906842624) (by decide)
  have e : floatOfInt .f64 (-1125899906842624) = 14055734437023318016 := by decide +kernel
  rwa [e] at h
theorem W50_iff (x : Nat) : W50 x = true ↔ ∃ n, Fl.Rep x n ∧ -1125899906842624 ≤ n ∧ n ≤ 1125899906842624 := isW_iff x _ _ 1125899906842624 (by decide) (by decide) rep50n rep50
theorem W50_yes {x : Nat} {n : Int} (h : Fl.Rep x n) (h0 : -1125899906842624 ≤ n) (h1 : n ≤ 1125899906842624) : W50 x = true := (W50_iff x).2 ⟨n, h, h0, h1⟩
set_option maxRecDepth 100000 in
set_option maxHeartbeats 400000 in
theorem is50_any (x : Nat) (w : World) : Calls Tryd.prog 54 #[.float .f64 x] w fun e w' => e = .returned (.bool (W50 x)) ∧ w = w' := by
  have hl := rep50n
  have hh := rep50
  unfold W50
  cases g1 : Fl.geB x 14055734437023318016
  · have hi0 : isW x 14055734437023318016 4832362400168542208 = false := by unfold isW; rw [g1]; rfl
    rw [hi0]
    have f1 : (FloatKind.f64.format.order x 14055734437023318016 == some .gt || FloatKind.f64.format.order x 14055734437023318016 == some .eq) = false := g1
    clear g1 hi0 hl hh
    go_enter Tryd.func54, Tryd.ntmps54
    go_wp2_with fail
    go_ret
    exact ⟨rfl, rfl⟩
  · cases g2 : Fl.leB x 4832362400168542208
    · have hi0 : isW x 14055734437023318016 4832362400168542208 = false := by unfold isW; rw [g1, g2]; rfl
      rw [hi0]
      have f1 : (FloatKind.f64.format.order x 14055734437023318016 == some .gt || FloatKind.f64.format.order x 14055734437023318016 == some .eq) = true := g1
      have f2 : (FloatKind.f64.format.order x 4832362400168542208 == some .lt || FloatKind.f64.format.order x 4832362400168542208 == some .eq) = false := g2
      clear g1 g2 hi0 hl hh
      go_enter Tryd.func54, Tryd.ntmps54
      go_wp2_with fail
      go_ret
      exact ⟨rfl, rfl⟩
    · obtain ⟨v, hv⟩ := Fl.val_within hl hh g1 g2
      have T := Lib.hid (fun w => trunc_any hv w)
      have hi0 : isW x 14055734437023318016 4832362400168542208 = Fl.eqB x (Fl.truncBits x) := by unfold isW; rw [g1, g2]; rfl
      rw [hi0]
      have f1 : (FloatKind.f64.format.order x 14055734437023318016 == some .gt || FloatKind.f64.format.order x 14055734437023318016 == some .eq) = true := g1
      have f2 : (FloatKind.f64.format.order x 4832362400168542208 == some .lt || FloatKind.f64.format.order x 4832362400168542208 == some .eq) = true := g2
      clear g1 g2 hi0 hl hh hv
      have f3 : (FloatKind.f64.format.order x (Fl.truncBits x) == some .eq) = Fl.eqB x (Fl.truncBits x) := rfl
      generalize Fl.eqB x (Fl.truncBits x) = B at *
      generalize Fl.truncBits x = y at *
      go_enter Tryd.func54, Tryd.ntmps54
      go_wp2_with fail
      refine (T.out _).mono ?_
      rintro e w' ⟨rfl, rfl⟩
      go_wp2_with fail
      go_ret
      exact ⟨rfl, rfl⟩

/-- All the first n numbers are fit. -/
def fitTo (x y : Nat → Nat) (n : Nat) : Prop := ∀ i, i < n → (W50 (x i) && W50 (y i)) = true

set_option maxRecDepth 100000 in
set_option maxHeartbeats 800000 in
theorem fit_yes (x y : Nat → Nat) (h : fitTo x y 4) (w : World) :
    Calls Tryd.prog 45 #[c4 x y] w fun e w' => e = .returned (.bool true) ∧ Below w.heap.size w w' := by
  unfold c4
  have hix := Lib.hid (fun j hj w => idx4 x y j hj w)
  replace h := Lib.hid h
  go_enter Tryd.func45, Tryd.ntmps45
  go_wp2_with fail
  go_loop [7] (fun j => ∃ k : Nat, k ≤ 4 ∧ j = .int .i64 k) (fun j => (4 - intOf j).toNat)
  case atStart => exact ⟨0, by omega, rfl⟩
  case round =>
    obtain ⟨k, hk, rfl⟩ := hrel
    by_cases hk4 : k < 4
    · have hi := fun w => hix.out k hk4 w
      have hw := h.out k hk4
      rw [Bool.and_eq_true] at hw
      have T1 := fun w => is50_any (x k) w
      have T2 := fun w => is50_any (y k) w
      rw [hw.1] at T1
      rw [hw.2] at T2
      replace T1 := Lib.hid T1
      replace T2 := Lib.hid T2
      clear hw
      go_wp2_with fail
      with_reducible refine (T1.out _).mono ?_
      rintro e w' ⟨rfl, rfl⟩
      go_wp2_with fail
      with_reducible refine (T2.out _).mono ?_
      rintro e w' ⟨rfl, rfl⟩
      go_wp2_with fail
      go_round
      case rel => exact ⟨k + 1, by omega, by go_num⟩
      case measure => simp [intOf]; omega
    · go_wp2_with fail
      go_ret
      exact ⟨rfl, by repeat' (first | (with_reducible assumption) | (with_reducible exact Below.refl _ _) | (with_reducible refine below_drewN ?_ _) | (with_reducible refine Below.drew ?_) | (with_reducible refine Below.setCell ?_ ?_ _) | (with_reducible refine Below.alloc ?_ ?_ _) | omega | (simp; done) | (simp; omega))⟩

end Go.Proofs.YtogmmhacjndebaaDoor
