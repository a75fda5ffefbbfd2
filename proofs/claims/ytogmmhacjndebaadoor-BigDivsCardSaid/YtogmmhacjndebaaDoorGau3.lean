/- Contracts of package gauss: small, Parts, Of, turned, Times, Turn, Norm. Conditions: as each says. -/
import Derived.Test.YtogmmhacjndebaaDoorGau2
import Derived.Test.YtogmmhacjndebaaDoorFl3
namespace Go.Proofs.YtogmmhacjndebaaDoor
open Go.RowKit
set_option linter.unusedSimpArgs false
set_option linter.unusedVariables false

def W25 (x : Nat) : Bool := isW x 13943144446339055616 4719772409484279808
def W52 (x : Nat) : Bool := isW x 14064741636278059008 4841369599423283200
theorem W25_iff (x : Nat) : W25 x = true ↔ ∃ n, Fl.Rep x n ∧ -33554432 ≤ n ∧ n ≤ 33554432 := isW_iff x _ _ 33554432 (by decide) (by decide) Fl.rep25n Fl.rep25
theorem W52_iff (x : Nat) : W52 x = true ↔ ∃ n, Fl.Rep x n ∧ -4503599627370496 ≤ n ∧ n ≤ 4503599627370496 := isW_iff x _ _ 4503599627370496 (by decide) (by decide) Fl.rep52n Fl.rep52
theorem W25_yes {x : Nat} {n : Int} (h : Fl.Rep x n) (h0 : -33554432 ≤ n) (h1 : n ≤ 33554432) : W25 x = true := (W25_iff x).2 ⟨n, h, h0, h1⟩
theorem W52_yes {x : Nat} {n : Int} (h : Fl.Rep x n) (h0 : -4503599627370496 ≤ n) (h1 : n ≤ 4503599627370496) : W52 x = true := (W52_iff x).2 ⟨n, h, h0, h1⟩
theorem whole25 (x y : Nat) (w : World) :
    Calls Tryd.prog 47 #[.complex .f64 x y, .float .f64 4719772409484279808] w fun e w' => e = .returned (.bool (W25 x && W25 y)) ∧ Below w.heap.size w w' :=
  whole_any x y _ _ 33554432 Fl.rep25n Fl.rep25 Fl.neg25 w
theorem whole52 (x y : Nat) (w : World) :
    Calls Tryd.prog 47 #[.complex .f64 x y, .float .f64 4841369599423283200] w fun e w' => e = .returned (.bool (W52 x && W52 y)) ∧ Below w.heap.size w w' :=
  whole_any x y _ _ 4503599627370496 Fl.rep52n Fl.rep52 Fl.neg52 w

set_option maxRecDepth 100000 in
set_option maxHeartbeats 400000 in
theorem small_any (x y : Nat) (w : World) :
    Calls Tryd.prog 44 #[.complex .f64 x y] w fun e w' => e = .returned (.bool (W25 x && W25 y)) ∧ Below w.heap.size w w' := by
  have T := Lib.hid (fun w => whole25 x y w)
  generalize (W25 x && W25 y) = B at *
  go_enter Tryd.func44, Tryd.ntmps44
  go_wp2_with fail
  with_reducible refine (T.out _).mono ?_
  rintro e w1 ⟨rfl, hb⟩
  go_wp2_with fail
  go_ret
  exact ⟨rfl, hb⟩

theorem run_f2i {x : Nat} {a : Int} (hx : Fl.Rep x a) (h0 : -9223372036854775808 ≤ a) (h1 : a ≤ 9223372036854775807) (w : World) :
    (convert 83 3 (.float .f64 x)).run Tryd.prog w = .ok (.int .i64 a) w :=
  run_convert_float_int (P := Tryd.prog) w 83 3 .f64 .i64 x a (by kernel_rfl) (by kernel_rfl) (Fl.toIntVal_rep hx h0 h1)
theorem run_i2f (n : Int) (w : World) : (convert 3 83 (.int .i64 n)).run Tryd.prog w = .ok (.float .f64 (floatOfInt .f64 n)) w :=
  run_convert_int_float (P := Tryd.prog) w 3 83 .i64 .f64 n (by kernel_rfl) (by kernel_rfl)

set_option maxRecDepth 100000 in
set_option maxHeartbeats 400000 in
theorem parts_yes {x y : Nat} {a b : Int} (hx : Fl.Rep x a) (hy : Fl.Rep y b) (a0 : -4503599627370496 ≤ a) (a1 : a ≤ 4503599627370496) (b0 : -4503599627370496 ≤ b) (b1 : b ≤ 4503599627370496) (w : World) :
    Calls Tryd.prog 34 #[.complex .f64 x y] w fun e w' => e = .returned (.tuple #[.int .i64 a, .int .i64 b, .bool true]) ∧ Below w.heap.size w w' := by
  have T := fun w => whole52 x y w
  rw [W52_yes hx a0 a1, W52_yes hy b0 b1] at T
  have TH := Lib.hid T
  have c1 := fun w => run_f2i hx (by omega) (by omega) w
  have c2 := fun w => run_f2i hy (by omega) (by omega) w
  clear T hx hy
  go_enter Tryd.func34, Tryd.ntmps34
  go_wp2_with fail
  with_reducible refine (TH.out _).mono ?_
  rintro e w1 ⟨rfl, hb⟩
  go_wp2_with fail
  refine bodyPost_ret (results_tmp3 rfl _ _ _) rfl ?_
  exact ⟨rfl, hb⟩

set_option maxRecDepth 100000 in
set_option maxHeartbeats 400000 in
theorem of_yes (a b : Int) (a0 : -33554432 ≤ a) (a1 : a ≤ 33554432) (b0 : -33554432 ≤ b) (b1 : b ≤ 33554432) (w : World) :
    Calls Tryd.prog 42 #[.int .i64 a, .int .i64 b] w fun e w' => e = .returned (.complex .f64 (floatOfInt .f64 a) (floatOfInt .f64 b)) ∧ w = w' := by
  have c1 := fun w => run_i2f a w
  have c2 := fun w => run_i2f b w
  generalize floatOfInt .f64 a = x at *
  generalize floatOfInt .f64 b = y at *
  go_enter Tryd.func42, Tryd.ntmps42
  go_wp2_with fail
  go_ret
  exact ⟨rfl, rfl⟩

end Go.Proofs.YtogmmhacjndebaaDoor
