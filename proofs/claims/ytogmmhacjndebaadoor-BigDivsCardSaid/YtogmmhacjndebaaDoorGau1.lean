/- Contracts of package gauss: math.Trunc and what looks at the parts. Conditions: as each says. -/
import Derived.Test.YtogmmhacjndebaaDoorProg
import Derived.Test.YtogmmhacjndebaaDoorAid
import Derived.Test.YtogmmhacjndebaaDoorFl2
import Derived.Laws.Externs
import GoSem.Extern.MathFloor
namespace Go.Proofs.YtogmmhacjndebaaDoor
open Go.RowKit
set_option linter.unusedSimpArgs false
set_option linter.unusedVariables false

theorem archTrunc_run {x : Nat} {v : Int} (hx : Fl.Val x v) (w : World) :
    (callFunc 64 #[.float .f64 x]).run Tryd.prog w = .ok (.value (.float .f64 (Fl.truncBits x))) w := by
  obtain ⟨s, m, e, hr, _, _, _⟩ := hx
  have h1 : FloatKind.f64.decode x = .number s m e := hr
  have h2 : Fl.truncBits x = FloatKind.f64.encode ((Ieee.Datum.number s m e).integral .zero) := by unfold Fl.truncBits; rw [hr]; rfl
  have h3 : Extern.MathFloor.toIntegral "math.archTrunc" .zero #[.float .f64 x] = pure (.float .f64 (FloatKind.f64.encode ((Ieee.Datum.number s m e).integral .zero))) := by
    change Extern.MathFloor.toIntegral.match_1 (fun _ => Sem Value) (FloatKind.f64.decode x) _ (fun d => pure (Value.float FloatKind.f64 (FloatKind.f64.encode (Ieee.Datum.integral .zero d)))) = _
    rw [h1]
  rw [run_callFunc_extern (P := Tryd.prog) (fn := Tryd.f64) (e := Extern.MathFloor.toIntegral "math.archTrunc" .zero) (by kernel_rfl) (by kernel_rfl) (by kernel_rfl) (by kernel_rfl) (by kernel_rfl), h3, h2]
  rfl

set_option maxRecDepth 100000 in
set_option maxHeartbeats 400000 in
theorem trunc_any {x : Nat} {v : Int} (hx : Fl.Val x v) (w : World) :
    Calls Tryd.prog 55 #[.float .f64 x] w fun e w' => e = .returned (.float .f64 (Fl.truncBits x)) ∧ w' = w := by
  have hr := archTrunc_run hx w
  generalize Fl.truncBits x = y at *
  go_enter Tryd.func55, Tryd.ntmps55
  go_wp2_with fail
  go_ret
  exact ⟨rfl, rfl⟩
end Go.Proofs.YtogmmhacjndebaaDoor
