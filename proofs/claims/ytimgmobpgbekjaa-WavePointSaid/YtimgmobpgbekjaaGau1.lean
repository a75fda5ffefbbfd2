/- Contracts of package gauss: math.Trunc and what looks at the parts. Conditions: as each says. -/
import Derived.Test.YtimgmobpgbekjaaProg
import Derived.Test.YtimgmobpgbekjaaAid
import Derived.Test.YtimgmobpgbekjaaFl2
import Derived.Laws.Externs
import GoSem.Extern.MathFloor
namespace Go.Proofs.Ytimgmobpgbekjaa
open Go.RowKit

theorem archTrunc_run {x : Nat} {v : Int} (hx : Fl.Val x v) (w : World) :
    (callFunc 46 #[.float .f64 x]).run Try.prog w = .ok (.value (.float .f64 (Fl.truncBits x))) w := by
  obtain ⟨s, m, e, hr, _, _, _⟩ := hx
  have h1 : FloatKind.f64.decode x = .number s m e := hr
  have h2 : Fl.truncBits x = FloatKind.f64.encode ((Ieee.Datum.number s m e).integral .zero) := by unfold Fl.truncBits; rw [hr]; rfl
  have h3 : Extern.MathFloor.toIntegral "math.archTrunc" .zero #[.float .f64 x] = pure (.float .f64 (FloatKind.f64.encode ((Ieee.Datum.number s m e).integral .zero))) := by
    change Extern.MathFloor.toIntegral.match_1 (fun _ => Sem Value) (FloatKind.f64.decode x) _ (fun d => pure (Value.float FloatKind.f64 (FloatKind.f64.encode (Ieee.Datum.integral .zero d)))) = _
    rw [h1]
  rw [run_callFunc_extern (P := Try.prog) (fn := Try.f46) (e := Extern.MathFloor.toIntegral "math.archTrunc" .zero) (by kernel_rfl) (by kernel_rfl) (by kernel_rfl) (by kernel_rfl) (by kernel_rfl), h3, h2]
  rfl

set_option maxHeartbeats 400000 in
theorem trunc_any {x : Nat} {v : Int} (hx : Fl.Val x v) (w : World) :
    Calls Try.prog 44 #[.float .f64 x] w fun e w' => e = .returned (.float .f64 (Fl.truncBits x)) ∧ w' = w := by
  have hr := archTrunc_run hx w
  generalize Fl.truncBits x = y at *
  go_enter Try.func44, Try.ntmps44
  go_wp2_with fail
  go_ret
  exact ⟨rfl, rfl⟩
end Go.Proofs.Ytimgmobpgbekjaa
