/- GaussQuos holds: for every input the law returns true, and each argument reads as it read before. No condition beyond the given row's. (The frame follows the kit's proof-skeleton.) -/
import Derived.Test.YtimgmobpgbekjaaRows
import Derived.WalkKit
import Derived.ProofKit
import Derived.OpenShut
import Derived.Lib.SmallJoins
import Derived.Test.YtimgmobpgbekjaaPost
import Derived.Test.YtimgmobpgbekjaaGau12
namespace Go.Proofs.Ytimgmobpgbekjaa.gaussQuos
open Go.ChangeShapes Go.WideShapes Go.ChangeAt Go.RowKit
set_option linter.unusedVariables false

theorem own : ownKnob Try.prog.godebug = none := by kernel_rfl
theorem cells38 : Try.prog.cellsOf 38 = 4 := by kernel_rfl

theorem walk (a0 : Int) (a1 : Int) (a2 : Int) (a3 : Int) (w0 : (Lit.int .i64 a0).wf = true) (w1 : (Lit.int .i64 a1).wf = true) (w2 : (Lit.int .i64 a2).wf = true) (w3 : (Lit.int .i64 a3).wf = true) (w : World) :
    Calls Try.prog 8 #[.agg #[.int .i64 a0, .int .i64 a1, .int .i64 a2, .int .i64 a3]] w fun e w' => e = .returned (.bool true) ∧ Below w.heap.size w w' := by
  have ba0 := bounds_i64 w0
  have ba1 := bounds_i64 w1
  have ba2 := bounds_i64 w2
  have ba3 := bounds_i64 w3
  exact gaussQuos_walk a0 a1 a2 a3 (by omega) (by omega) (by omega) (by omega) (by omega) (by omega) (by omega) (by omega) w

set_option maxRecDepth 100000 in
theorem lifted (os : Os) (started : os.Started) (H : Type) (enc : TypeId × Value → H) :
    ReturnsInHanded {} Try.checked os 8 .any (Rows.gaussQuosSpec.pre6 enc Try.prog Try.f8 Rows.gaussQuosRow.domain false) (Rows.gaussQuosSpec.post enc Try.prog Try.f8 false true false false) := by
  refine returnsInHanded_of_change (C := Try.checked) own started (by kernel_rfl) Try.func8
    (ChangeSpec.witness6 (enc := enc) (C := Try.checked) false ⟨#[], #[.agg #[.int .i64 0, .int .i64 0, .int .i64 0, .int .i64 0]], []⟩ 8 (by kernel_rfl) (by kernel_rfl) (by kernel_rfl) (by kernel_rfl)) ?_
  intro W base args ds gs before hval0 hW hcnd _
  have hval : ∀ (j : Nat) t v, Try.f8.params[j]? = some t → args[j]? = some v → Value.okWide Try.prog W .any base t v := hval0
  have hW' := hW
  obtain ⟨p, q, hA0, hV, rfl, hfz, hnd⟩ := hW
  have hA : DataW.TrodAll enc Try.prog W 0 (fun _ => true) true Try.f8.params.toList args.toList ds p := hA0
  rw [Try.params8] at hA hval
  obtain ⟨v0, vs0, d0, ds0, p0, q0, hargs, rfl, rfl, h0, r0⟩ := trodAll_cons hA
  obtain ⟨rfl, rfl, rfl⟩ := trodAll_nil r0
  obtain rfl : args = #[v0] := by cases args; simp_all
  obtain ⟨rfl, rfl⟩ := trodVars_none hV
  obtain ⟨s0_0, s0_1, s0_2, s0_3, y0_0, y0_1, y0_2, y0_3, m0, rfl, rfl, rfl, hy0_0, hy0_1, hy0_2, hy0_3⟩ := Joins.open_agg4 Try.underlying38 (by kernel_rfl) cells38 (hval 0 38 v0 rfl rfl) h0
  obtain ⟨a0, e0_0, rfl, w0⟩ := DataW.trod_int Try.underlying3 hy0_0
  obtain ⟨a1, e0_1, rfl, w1⟩ := DataW.trod_int Try.underlying3 hy0_1
  obtain ⟨a2, e0_2, rfl, w2⟩ := DataW.trod_int Try.underlying3 hy0_2
  obtain ⟨a3, e0_3, rfl, w3⟩ := DataW.trod_int Try.underlying3 hy0_3
  simp at e0_0 e0_1 e0_2 e0_3
  subst e0_0 e0_1 e0_2 e0_3
  have two0 : ∀ (W' : World) (sp : Nat → Bool), DataW.Trod enc Try.prog W' 0 sp true 38 (.agg #[.int .i64 a0, .int .i64 a1, .int .i64 a2, .int .i64 a3]) (.agg [.lit (.int .i64 a0), .lit (.int .i64 a1), .lit (.int .i64 a2), .lit (.int .i64 a3)]) [] := fun W' sp =>
    Joins.shut_agg4 (y0 := (.lit (.int .i64 a0), [])) (y1 := (.lit (.int .i64 a1), [])) (y2 := (.lit (.int .i64 a2), [])) (y3 := (.lit (.int .i64 a3), [])) Try.underlying38 (by kernel_rfl) cells38 ⟨1, by simp [DataW.trod, Try.underlying3, w0]⟩ ⟨1, by simp [DataW.trod, Try.underlying3, w1]⟩ ⟨1, by simp [DataW.trod, Try.underlying3, w2]⟩ ⟨1, by simp [DataW.trod, Try.underlying3, w3]⟩
  clear hA0 hval0
  simp only [List.append_nil] at hW'
  refine (walk a0 a1 a2 a3 w0 w1 w2 w3 W).mono fun e W' ⟨he, hg⟩ => ?_
  subst he
  exact ⟨_, rfl, post_of_under (pa := []) (pv := []) hW' (fun _ _ _ => (trodAll_cons_mk (shut_bool Try.underlying4 _) trodAll_mk0)) (fun sp _ => (trodAll_cons_mk (two0 _ sp) trodAll_mk0)) (fun _ _ => rfl) rfl (hg.frame _)⟩

theorem over : Rows.gaussQuosRow.holds Try.pinned (OpenSpec.ofChange Rows.gaussQuosSpec) :=
  OpenClaim.holds_of_wide 8 Try.f8 rfl rfl rfl rfl rfl rfl rfl ⟨rfl, rfl, rfl, rfl, rfl⟩ rfl rfl rfl rfl rfl (by kernel_rfl) Try.func8 (by kernel_rfl)
    (of_decide_eq_true (by kernel_rfl)) (by unfold Func.isWrapper; first | (rw [if_pos (by decide +kernel)]; kernel_rfl) | (rw [if_neg (by decide +kernel)]; exact ⟨rfl, rfl⟩))
    (fun os started H enc _ => lifted os started H enc)

theorem proved : Rows.GaussQuosSaid :=
  over
end Go.Proofs.Ytimgmobpgbekjaa.gaussQuos
