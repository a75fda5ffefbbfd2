/- DeciBack holds: for every input the law returns true, and each argument reads as it read before. No condition beyond the given row's. (The frame follows the kit's proof-skeleton.) -/
import Derived.Test.YtpbfbgkiamfodaaRows
import Derived.WalkKit
import Derived.ProofKit
import Derived.OpenShut
import Derived.Lib.SmallJoins
import Derived.Test.YtpbfbgkiamfodaaPost
import Derived.Test.YtpbfbgkiamfodaaDec11
namespace Go.Proofs.Ytpbfbgkiamfodaa.deciBack
open Go.ChangeShapes Go.WideShapes Go.ChangeAt Go.RowKit
set_option linter.unusedVariables false

theorem own : ownKnob Try.prog.godebug = none := by kernel_rfl
theorem cells32 : Try.prog.cellsOf 32 = 2 := by kernel_rfl

theorem walk (a0 : Bool) (a1 : Int) (a2 : Int) (a3 : Int) (w1 : (Lit.int .u64 a1).wf = true) (w2 : (Lit.int .u64 a2).wf = true) (w3 : (Lit.int .i64 a3).wf = true) (w : World) :
    Calls Try.prog 9 #[.bool a0, .agg #[.int .u64 a1, .int .u64 a2], .int .i64 a3] w fun e w' => e = .returned (.bool true) ∧ Below w.heap.size w w' := by
  have ba1 := bounds_u64 w1
  have ba2 := bounds_u64 w2
  have ba3 := bounds_i64 w3
  exact deciBack_walk a0 a1 a2 a3 (by omega) (by omega) (by omega) (by omega) (by omega) (by omega) w

set_option maxRecDepth 100000 in
theorem lifted (os : Os) (started : os.Started) (H : Type) (enc : TypeId × Value → H) :
    ReturnsInHanded {} Try.checked os 9 .any (Rows.deciBackSpec.pre6 enc Try.prog Try.f9 Rows.deciBackRow.domain false) (Rows.deciBackSpec.post enc Try.prog Try.f9 false true false false) := by
  refine returnsInHanded_of_change (C := Try.checked) own started (by kernel_rfl) Try.func9
    (ChangeSpec.witness6 (enc := enc) (C := Try.checked) false ⟨#[], #[.bool false, .agg #[.int .u64 0, .int .u64 0], .int .i64 0], []⟩ 8 (by kernel_rfl) (by kernel_rfl) (by kernel_rfl) (by kernel_rfl)) ?_
  intro W base args ds gs before hval0 hW hcnd _
  have hval : ∀ (j : Nat) t v, Try.f9.params[j]? = some t → args[j]? = some v → Value.okWide Try.prog W .any base t v := hval0
  have hW' := hW
  obtain ⟨p, q, hA0, hV, rfl, hfz, hnd⟩ := hW
  have hA : DataW.TrodAll enc Try.prog W 0 (fun _ => true) true Try.f9.params.toList args.toList ds p := hA0
  rw [Try.params9] at hA hval
  obtain ⟨v0, vs0, d0, ds0, p0, q0, hargs, rfl, rfl, h0, r0⟩ := trodAll_cons hA
  obtain ⟨v1, vs1, d1, ds1, p1, q1, rfl, rfl, rfl, h1, r1⟩ := trodAll_cons r0
  obtain ⟨v2, vs2, d2, ds2, p2, q2, rfl, rfl, rfl, h2, r2⟩ := trodAll_cons r1
  obtain ⟨rfl, rfl, rfl⟩ := trodAll_nil r2
  obtain rfl : args = #[v0, v1, v2] := by cases args; simp_all
  obtain ⟨rfl, rfl⟩ := trodVars_none hV
  obtain ⟨a0, rfl, rfl, rfl⟩ := open_bool Try.underlying4 (hval 0 4 v0 rfl rfl) h0
  obtain ⟨s1_0, s1_1, y1_0, y1_1, m1, rfl, rfl, rfl, hy1_0, hy1_1⟩ := Joins.open_agg2 Try.underlying32 (by kernel_rfl) cells32 (hval 1 32 v1 rfl rfl) h1
  obtain ⟨a1, e1_0, rfl, w1⟩ := DataW.trod_int Try.underlying22 hy1_0
  obtain ⟨a2, e1_1, rfl, w2⟩ := DataW.trod_int Try.underlying22 hy1_1
  simp at e1_0 e1_1
  subst e1_0 e1_1
  have two1 : ∀ (W' : World) (sp : Nat → Bool), DataW.Trod enc Try.prog W' 0 sp true 32 (.agg #[.int .u64 a1, .int .u64 a2]) (.agg [.lit (.int .u64 a1), .lit (.int .u64 a2)]) [] := fun W' sp =>
    Joins.shut_agg2 (y0 := (.lit (.int .u64 a1), [])) (y1 := (.lit (.int .u64 a2), [])) Try.underlying32 (by kernel_rfl) cells32 ⟨1, by simp [DataW.trod, Try.underlying22, w1]⟩ ⟨1, by simp [DataW.trod, Try.underlying22, w2]⟩
  obtain ⟨a3, rfl, rfl, rfl, w3⟩ := open_int Try.underlying3 (hval 2 3 v2 rfl rfl) h2
  clear hA0 hval0
  simp only [List.append_nil] at hW'
  refine (walk a0 a1 a2 a3 w1 w2 w3 W).mono fun e W' ⟨he, hg⟩ => ?_
  subst he
  exact ⟨_, rfl, post_of_under (pa := []) (pv := []) hW' (fun _ _ _ => (trodAll_cons_mk (shut_bool Try.underlying4 _) trodAll_mk0)) (fun sp _ => (trodAll_cons_mk (shut_bool Try.underlying4 _) (trodAll_cons_mk (two1 _ sp) (trodAll_cons_mk (shut_int Try.underlying3 w3) trodAll_mk0)))) (fun _ _ => rfl) rfl (hg.frame _)⟩

theorem over : Rows.deciBackRow.holds Try.pinned (OpenSpec.ofChange Rows.deciBackSpec) :=
  OpenClaim.holds_of_wide 9 Try.f9 rfl rfl rfl rfl rfl rfl rfl ⟨rfl, rfl, rfl, rfl, rfl⟩ rfl rfl rfl rfl rfl (by kernel_rfl) Try.func9 (by kernel_rfl)
    (of_decide_eq_true (by kernel_rfl)) (by unfold Func.isWrapper; first | (rw [if_pos (by decide +kernel)]; kernel_rfl) | (rw [if_neg (by decide +kernel)]; exact ⟨rfl, rfl⟩))
    (fun os started H enc _ => lifted os started H enc)

theorem proved : Rows.DeciBackSaid :=
  over
end Go.Proofs.Ytpbfbgkiamfodaa.deciBack
