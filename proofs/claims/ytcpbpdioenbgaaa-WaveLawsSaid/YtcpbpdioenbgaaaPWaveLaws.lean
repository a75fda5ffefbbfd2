/- WaveLaws holds: for every input the law returns true, and each argument reads as it read before. No condition beyond the given row's. (The frame follows the kit's proof-skeleton.) -/
import Derived.Test.YtcpbpdioenbgaaaRows
import Derived.WalkKit
import Derived.ProofKit
import Derived.OpenShut
import Derived.Test.YtcpbpdioenbgaaaBack
import Derived.Test.YtcpbpdioenbgaaaWv8j
namespace Go.Proofs.Ytcpbpdioenbgaaa.waveLaws
open Go.ChangeShapes Go.WideShapes Go.ChangeAt Go.RowKit
set_option linter.unusedVariables false

theorem own : ownKnob Try.prog.godebug = none := by kernel_rfl
theorem laidOut : laidOutB Try.prog = true := by kernel_rfl
theorem cells3 : Try.prog.cellsOf 3 = 1 := by kernel_rfl
theorem reads : ∀ t ∈ Try.f3.params.toList, Try.prog.readableRec t = true ∧ t < Try.prog.types.size := by
  have h : Try.f3.params.toList.all (fun t => Try.prog.readableRec t && decide (t < Try.prog.types.size)) = true := by kernel_rfl
  intro t ht
  have h1 := List.all_eq_true.1 h t ht
  rw [Bool.and_eq_true, decide_eq_true_eq] at h1
  exact h1

set_option maxRecDepth 100000 in
theorem lifted (os : Os) (started : os.Started) (H : Type) (enc : TypeId × Value → H) :
    ReturnsInHanded {} Try.checked os 3 .any (Rows.waveLawsSpec.pre6 enc Try.prog Try.f3 Rows.waveLawsRow.domain false) (Rows.waveLawsSpec.post enc Try.prog Try.f3 false true false false) := by
  refine returnsInHanded_of_change (C := Try.checked) own started (by kernel_rfl) Try.func3
    (ChangeSpec.witness6 (enc := enc) (C := Try.checked) false ⟨#[], #[.slice none 0 0, .slice none 0 0, .slice none 0 0], []⟩ 8 (by kernel_rfl) (by kernel_rfl) (by kernel_rfl) (by kernel_rfl)) ?_
  intro W base args ds gs before hval0 hW hcnd _
  have hval : ∀ (j : Nat) t v, Try.f3.params[j]? = some t → args[j]? = some v → Value.okWide Try.prog W .any base t v := hval0
  have hW' := hW
  obtain ⟨p, q, hA0, hV, rfl, hfz, hnd⟩ := hW
  have hA : DataW.TrodAll enc Try.prog W 0 (fun _ => true) true Try.f3.params.toList args.toList ds p := hA0
  have hAk := hA
  rw [Try.params3] at hA hval
  obtain ⟨v0, vs0, d0, ds0, p0, q0, hargs, rfl, rfl, h0, r0⟩ := trodAll_cons hA
  obtain ⟨v1, vs1, d1, ds1, p1, q1, rfl, rfl, rfl, h1, r1⟩ := trodAll_cons r0
  obtain ⟨v2, vs2, d2, ds2, p2, q2, rfl, rfl, rfl, h2, r2⟩ := trodAll_cons r1
  obtain ⟨rfl, rfl, rfl⟩ := trodAll_nil r2
  obtain rfl : args = #[v0, v1, v2] := by cases args; simp_all
  obtain ⟨rfl, rfl⟩ := trodVars_none hV
  obtain ⟨ad0, n0, c0, f0, rfl, hle0, hmx0, hS0, wf0⟩ := ints_open Try.underlying22 Try.underlying3 cells3 (hval 0 22 v0 rfl rfl) h0
  obtain ⟨ad1, n1, c1, f1, rfl, hle1, hmx1, hS1, wf1⟩ := ints_open Try.underlying22 Try.underlying3 cells3 (hval 1 22 v1 rfl rfl) h1
  obtain ⟨ad2, n2, c2, f2, rfl, hle2, hmx2, hS2, wf2⟩ := ints_open Try.underlying22 Try.underlying3 cells3 (hval 2 22 v2 rfl rfl) h2
  clear hA0 hval0
  refine (waveLaws_walk ad0 n0 c0 f0 ad1 n1 c1 f1 ad2 n2 c2 f2 W hS0 (Nat.le_trans hle0 hmx0) (fun i hi => bounds_i64 (wf0 i hi)) hS1 (Nat.le_trans hle1 hmx1) (fun i hi => bounds_i64 (wf1 i hi)) hS2 (Nat.le_trans hle2 hmx2) (fun i hi => bounds_i64 (wf2 i hi))).mono fun e W' ⟨he, hg⟩ => ?_
  subst he
  exact ⟨_, rfl, post_of_under (pv := []) hW' (fun _ _ _ => (trodAll_cons_mk (shut_bool Try.underlying4 _) trodAll_mk0)) (fun sp hsp => back_all laidOut hg reads hAk (fun x hx => hW'.lt x (List.mem_append_left _ hx)) (fun x hx => hsp x (List.mem_append_left _ hx))) (fun _ _ => rfl) rfl (hg.frame _)⟩

theorem over : Rows.waveLawsRow.holds Try.pinned (OpenSpec.ofChange Rows.waveLawsSpec) :=
  OpenClaim.holds_of_wide 3 Try.f3 rfl rfl rfl rfl rfl rfl rfl ⟨rfl, rfl, rfl, rfl, rfl⟩ rfl rfl rfl rfl rfl (by kernel_rfl) Try.func3 (by kernel_rfl)
    (of_decide_eq_true (by kernel_rfl)) (by unfold Func.isWrapper; first | (rw [if_pos (by decide +kernel)]; kernel_rfl) | (rw [if_neg (by decide +kernel)]; exact ⟨rfl, rfl⟩))
    (fun os started H enc _ => lifted os started H enc)

theorem proved : Rows.WaveLawsSaid :=
  over
end Go.Proofs.Ytcpbpdioenbgaaa.waveLaws
