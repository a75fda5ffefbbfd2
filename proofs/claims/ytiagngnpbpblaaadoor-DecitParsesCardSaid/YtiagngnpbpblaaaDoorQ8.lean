/- Digits times a power of ten, as a decimal; a decimal's text is read as the decimal. Plain laws, no program. -/
import Derived.Test.YtiagngnpbpblaaaDoorQ7
namespace Go.Proofs.YtiagngnpbpblaaaDoor
open Go.Lib
set_option linter.unusedSimpArgs false
set_option linter.unusedVariables false

theorem trimR_split (l : List UInt8) : ∃ z, l = trimRightB l 48 ++ List.replicate z 48 := by
  unfold trimRightB
  have h : ∀ m : List UInt8, ∃ z, m = List.replicate z 48 ++ m.dropWhile (· == 48) := by
    intro m
    induction m with
    | nil => exact ⟨0, rfl⟩
    | cons x m ih =>
      by_cases hx : (x == 48) = true
      · obtain ⟨z, hz⟩ := ih
        refine ⟨z + 1, ?_⟩
        rw [List.dropWhile_cons, if_pos hx, List.replicate_succ, List.cons_append, ← hz, beq_iff_eq.1 hx]
      · exact ⟨0, by rw [List.dropWhile_cons, if_neg hx]; rfl⟩
  obtain ⟨z, hz⟩ := h l.reverse
  refine ⟨z, ?_⟩
  have h2 := congrArg List.reverse hz
  rw [List.reverse_reverse, List.reverse_append, List.reverse_replicate] at h2
  exact h2
end Go.Proofs.YtiagngnpbpblaaaDoor
