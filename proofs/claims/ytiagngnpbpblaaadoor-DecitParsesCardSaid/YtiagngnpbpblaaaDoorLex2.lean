/- Plain laws of JSON's numbers as texts: what follows a number's text. No program. -/
import Derived.Test.YtiagngnpbpblaaaDoorLex
import Derived.Test.YtiagngnpbpblaaaDoorNum
namespace Go.Proofs.YtiagngnpbpblaaaDoor
open Go.Lib
set_option linter.unusedSimpArgs false
set_option linter.unusedVariables false

theorem runL_of_not {x : UInt8} {m : List UInt8} (h : isD x = false) : runL (x :: m) = 0 := by
  show (if isD x then runL m + 1 else 0) = 0
  rw [h]; rfl
/-- A text is its run of digits and a rest that begins with none. -/
theorem run_split : ∀ l : List UInt8, ∃ m r, l = m ++ r ∧ m.all isD = true ∧ runL r = 0 ∧ runL l = m.length ∧ l.drop (runL l) = r
  | [] => ⟨[], [], rfl, rfl, rfl, rfl, rfl⟩
  | x :: l => by
    by_cases hx : isD x = true
    · obtain ⟨m, r, e, ha, hr, hl, hd⟩ := run_split l
      refine ⟨x :: m, r, by rw [e]; rfl, by rw [List.all_cons, hx, ha]; rfl, hr, ?_, ?_⟩
      · show (if isD x then runL l + 1 else 0) = _
        rw [if_pos hx, hl]; rfl
      · show (x :: l).drop (if isD x then runL l + 1 else 0) = r
        rw [if_pos hx, List.drop_succ_cons, hd]
    · have hx' : isD x = false := by simpa using hx
      exact ⟨[], x :: l, rfl, rfl, runL_of_not hx', runL_of_not hx', by rw [runL_of_not hx']; rfl⟩
end Go.Proofs.YtiagngnpbpblaaaDoor
