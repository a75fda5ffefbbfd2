/- WideTimes, WideSums, WideShifts, WideDivs, WideTexts, WideLaws: the walks with what the contracts compute. Condition: the table of powers of 10 is laid. -/
import Derived.Test.YtiagngnpbpblaaaDoorWd5
import Derived.Test.YtiagngnpbpblaaaDoorWd6
import Derived.Outline
import Derived.Test.YtiagngnpbpblaaaDoorRAdd
import Derived.IntWalk
import Derived.Laws.Bits64
import Derived.Test.YtiagngnpbpblaaaDoorRDiv
import Derived.StillTailTactics
import Derived.Test.YtiagngnpbpblaaaDoorRParse
namespace Go.Proofs.YtiagngnpbpblaaaDoor
open Go.RowKit
set_option linter.unusedSimpArgs false
set_option linter.unusedVariables false

theorem wideParse_any (s : ByteArray) (hs : s.size ≤ maxLen) (w : World) :
    Calls Tryd.prog 13 #[.string s] w fun e w' =>
      e = .returned (.tuple #[.agg #[.int .u64 (pV (parseOf s.data.toList) / 18446744073709551616), .int .u64 (pV (parseOf s.data.toList) % 18446744073709551616)], .bool (parseOf s.data.toList).isSome]) ∧ Below w.heap.size w w' := by
  have hlen : s.data.toList.length = s.size := by simp
  by_cases hx : s.size = 0 ∨ 39 < s.size ∨ (1 < s.size ∧ ∀ h : 0 < s.size, (s[0]'h).toNat = 48)
  · have hno : parseOf s.data.toList = none := by
      rcases hx with h | h | ⟨h1, h2⟩
      · rw [List.eq_nil_of_length_eq_zero (hlen.trans h)]; exact parseOf_nil
      · exact parseOf_long (by omega)
      · refine parseOf_nought (by omega) ?_
        rw [head_of s (by omega)]
        congr 1
        exact UInt8.toNat_inj.1 (h2 (by omega))
    rw [hno]
    exact wideParse_none s hs hx w
  · have hp : 0 < s.size := Nat.pos_of_ne_zero fun h => hx (Or.inl h)
    have h39 : s.size ≤ 39 := Nat.le_of_not_lt fun h => hx (Or.inr (Or.inl h))
    refine wideParse_some s h39 hp ?_ w
    by_cases h1 : s.size = 1
    · exact Or.inl h1
    · refine Or.inr fun h2 => ?_
      have h3 : ∀ h : 0 < s.size, (s[0]'h).toNat = 48 := fun _ => h2
      exact hx (Or.inr (Or.inr ⟨Nat.lt_of_le_of_ne hp (Ne.symm h1), h3⟩))
end Go.Proofs.YtiagngnpbpblaaaDoor
