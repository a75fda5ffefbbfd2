/- Contracts of when.put: a number's digits, noughts ahead. Condition: it has no more digits; when.put: the table of powers of 10 is laid. -/
import Derived.Test.YtogmmhacjndebaaDoorTab
import Derived.Test.YtogmmhacjndebaaDoorProg
import Derived.Test.YtogmmhacjndebaaDoorAid
import Derived.Lib.ItoaNum
import Derived.Test.YtogmmhacjndebaaDoorNum
import Derived.Lib.ParseIntB
import Derived.Outline
import Derived.Test.YtogmmhacjndebaaDoorCal
import Derived.Test.YtogmmhacjndebaaDoorShelf
import Derived.Lib.AppendIntMem
namespace Go.Proofs.YtogmmhacjndebaaDoor
open Go.RowKit Go.Sort Go.Lib
set_option linter.unusedSimpArgs false
set_option linter.unusedVariables false

abbrev PowTab (w : World) : Prop := Lib.TabIs Tryd.prog w "internal/strconv.uint64pow10" .u64 Lib.pow10Tab
theorem itoa_any (n : Int) (n0 : 0 ≤ n) (n1 : n ≤ 9223372036854775807) (w : World) (ht : PowTab w) :
    Calls Tryd.prog 26 #[.int .i64 n] w fun e w' => e = .returned (.string ⟨(Lib.decDigits n.toNat).toArray⟩) ∧ Below w.heap.size w w' := by
  refine (Tryd.strconv_Itoa n (by omega) n1 w ht).mono ?_
  rintro e w' ⟨rfl, k, os, rfl⟩
  refine ⟨?_, below_grow _ w (Nat.le_refl _) k os⟩
  unfold Lib.itoa
  rw [if_neg (by omega)]

end Go.Proofs.YtogmmhacjndebaaDoor
