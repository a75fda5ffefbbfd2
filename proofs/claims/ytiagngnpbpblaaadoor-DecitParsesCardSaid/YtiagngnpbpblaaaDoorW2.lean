/- Contracts of the reference's Digits and Int. No condition. -/
import Derived.Test.YtiagngnpbpblaaaDoorProg
import Derived.Test.YtiagngnpbpblaaaDoorAid
import Derived.Test.YtiagngnpbpblaaaDoorLex2
import Derived.Lib.ParseIntB
import Derived.Outline
namespace Go.Proofs.YtiagngnpbpblaaaDoor
open Go.RowKit
set_option linter.unusedSimpArgs false
set_option linter.unusedVariables false

theorem conv_one (W : World) (n : Int) :
    (convert 62 9 (.slice (some ⟨W.heap.size, 0, none⟩) 1 1)).run Tryd.prog (W.alloc (.cells #[.int .u8 n] 5)) = .ok (.string ⟨#[UInt8.ofNat n.toNat]⟩) (W.alloc (.cells #[.int .u8 n] 5)) := by
  have h := run_convert_bytes_arg (P := Tryd.prog) (W.alloc (.cells #[.int .u8 n] 5)) 62 5 Tryd.underlying62 Tryd.underlying5 W.heap.size 0 1 1 [n] rfl (fun i hi => by
    obtain rfl : i = 0 := by omega
    simp) 9 Tryd.underlying9
  rw [h]; rfl
theorem ret_sb {a b : ByteArray} (h : a = b) : Ending.returned (.string a) = .returned (.string b) := by rw [h]
theorem one_cat (x : UInt8) (t : ByteArray) : (⟨#[x]⟩ : ByteArray) ++ t = ⟨(x :: t.data.toList).toArray⟩ := ByteArray.ext (by simp)
end Go.Proofs.YtiagngnpbpblaaaDoor
