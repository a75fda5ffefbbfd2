/- Contracts of the reference's Digits and Int. No condition. -/
import Derived.Test.YtoidmnleedkbiaaDoorProg
import Derived.Test.YtoidmnleedkbiaaDoorAid
import Derived.Test.YtoidmnleedkbiaaDoorPin
import Derived.Outline
namespace Go.Proofs.YtoidmnleedkbiaaDoor
open Go.RowKit
set_option linter.unusedSimpArgs false
set_option linter.unusedVariables false

theorem ret_sb {a b : ByteArray} (h : a = b) : Ending.returned (.string a) = .returned (.string b) := by rw [h]
end Go.Proofs.YtoidmnleedkbiaaDoor
