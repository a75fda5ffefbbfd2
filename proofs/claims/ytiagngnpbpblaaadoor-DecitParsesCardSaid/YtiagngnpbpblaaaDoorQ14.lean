/- strings.IndexAny(t, "eE") of any text t. -/
import Derived.Test.YtiagngnpbpblaaaDoorQ4
import Derived.Test.YtiagngnpbpblaaaDoorQ13
namespace Go.Proofs.YtiagngnpbpblaaaDoor
open Go.RowKit
set_option linter.unusedSimpArgs false
set_option linter.unusedVariables false

theorem idx_any (t : ByteArray) (hs : t.size ≤ 100000) : IdxT t := fun w => by
  have h116 : (Tryd.prog.info? (Tryd.lays153_ren.t 116)).map (fun i => (i.zero, i.size)) = some (some (.agg (Array.replicate 256 (.bool false))), 256) := by kernel_rfl
  by_cases h8 : t.size ≤ 8
  · exact idxAny_short Tryd.lays153 t w h8
  · refine (Any.strings_IndexAny_long Tryd.lays153 (zero_of_info h116).1 (zero_of_info h116).2 t { data := #[101, 69] } w (by decide) (by omega) (by omega) (by decide) ascii_eE).mono fun e w' ⟨h1, h2⟩ => ⟨h1, ?_⟩
    rw [h2]
    exact ((Below.refl _ _).alloc (Nat.le_refl _) _).alloc (by simp) _
end Go.Proofs.YtiagngnpbpblaaaDoor
