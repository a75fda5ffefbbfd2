/- Contracts of package wave: digits; the reference's SameInts. Conditions: as each says. -/
import Derived.Test.YthaphecoalepgaaDoorProg
import Derived.Test.YthaphecoalepgaaDoorAid
import Derived.Test.YthaphecoalepgaaDoorFl
import Derived.Laws.Externs
import GoSem.Extern.MathFloor
import Derived.Test.YthaphecoalepgaaDoorRow
import Derived.Test.YthaphecoalepgaaDoorSl
namespace Go.Proofs.YthaphecoalepgaaDoor
open Go.RowKit
set_option linter.unusedSimpArgs false
set_option linter.unusedVariables false

set_option maxRecDepth 100000 in
set_option maxHeartbeats 800000 in
theorem sameInts_yes (ad bd : Option Addr) (n c d : Nat) (f : Nat → Int) (w : World) (hn : n ≤ 1000000) (hS : Sl .i64 w ad n f) (hT : Sl .i64 w bd n f) :
    Calls Tryd.prog 25 #[.slice ad n c, .slice bd n d] w fun e w' => e = .returned (.bool true) ∧ ∃ m, w' = w.drewN m := by
  replace hS := Lib.hid hS
  replace hT := Lib.hid hT
  go_enter Tryd.func25, Tryd.ntmps25
  go_wp2_with fail
  go_loopw [5] (fun k wr => ∃ K : Nat, K ≤ n ∧ k = .int .i64 K ∧ ∃ m, wr = w.drewN m) (fun k _ => n - (intOf k).toNat)
  case atStart => exact ⟨0, by omega, rfl, 0, rfl⟩
  case round =>
    obtain ⟨K, hK, rfl, m, rfl⟩ := hrel
    by_cases hK4 : K < n
    · obtain ⟨a, rfl, hl, hc⟩ := hS.out K hK4
      obtain ⟨b, rfl, hl2, hc2⟩ := hT.out K hK4
      have k0 : (0 : Int) ≤ (K : Int) := by omega
      have k1 : (K : Int) < (n : Int) := by omega
      go_wp2_with fail
      go_quiet (fail)
      go_wp2_with fail
      go_roundw
      case rel => exact ⟨K + 1, by omega, by go_num, _, rfl⟩
      case measure => simp [intOf]; omega
    · go_wp2_with fail
      go_ret
      exact ⟨rfl, _, rfl⟩
end Go.Proofs.YthaphecoalepgaaDoor
