/- Contracts of wide.Cmp and the reference's Cmp on numbers of 128 bits. No condition. -/
import Derived.Test.YtiagngnpbpblaaaDoorProg
import Derived.Test.YtiagngnpbpblaaaDoorAid
namespace Go.Proofs.YtiagngnpbpblaaaDoor
open Go.RowKit
set_option linter.unusedSimpArgs false
set_option linter.unusedVariables false

def wCmp (h l g k : Int) : Int := if h = g ∧ l = k then 0 else if h < g ∨ (h = g ∧ l < k) then -1 else 1
theorem ret_i {k : IntKind} {a b : Int} (h : a = b) : Ending.returned (.int k a) = .returned (.int k b) := by rw [h]

set_option maxRecDepth 100000 in
set_option maxHeartbeats 400000 in
theorem wideCmp_any (h l g k : Int) (w : World) :
    Calls Tryd.prog 18 #[.agg #[.int .u64 h, .int .u64 l], .agg #[.int .u64 g, .int .u64 k]] w fun e w' => e = .returned (.int .i64 (wCmp h l g k)) ∧ Below w.heap.size w w' := by
  go_enter Tryd.func18, Tryd.ntmps18
  go_wp2_with fail
  all_goals go_ret
  all_goals exact ⟨ret_i (by unfold wCmp; (repeat' split) <;> omega), by go_grown⟩

set_option maxRecDepth 100000 in
set_option maxHeartbeats 400000 in
theorem refWCmp_any (h l g k : Int) (w : World) :
    Calls Tryd.prog 46 #[.agg #[.int .u64 h, .int .u64 l], .agg #[.int .u64 g, .int .u64 k]] w fun e w' => e = .returned (.int .i64 (wCmp h l g k)) ∧ Below w.heap.size w w' := by
  go_enter Tryd.func46, Tryd.ntmps46
  go_wp2_with fail
  all_goals go_ret
  all_goals exact ⟨ret_i (by unfold wCmp; (repeat' split) <;> omega), by go_grown⟩

set_option maxRecDepth 100000 in
set_option maxHeartbeats 400000 in
theorem limbs_at (h l : Int) (h0 : 0 ≤ h) (h1 : h ≤ 18446744073709551615) (l0 : 0 ≤ l) (l1 : l ≤ 18446744073709551615) (w : World) :
    Calls Tryd.prog 65 #[.agg #[.int .u64 h, .int .u64 l]] w fun e w' => e = .returned (.agg #[.int .u64 (l % 4294967296), .int .u64 (l / 4294967296), .int .u64 (h % 4294967296), .int .u64 (h / 4294967296)]) ∧
      w' = (w.alloc (.cells #[.int .u64 h, .int .u64 l] 31)).alloc (.cells #[.int .u64 (l % 4294967296), .int .u64 (l / 4294967296), .int .u64 (h % 4294967296), .int .u64 (h / 4294967296)] 94) := by
  go_enter Tryd.func65, Tryd.ntmps65
  go_wp2_with fail
  go_returns
  exact ⟨rfl, rfl⟩
theorem limbs_any (h l : Int) (h0 : 0 ≤ h) (h1 : h ≤ 18446744073709551615) (l0 : 0 ≤ l) (l1 : l ≤ 18446744073709551615) (w : World) :
    Calls Tryd.prog 65 #[.agg #[.int .u64 h, .int .u64 l]] w fun e w' => e = .returned (.agg #[.int .u64 (l % 4294967296), .int .u64 (l / 4294967296), .int .u64 (h % 4294967296), .int .u64 (h / 4294967296)]) ∧ Below w.heap.size w w' :=
  (limbs_at h l h0 h1 l0 l1 w).mono fun e w' ⟨he, hw⟩ => ⟨he, by rw [hw]; exact ((Below.refl _ _).alloc (Nat.le_refl _) _).alloc (by simp) _⟩

set_option maxRecDepth 100000 in
set_option maxHeartbeats 400000 in
theorem refwide_any (a b c d x y : Int) (ha : 0 ≤ a) (ha' : a ≤ 4294967295) (hb : 0 ≤ b) (hb' : b ≤ 4294967295) (hc : 0 ≤ c) (hc' : c ≤ 4294967295) (hd : 0 ≤ d) (hd' : d ≤ 4294967295) (w : World) :
    Calls Tryd.prog 66 #[.agg #[.int .u64 a, .int .u64 b, .int .u64 c, .int .u64 d, .int .u64 x, .int .u64 y]] w fun e w' => e = .returned (.agg #[.int .u64 (d * 4294967296 + c), .int .u64 (b * 4294967296 + a)]) ∧
      w' = (w.alloc (.cells #[.int .u64 a, .int .u64 b, .int .u64 c, .int .u64 d, .int .u64 x, .int .u64 y] 97)).alloc (.cells #[.int .u64 (d * 4294967296 + c), .int .u64 (b * 4294967296 + a)] 31) := by
  go_enter Tryd.func66, Tryd.ntmps66
  go_wp2_with fail
  go_returns
  exact ⟨rfl, rfl⟩
end Go.Proofs.YtiagngnpbpblaaaDoor
