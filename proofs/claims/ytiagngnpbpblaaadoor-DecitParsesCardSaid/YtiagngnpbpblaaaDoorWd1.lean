/- Contracts of package wide: Of, Add, Sub, Times. No condition. -/
import Derived.Test.YtiagngnpbpblaaaDoorRSub
import Derived.Shelf.Spec.BitsCarry
namespace Go.Proofs.YtiagngnpbpblaaaDoor
open Go.RowKit
set_option linter.unusedSimpArgs false
set_option linter.unusedVariables false

theorem add64_eq (x y c : Int) (hx : 0 ≤ x) (hy : 0 ≤ y) (c0 : 0 ≤ c) (c1 : c ≤ 1) (w : World) :
    (callFunc 64 #[.int .u64 x, .int .u64 y, .int .u64 c]).run Tryd.prog w = .ok (.value (.tuple #[.int .u64 ((x + y + c) % 18446744073709551616), .int .u64 ((x + y + c) / 18446744073709551616)])) w := by
  rw [run_callFunc_extern Tryd.func64 (by kernel_rfl) (by kernel_rfl) (by kernel_rfl) (e := add64Entry) (by kernel_rfl), run_add64 x y c hx hy c0 c1]
  rfl
set_option maxRecDepth 100000 in
set_option maxHeartbeats 400000 in
theorem wideOf_any (v : Int) (w : World) : Calls Tryd.prog 41 #[.int .u64 v] w fun e w' => e = .returned (.agg #[.int .u64 0, .int .u64 v]) ∧ Below w.heap.size w w' := by
  go_enter Tryd.func41, Tryd.ntmps41
  go_wp2_with fail
  refine bodyPost_ret (v := .agg #[.int .u64 0, .int .u64 v]) (by simp (maxDischargeDepth := 6) [results, Tryd.results41, go_sem]) rfl ?_
  exact ⟨rfl, by repeat' (first | (with_reducible assumption) | (with_reducible exact Below.refl _ _) | (with_reducible refine below_drewN ?_ _) | (with_reducible refine Below.drew ?_) | (with_reducible refine Below.setCell ?_ ?_ _) | (with_reducible refine Below.alloc ?_ ?_ _) | omega | (simp; done) | (simp; omega))⟩
set_option maxRecDepth 100000 in
set_option maxHeartbeats 800000 in
theorem wideAdd_walk (h l g k s c t d : Int) (A1 : ∀ w, (callFunc 64 #[.int .u64 l, .int .u64 k, .int .u64 0]).run Tryd.prog w = .ok (.value (.tuple #[.int .u64 s, .int .u64 c])) w)
    (A2 : ∀ w, (callFunc 64 #[.int .u64 h, .int .u64 g, .int .u64 c]).run Tryd.prog w = .ok (.value (.tuple #[.int .u64 t, .int .u64 d])) w) (w : World) :
    Calls Tryd.prog 40 #[.agg #[.int .u64 h, .int .u64 l], .agg #[.int .u64 g, .int .u64 k]] w fun e w' => e = .returned (.tuple #[.agg #[.int .u64 t, .int .u64 s], .bool (d != 0)]) ∧ Below w.heap.size w w' := by
  go_enter Tryd.func40, Tryd.ntmps40
  go_wp2_with fail
  refine bodyPost_ret (v := .tuple #[.agg #[.int .u64 t, .int .u64 s], .bool (d != 0)]) (by simp (maxDischargeDepth := 6) [results, Tryd.results40, go_sem]) rfl ?_
  exact ⟨rfl, by repeat' (first | (with_reducible assumption) | (with_reducible exact Below.refl _ _) | (with_reducible refine below_drewN ?_ _) | (with_reducible refine Below.drew ?_) | (with_reducible refine Below.setCell ?_ ?_ _) | (with_reducible refine Below.alloc ?_ ?_ _) | omega | (simp; done) | (simp; omega))⟩
theorem wideAdd_any (h l g k : Int) (h0 : 0 ≤ h) (h1 : h ≤ 18446744073709551615) (l0 : 0 ≤ l) (l1 : l ≤ 18446744073709551615) (g0 : 0 ≤ g) (g1 : g ≤ 18446744073709551615) (k0 : 0 ≤ k) (k1 : k ≤ 18446744073709551615) (w : World) :
    Calls Tryd.prog 40 #[.agg #[.int .u64 h, .int .u64 l], .agg #[.int .u64 g, .int .u64 k]] w fun e w' =>
      e = .returned (.tuple #[.agg #[.int .u64 (wHigh (wV h l + wV g k)), .int .u64 (wLow (wV h l + wV g k))], .bool (decide (0 < wOver (wV h l + wV g k)))]) ∧ Below w.heap.size w w' := by
  obtain ⟨c, hc⟩ : ∃ c, (l + k + 0) / 18446744073709551616 = c := ⟨_, rfl⟩
  have hc2 : 0 ≤ c ∧ c ≤ 1 := by omega
  obtain ⟨s, hs⟩ : ∃ s, (l + k + 0) % 18446744073709551616 = s := ⟨_, rfl⟩
  obtain ⟨d, hd⟩ : ∃ d, (h + g + c) / 18446744073709551616 = d := ⟨_, rfl⟩
  obtain ⟨t, ht⟩ : ∃ t, (h + g + c) % 18446744073709551616 = t := ⟨_, rfl⟩
  have A1 := fun w => add64_eq l k 0 l0 k0 (by decide) (by decide) w
  have A2 := fun w => add64_eq h g c h0 g0 hc2.1 hc2.2 w
  rw [hc, hs] at A1
  rw [hd, ht] at A2
  have hp := parts_of (wV h l + wV g k) s t d (by omega) (by omega) (by omega) (by omega) (by unfold wV; omega)
  refine (wideAdd_walk h l g k s c t d A1 A2 w).mono ?_
  rintro e w' ⟨rfl, hb⟩
  refine ⟨ret_sub hp.2.1 hp.1 ?_, hb⟩
  rw [← hp.2.2]
  by_cases hd0 : d = 0
  · subst hd0; rfl
  · rw [decide_eq_true (show 0 < d by omega)]; exact bne_iff_ne.2 hd0
end Go.Proofs.YtiagngnpbpblaaaDoor
