/- Contract of wide.Times. No condition. -/
import Derived.Test.YtiagngnpbpblaaaDoorWd1
namespace Go.Proofs.YtiagngnpbpblaaaDoor
open Go.RowKit
set_option linter.unusedSimpArgs false
set_option linter.unusedVariables false
set_option maxRecDepth 100000 in
set_option maxHeartbeats 400000 in
theorem wideMul_at (x y p q : Int) (hx0 : 0 ≤ x) (hx : x ≤ 18446744073709551615) (hy0 : 0 ≤ y) (hy : y ≤ 18446744073709551615) (hp : x * y / 18446744073709551616 = p) (hq : x * y % 18446744073709551616 = q) (w : World) :
    Calls Tryd.prog 48 #[.int .u64 x, .int .u64 y] w fun e w' => e = .returned (.agg #[.int .u64 p, .int .u64 q]) ∧ w' = w.alloc (.cells #[.int .u64 p, .int .u64 q] 31) := by
  have HM := Lib.hid (fun w => mul64_any x y hx0 hx hy0 hy w)
  rw [hp, hq] at HM
  clear hp hq
  go_enter Tryd.func48, Tryd.ntmps48
  go_wp2_with fail
  with_reducible refine (HM.out _).mono ?_
  rintro e w' ⟨rfl, rfl⟩
  go_wp2_with fail
  go_returns
  exact ⟨rfl, rfl⟩
set_option maxRecDepth 100000 in
set_option maxHeartbeats 3200000 in
theorem wideTimes_walk (h l b pH pL qH qL s c : Int) (M1 : Hid (∀ w, Calls Tryd.prog 48 #[.int .u64 l, .int .u64 b] w fun e w' => e = .returned (.agg #[.int .u64 pH, .int .u64 pL]) ∧ w' = w.alloc (.cells #[.int .u64 pH, .int .u64 pL] 31)))
    (M2 : Hid (∀ w, Calls Tryd.prog 48 #[.int .u64 h, .int .u64 b] w fun e w' => e = .returned (.agg #[.int .u64 qH, .int .u64 qL]) ∧ w' = w.alloc (.cells #[.int .u64 qH, .int .u64 qL] 31)))
    (A1 : ∀ w, (callFunc 64 #[.int .u64 pH, .int .u64 qL, .int .u64 0]).run Tryd.prog w = .ok (.value (.tuple #[.int .u64 s, .int .u64 c])) w) (t0 : 0 ≤ qH + c) (t1 : qH + c ≤ 18446744073709551615) (w : World) :
    Calls Tryd.prog 39 #[.agg #[.int .u64 h, .int .u64 l], .int .u64 b] w fun e w' => e = .returned (.tuple #[.agg #[.int .u64 s, .int .u64 pL], .int .u64 (qH + c)]) ∧ Below w.heap.size w w' := by
  have wq : IntKind.u64.wrap (qH + c) = qH + c := by rw [IntKind.wrap_u64]; omega
  go_enter Tryd.func39, Tryd.ntmps39
  go_upto_region 1 with fail
  go_cut [6, 7] (fun s6 s7 W => ∃ a d : Nat, s6 = .pointer (some ⟨a, 0, none⟩) ∧ s7 = .pointer (some ⟨d, 0, none⟩) ∧ W.cell? ⟨a, 0, none⟩ = some (.int .u64 pH) ∧ W.cell? ⟨a, 1, none⟩ = some (.int .u64 pL) ∧ W.cell? ⟨d, 0, none⟩ = some (.int .u64 qH) ∧ W.cell? ⟨d, 1, none⟩ = some (.int .u64 qL) ∧ W.cell? ⟨w.heap.size + 1, 0, none⟩ = some (.int .u64 0) ∧ W.cell? ⟨w.heap.size + 1, 1, none⟩ = some (.int .u64 0) ∧ W.frozen? ⟨w.heap.size + 1, 0, none⟩ = false ∧ W.frozen? ⟨w.heap.size + 1, 1, none⟩ = false ∧ w.heap.size + 1 < W.heap.size ∧ w.heap.size + 1 < a ∧ w.heap.size + 1 < d ∧ Below w.heap.size w W)
  case first =>
    go_region_held3 (fun W => W.cell? ⟨w.heap.size, 0, none⟩ = some (.int .u64 h) ∧ W.cell? ⟨w.heap.size, 1, none⟩ = some (.int .u64 l) ∧ w.heap.size + 1 < W.heap.size) ((simp (maxDischargeDepth := 6) [*, go_sem]; try omega)) (first | (go_at_call_of 48 (Value.int .u64 l); refine (M1.out _).mono ?_; rintro e w2 ⟨rfl, rfl⟩) | (go_at_call_of 48 (Value.int .u64 h); refine (M2.out _).mono ?_; rintro e w2 ⟨rfl, rfl⟩))
    all_goals (go_wp2_with fail; go_meet; refine ⟨_, _, rfl, rfl, ?_⟩; (repeat' apply And.intro) <;> (first | assumption | (simp (maxDischargeDepth := 6) [go_sem, *]; done) | omega | (simp; omega) | (repeat' (first | (with_reducible assumption) | (with_reducible exact Below.refl _ _) | (with_reducible refine below_drewN ?_ _) | (with_reducible refine Below.drew ?_) | (with_reducible refine Below.setCell ?_ ?_ _) | (with_reducible refine Below.alloc ?_ ?_ _) | omega | (simp; done) | (simp; omega)))))
  case rest =>
    obtain ⟨a, d, rfl, rfl, a0, a1, d0, d1, c2, c3, f0, f1, hz, ha, hd, hbw⟩ := hcut
    obtain ⟨wo, rfl⟩ : ∃ wo : World, wo = wc := ⟨_, rfl⟩
    go_wp2_with fail
    go_region
    all_goals
      go_wp2_with fail
      refine bodyPost_ret (v := .tuple #[.agg #[.int .u64 s, .int .u64 pL], .int .u64 (qH + c)]) (by simp (maxDischargeDepth := 6) [results, Tryd.results39, go_sem, *]) rfl ?_
      exact ⟨rfl, by repeat' (first | (with_reducible assumption) | (with_reducible exact Below.refl _ _) | (with_reducible refine below_drewN ?_ _) | (with_reducible refine Below.drew ?_) | (with_reducible refine Below.setCell ?_ ?_ _) | (with_reducible refine Below.alloc ?_ ?_ _) | omega | (simp; done) | (simp; omega))⟩
theorem wideTimes_any (h l b : Int) (h0 : 0 ≤ h) (h1 : h ≤ 18446744073709551615) (l0 : 0 ≤ l) (l1 : l ≤ 18446744073709551615) (b0 : 0 ≤ b) (b1 : b ≤ 18446744073709551615) (w : World) :
    Calls Tryd.prog 39 #[.agg #[.int .u64 h, .int .u64 l], .int .u64 b] w fun e w' =>
      e = .returned (.tuple #[.agg #[.int .u64 (wHigh (wV h l * b)), .int .u64 (wLow (wV h l * b))], .int .u64 (wOver (wV h l * b))]) ∧ Below w.heap.size w w' := by
  have M1 := Lib.hid (fun w => wideMul_at l b _ _ l0 l1 b0 b1 rfl rfl w)
  have M2 := Lib.hid (fun w => wideMul_at h b _ _ h0 h1 b0 b1 rfl rfl w)
  have m1 : 0 ≤ l * b ∧ l * b ≤ 18446744073709551615 * 18446744073709551615 := ⟨Int.mul_nonneg l0 b0, Int.mul_le_mul l1 b1 b0 (by decide)⟩
  have m2 : 0 ≤ h * b ∧ h * b ≤ 18446744073709551615 * 18446744073709551615 := ⟨Int.mul_nonneg h0 b0, Int.mul_le_mul h1 b1 b0 (by decide)⟩
  have hv : wV h l * b = h * b * 18446744073709551616 + l * b := by unfold wV; grind
  generalize l * b = p at *
  generalize h * b = q at *
  obtain ⟨c, hc⟩ : ∃ c, (p / 18446744073709551616 + q % 18446744073709551616 + 0) / 18446744073709551616 = c := ⟨_, rfl⟩
  obtain ⟨s, hs⟩ : ∃ s, (p / 18446744073709551616 + q % 18446744073709551616 + 0) % 18446744073709551616 = s := ⟨_, rfl⟩
  have A1 := fun w => add64_eq (p / 18446744073709551616) (q % 18446744073709551616) 0 (by omega) (by omega) (by decide) (by decide) w
  rw [hc, hs] at A1
  have hp := parts_of (wV h l * b) (p % 18446744073709551616) s (q / 18446744073709551616 + c) (by omega) (by omega) (by omega) (by omega) (by rw [hv]; omega)
  refine (wideTimes_walk h l b _ _ _ _ s c M1 M2 A1 (by omega) (by omega) w).mono ?_
  rintro e w' ⟨rfl, hb⟩
  exact ⟨by rw [hp.1, hp.2.1, hp.2.2], hb⟩
end Go.Proofs.YtiagngnpbpblaaaDoor
