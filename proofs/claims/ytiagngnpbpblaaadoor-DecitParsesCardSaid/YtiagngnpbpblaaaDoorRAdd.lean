/- The contract of the reference's Add: the sum of two numbers of 128 bits, and whether it goes beyond. No condition. -/
import Derived.Test.YtiagngnpbpblaaaDoorRTimes
namespace Go.Proofs.YtiagngnpbpblaaaDoor
open Go.RowKit
set_option linter.unusedSimpArgs false
set_option linter.unusedVariables false

set_option maxRecDepth 100000 in
set_option maxHeartbeats 4000000 in
theorem refAdd_walk (h l g k x0 x1 x2 x3 y0 y1 y2 y3 v1 v2 v3 : Int) (w : World)
    (h0 : 0 ≤ h) (h1 : h ≤ 18446744073709551615) (l0 : 0 ≤ l) (l1 : l ≤ 18446744073709551615) (g0 : 0 ≤ g) (g1 : g ≤ 18446744073709551615) (k0 : 0 ≤ k) (k1 : k ≤ 18446744073709551615)
    (ex0 : l % 4294967296 = x0) (ex1 : l / 4294967296 = x1) (ex2 : h % 4294967296 = x2) (ex3 : h / 4294967296 = x3)
    (ey0 : k % 4294967296 = y0) (ey1 : k / 4294967296 = y1) (ey2 : g % 4294967296 = y2) (ey3 : g / 4294967296 = y3)
    (bx0 : 0 ≤ x0 ∧ x0 ≤ 4294967295) (bx1 : 0 ≤ x1 ∧ x1 ≤ 4294967295) (bx2 : 0 ≤ x2 ∧ x2 ≤ 4294967295) (bx3 : 0 ≤ x3 ∧ x3 ≤ 4294967295)
    (by0 : 0 ≤ y0 ∧ y0 ≤ 4294967295) (by1 : 0 ≤ y1 ∧ y1 ≤ 4294967295) (by2 : 0 ≤ y2 ∧ y2 ≤ 4294967295) (by3 : 0 ≤ y3 ∧ y3 ≤ 4294967295)
    (ev1 : x1 + y1 + (x0 + y0) / 4294967296 = v1) (ev2 : x2 + y2 + v1 / 4294967296 = v2) (ev3 : x3 + y3 + v2 / 4294967296 = v3)
    (r1 : 0 ≤ v1 ∧ v1 ≤ 8589934591) (r2 : 0 ≤ v2 ∧ v2 ≤ 8589934591) (r3 : 0 ≤ v3 ∧ v3 ≤ 8589934591) :
    Calls Tryd.prog 44 #[.agg #[.int .u64 h, .int .u64 l], .agg #[.int .u64 g, .int .u64 k]] w fun e w' =>
      e = .returned (.tuple #[.agg #[.int .u64 (v3 % 4294967296 * 4294967296 + v2 % 4294967296), .int .u64 (v1 % 4294967296 * 4294967296 + (x0 + y0) % 4294967296)], .bool (decide (0 < v3 / 4294967296))]) ∧ Below w.heap.size w w' := by
  have lim := fun w => limbs_at h l h0 h1 l0 l1 w
  rw [ex0, ex1, ex2, ex3] at lim
  have LIM := Lib.hid lim
  have lim2 := fun w => limbs_at g k g0 g1 k0 k1 w
  rw [ey0, ey1, ey2, ey3] at lim2
  have LIM2 := Lib.hid lim2
  clear lim lim2 ex0 ex1 ex2 ex3 ey0 ey1 ey2 ey3
  go_enter Tryd.func44, Tryd.ntmps44
  go_upto_region 1 with fail
  go_cut [6, 7] (fun s6 s7 W => ∃ a b : Nat, s6 = .pointer (some ⟨a, 0, none⟩) ∧ s7 = .pointer (some ⟨b, 0, none⟩) ∧ W.cell? ⟨a, 0, none⟩ = some (.int .u64 (x0)) ∧ W.cell? ⟨a, 1, none⟩ = some (.int .u64 (x1)) ∧ W.cell? ⟨a, 2, none⟩ = some (.int .u64 (x2)) ∧ W.cell? ⟨a, 3, none⟩ = some (.int .u64 (x3)) ∧ W.cell? ⟨b, 0, none⟩ = some (.int .u64 (y0)) ∧ W.cell? ⟨b, 1, none⟩ = some (.int .u64 (y1)) ∧ W.cell? ⟨b, 2, none⟩ = some (.int .u64 (y2)) ∧ W.cell? ⟨b, 3, none⟩ = some (.int .u64 (y3)) ∧ W.cell? ⟨w.heap.size + 1 + 1, 0, none⟩ = some (.int .u64 (0)) ∧ W.cell? ⟨w.heap.size + 1 + 1, 1, none⟩ = some (.int .u64 (0)) ∧ W.frozen? ⟨w.heap.size + 1 + 1, 0, none⟩ = false ∧ W.frozen? ⟨w.heap.size + 1 + 1, 1, none⟩ = false ∧ w.heap.size + 1 + 1 < W.heap.size ∧ a < W.heap.size ∧ b < W.heap.size ∧ Below w.heap.size w W)
  case first =>
    go_region_held3 (fun W => W.cell? ⟨w.heap.size, 0, none⟩ = some (.int .u64 (h)) ∧ W.cell? ⟨w.heap.size, 1, none⟩ = some (.int .u64 (l)) ∧ W.cell? ⟨w.heap.size + 1, 0, none⟩ = some (.int .u64 (g)) ∧ W.cell? ⟨w.heap.size + 1, 1, none⟩ = some (.int .u64 (k)) ∧ w.heap.size + 2 < W.heap.size) ((simp (maxDischargeDepth := 6) [*, go_sem]; try omega))
      (first
        | (go_at_call_of 65 (Value.int .u64 h); refine (LIM.out _).mono ?_; rintro e w2 ⟨rfl, rfl⟩)
        | (go_at_call_of 65 (Value.int .u64 g); refine (LIM2.out _).mono ?_; rintro e w2 ⟨rfl, rfl⟩))
    all_goals (go_wp2_with fail; go_meet; refine ⟨_, _, rfl, rfl, ?_⟩; (repeat' apply And.intro) <;> (first | (simp (maxDischargeDepth := 6) [go_sem]; done) | (simp; omega) | (repeat' (first | (with_reducible assumption) | (with_reducible exact Below.refl _ _) | (with_reducible refine below_drewN ?_ _) | (with_reducible refine Below.drew ?_) | (with_reducible refine Below.setCell ?_ ?_ _) | (with_reducible refine Below.alloc ?_ ?_ _) | omega | (simp; done) | (simp; omega)))))
  case rest =>
    obtain ⟨a, b, rfl, rfl, a0, a1, a2, a3, b0, b1, b2, b3, c0, c1, f0, f1, hz1, hz2, hz3, hbw⟩ := hcut
    obtain ⟨wo, rfl⟩ : ∃ wo : World, wo = wc := ⟨_, rfl⟩
    go_upto_block 0 with (fail)
    go_cut [9] (fun s9 W => s9 = .int .u64 (v3 / 4294967296) ∧ W.cell? ⟨wo.heap.size, 0, none⟩ = some (.int .u64 ((x0 + y0) % 4294967296)) ∧ W.cell? ⟨wo.heap.size, 1, none⟩ = some (.int .u64 (v1 % 4294967296)) ∧ W.cell? ⟨wo.heap.size, 2, none⟩ = some (.int .u64 (v2 % 4294967296)) ∧ W.cell? ⟨wo.heap.size, 3, none⟩ = some (.int .u64 (v3 % 4294967296)) ∧ W.cell? ⟨wo.heap.size, 4, none⟩ = some (.int .u64 0) ∧ W.cell? ⟨wo.heap.size, 5, none⟩ = some (.int .u64 0) ∧ wo.heap.size < W.heap.size ∧ Below wo.heap.size wo W)
    case first =>
      go_wp2_with fail
      refine wp_loop_rounds 5 ?_
      rw [rounds_succ]
      go_wp2_with fail
      go_quiet (fail)
      go_wp2_with fail
      rw [rounds_succ]
      go_wp2_with fail
      go_quiet (fail)
      go_wp2_with fail
      rw [rounds_succ]
      go_wp2_with fail
      go_quiet (fail)
      go_wp2_with fail
      rw [rounds_succ]
      go_wp2_with fail
      go_quiet (fail)
      go_wp2_with fail
      rw [rounds_succ]
      go_wp2_with fail
      go_meet
      refine ⟨rfl, ?_, ?_, ?_, ?_, ?_, ?_, ?_, ?_⟩
      · simp (maxDischargeDepth := 6) [go_sem]
      · simp (maxDischargeDepth := 6) [go_sem]
      · simp (maxDischargeDepth := 6) [go_sem]
      · simp (maxDischargeDepth := 6) [go_sem]
      · simp (maxDischargeDepth := 6) [go_sem]
      · simp (maxDischargeDepth := 6) [go_sem]
      · simp
      · repeat' (first | (with_reducible assumption) | (with_reducible exact Below.refl _ _) | (with_reducible refine below_drewN ?_ _) | (with_reducible refine Below.drew ?_) | (with_reducible refine Below.setCell ?_ ?_ _) | (with_reducible refine Below.alloc ?_ ?_ _) | (simp; done) | (simp; omega))
    case rest =>
      obtain ⟨rfl, k0, k1, k2, k3, k4, k5, hzy, hbx⟩ := hcut
      have c0' : wc.cell? ⟨w.heap.size + 1 + 1, 0, none⟩ = some (.int .u64 0) := (hbx.cell (p := ⟨w.heap.size + 1 + 1, 0, none⟩) hz1).trans c0
      have c1' : wc.cell? ⟨w.heap.size + 1 + 1, 1, none⟩ = some (.int .u64 0) := (hbx.cell (p := ⟨w.heap.size + 1 + 1, 1, none⟩) hz1).trans c1
      have f0' : wc.frozen? ⟨w.heap.size + 1 + 1, 0, none⟩ = false := (hbx.frozen (p := ⟨w.heap.size + 1 + 1, 0, none⟩) hz1).trans f0
      have f1' : wc.frozen? ⟨w.heap.size + 1 + 1, 1, none⟩ = false := (hbx.frozen (p := ⟨w.heap.size + 1 + 1, 1, none⟩) hz1).trans f1
      have hb2 := hbw.trans (hbx.mono (by omega))
      have hzw : w.heap.size + 1 + 1 < wc.heap.size := by omega
      have hzwA : w.heap.size + 1 + 1 < wc.heap.size + 1 := by omega
      clear a0 a1 a2 a3 b0 b1 b2 b3 c0 c1 f0 f1 hbx hbw ev1 ev2 ev3
      go_wp2_with (go_at_call 66; refine (refwide_any _ _ _ _ _ _ (by omega) (by omega) (by omega) (by omega) (by omega) (by omega) (by omega) (by omega) _).mono ?_; rintro e w2 ⟨rfl, rfl⟩)
      refine bodyPost_ret (v := .tuple #[.agg #[.int .u64 (v3 % 4294967296 * 4294967296 + v2 % 4294967296), .int .u64 (v1 % 4294967296 * 4294967296 + (x0 + y0) % 4294967296)], .bool (decide (0 < v3 / 4294967296))]) (by simp (maxDischargeDepth := 3) [results, Tryd.results44, go_sem, c0', c1', hzw, hzwA]) rfl ?_
      exact ⟨rfl, by repeat' (first | (with_reducible assumption) | (with_reducible exact Below.refl _ _) | (with_reducible refine below_drewN ?_ _) | (with_reducible refine Below.drew ?_) | (with_reducible refine Below.setCell ?_ ?_ _) | (with_reducible refine Below.alloc ?_ ?_ _) | omega | (simp; done) | (simp; omega))⟩

theorem refAdd_any (h l g k : Int) (h0 : 0 ≤ h) (h1 : h ≤ 18446744073709551615) (l0 : 0 ≤ l) (l1 : l ≤ 18446744073709551615) (g0 : 0 ≤ g) (g1 : g ≤ 18446744073709551615) (k0 : 0 ≤ k) (k1 : k ≤ 18446744073709551615) (w : World) :
    Calls Tryd.prog 44 #[.agg #[.int .u64 h, .int .u64 l], .agg #[.int .u64 g, .int .u64 k]] w fun e w' =>
      e = .returned (.tuple #[.agg #[.int .u64 (wHigh (wV h l + wV g k)), .int .u64 (wLow (wV h l + wV g k))], .bool (decide (0 < wOver (wV h l + wV g k)))]) ∧ Below w.heap.size w w' := by
  have hw := refAdd_walk h l g k (l % 4294967296) (l / 4294967296) (h % 4294967296) (h / 4294967296) (k % 4294967296) (k / 4294967296) (g % 4294967296) (g / 4294967296)
    _ _ _ w h0 h1 l0 l1 g0 g1 k0 k1 rfl rfl rfl rfl rfl rfl rfl rfl (by omega) (by omega) (by omega) (by omega) (by omega) (by omega) (by omega) (by omega) rfl rfl rfl (by omega) (by omega) (by omega)
  have hp : wHigh (wV h l + wV g k) = (h / 4294967296 + g / 4294967296 + (h % 4294967296 + g % 4294967296 + (l / 4294967296 + k / 4294967296 + (l % 4294967296 + k % 4294967296) / 4294967296) / 4294967296) / 4294967296) % 4294967296 * 4294967296 + (h % 4294967296 + g % 4294967296 + (l / 4294967296 + k / 4294967296 + (l % 4294967296 + k % 4294967296) / 4294967296) / 4294967296) % 4294967296 := by
    unfold wHigh wV; omega
  have hq : wLow (wV h l + wV g k) = (l / 4294967296 + k / 4294967296 + (l % 4294967296 + k % 4294967296) / 4294967296) % 4294967296 * 4294967296 + (l % 4294967296 + k % 4294967296) % 4294967296 := by
    unfold wLow wV; omega
  have hr : wOver (wV h l + wV g k) = (h / 4294967296 + g / 4294967296 + (h % 4294967296 + g % 4294967296 + (l / 4294967296 + k / 4294967296 + (l % 4294967296 + k % 4294967296) / 4294967296) / 4294967296) / 4294967296) / 4294967296 := by
    unfold wOver wV; omega
  rw [hp, hq, hr]
  exact hw
end Go.Proofs.YtiagngnpbpblaaaDoor
