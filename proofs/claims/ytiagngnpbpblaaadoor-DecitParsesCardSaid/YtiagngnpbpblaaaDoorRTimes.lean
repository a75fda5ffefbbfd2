/- The contract of the reference's Times: the exact product of a number of 128 bits with one of 64. No condition. -/
import Derived.Test.YtiagngnpbpblaaaDoorWide2
namespace Go.Proofs.YtiagngnpbpblaaaDoor
open Go.RowKit
set_option linter.unusedSimpArgs false
set_option linter.unusedVariables false

set_option maxRecDepth 100000 in
set_option maxHeartbeats 4000000 in
theorem refTimes_walk (h l b x0 x1 x2 x3 y0 y1 p00 p10 p20 p30 p01 p11 p21 p31 v1 v2 v3 u0 u1 u2 u3 : Int) (w : World)
    (h0 : 0 ≤ h) (h1 : h ≤ 18446744073709551615) (l0 : 0 ≤ l) (l1 : l ≤ 18446744073709551615) (b0 : 0 ≤ b) (b1 : b ≤ 18446744073709551615)
    (ex0 : l % 4294967296 = x0) (ex1 : l / 4294967296 = x1) (ex2 : h % 4294967296 = x2) (ex3 : h / 4294967296 = x3) (ey0 : b % 4294967296 = y0) (ey1 : b / 4294967296 = y1)
    (e00 : x0 * y0 = p00) (e10 : x1 * y0 = p10) (e20 : x2 * y0 = p20) (e30 : x3 * y0 = p30) (e01 : x0 * y1 = p01) (e11 : x1 * y1 = p11) (e21 : x2 * y1 = p21) (e31 : x3 * y1 = p31)
    (ev1 : p10 + p00 / 4294967296 = v1) (ev2 : p20 + v1 / 4294967296 = v2) (ev3 : p30 + v2 / 4294967296 = v3)
    (eu0 : p01 + v1 % 4294967296 = u0) (eu1 : p11 + v2 % 4294967296 + u0 / 4294967296 = u1) (eu2 : p21 + v3 % 4294967296 + u1 / 4294967296 = u2) (eu3 : p31 + v3 / 4294967296 + u2 / 4294967296 = u3)
    (q00 : 0 ≤ p00 ∧ p00 ≤ 18446744065119617025) (q10 : 0 ≤ p10 ∧ p10 ≤ 18446744065119617025) (q20 : 0 ≤ p20 ∧ p20 ≤ 18446744065119617025) (q30 : 0 ≤ p30 ∧ p30 ≤ 18446744065119617025)
    (q01 : 0 ≤ p01 ∧ p01 ≤ 18446744065119617025) (q11 : 0 ≤ p11 ∧ p11 ≤ 18446744065119617025) (q21 : 0 ≤ p21 ∧ p21 ≤ 18446744065119617025) (q31 : 0 ≤ p31 ∧ p31 ≤ 18446744065119617025)
    (r1 : 0 ≤ v1 ∧ v1 ≤ 18446744073709551615) (r2 : 0 ≤ v2 ∧ v2 ≤ 18446744073709551615) (r3 : 0 ≤ v3 ∧ v3 ≤ 18446744073709551615)
    (s0 : 0 ≤ u0 ∧ u0 ≤ 18446744073709551615) (s1 : 0 ≤ u1 ∧ u1 ≤ 18446744073709551615) (s2 : 0 ≤ u2 ∧ u2 ≤ 18446744073709551615) (s3 : 0 ≤ u3 ∧ u3 ≤ 18446744073709551615) :
    Calls Tryd.prog 43 #[.agg #[.int .u64 h, .int .u64 l], .int .u64 b] w fun e w' =>
      e = .returned (.tuple #[.agg #[.int .u64 (u2 % 4294967296 * 4294967296 + u1 % 4294967296), .int .u64 (u0 % 4294967296 * 4294967296 + p00 % 4294967296)], .int .u64 u3]) ∧ Below w.heap.size w w' := by
  have lim := fun w => limbs_any h l h0 h1 l0 l1 w
  rw [ex0, ex1, ex2, ex3] at lim
  have LIM := Lib.hid lim
  clear lim ex0 ex1 ex2 ex3
  go_enter Tryd.func43, Tryd.ntmps43
  go_wp2_with fail
  refine (LIM.out _).mono ?_
  rintro e w1 ⟨rfl, hb⟩
  obtain ⟨c20, c21, c40, c41, f40, f41, hz, hb1⟩ := kept22 hb
  clear hb
  go_upto_block 0 with (fail)
  go_cut [] (fun W => W.cell? ⟨w1.heap.size + 1 + 1, 0, none⟩ = some (.int .u64 (p00 % 4294967296)) ∧ W.cell? ⟨w1.heap.size + 1 + 1, 1, none⟩ = some (.int .u64 (u0 % 4294967296)) ∧ W.cell? ⟨w1.heap.size + 1 + 1, 2, none⟩ = some (.int .u64 (u1 % 4294967296)) ∧ W.cell? ⟨w1.heap.size + 1 + 1, 3, none⟩ = some (.int .u64 (u2 % 4294967296)) ∧ W.cell? ⟨w1.heap.size + 1 + 1, 4, none⟩ = some (.int .u64 (u3 % 4294967296)) ∧ W.cell? ⟨w1.heap.size + 1 + 1, 5, none⟩ = some (.int .u64 (u3 / 4294967296)) ∧ w1.heap.size + 1 + 1 < W.heap.size ∧ Below w1.heap.size w1 W)
  case first =>
    go_wp2_with fail
    refine wp_loop_rounds 3 ?_
    rw [rounds_succ]
    go_wp2_with fail
    refine wp_loop_rounds 5 ?_
    rw [rounds_succ]
    go_wp2_with fail
    go_quiet (fail)
    go_wp2_with fail
    rw [rounds_succ]
    go_wp2_with fail
    go_quiet (fail)
    go_wp2_with fail
    rw [rounds_succ]
    go_wp2_with fail
    go_quiet (fail)
    go_wp2_with fail
    rw [rounds_succ]
    go_wp2_with fail
    go_quiet (fail)
    go_wp2_with fail
    rw [rounds_succ]
    go_wp2_with fail
    rw [rounds_succ]
    go_wp2_with fail
    refine wp_loop_rounds 5 ?_
    rw [rounds_succ]
    go_wp2_with fail
    go_quiet (fail)
    go_wp2_with fail
    rw [rounds_succ]
    go_wp2_with fail
    go_quiet (fail)
    go_wp2_with fail
    rw [rounds_succ]
    go_wp2_with fail
    go_quiet (fail)
    go_wp2_with fail
    rw [rounds_succ]
    go_wp2_with fail
    go_quiet (fail)
    go_wp2_with fail
    rw [rounds_succ]
    go_wp2_with fail
    rw [rounds_succ]
    go_wp2_with fail
    go_meet
    refine ⟨?_, ?_, ?_, ?_, ?_, ?_, ?_, ?_⟩
    · simp (maxDischargeDepth := 12) [go_sem]
    · simp (maxDischargeDepth := 12) [go_sem]
    · simp (maxDischargeDepth := 12) [go_sem]
    · simp (maxDischargeDepth := 12) [go_sem]
    · simp (maxDischargeDepth := 12) [go_sem]
    · simp (maxDischargeDepth := 12) [go_sem]
    · simp
    · repeat' (first | (with_reducible exact Below.refl _ _) | (with_reducible refine below_drewN ?_ _) | (with_reducible refine Below.setCell ?_ ?_ _) | (with_reducible refine Below.alloc ?_ ?_ _) | (simp; done) | (simp; omega))
  case rest =>
    obtain ⟨k0, k1, k2, k3, k4, k5, hzy, hbx⟩ := hcut
    have hzw : w.heap.size + 1 < wc.heap.size := by omega
    have hzyA : w1.heap.size + 1 + 1 < wc.heap.size + 1 := by omega
    have hzwA : w.heap.size + 1 < wc.heap.size + 1 := by omega
    have hzw0 : ¬ w.heap.size + 1 = wc.heap.size := by omega
    have hzw1 : ¬ w.heap.size + 1 = wc.heap.size + 1 := by omega
    have hzy0 : ¬ w1.heap.size + 1 + 1 = wc.heap.size := by omega
    have hzy1 : ¬ w1.heap.size + 1 + 1 = wc.heap.size + 1 := by omega
    have hzz : ¬ w.heap.size + 1 = w1.heap.size + 1 + 1 := by omega
    have c40' : wc.cell? ⟨w.heap.size + 1, 0, none⟩ = some (.int .u64 0) := (hbx.cell (p := ⟨w.heap.size + 1, 0, none⟩) hz).trans c40
    have c41' : wc.cell? ⟨w.heap.size + 1, 1, none⟩ = some (.int .u64 0) := (hbx.cell (p := ⟨w.heap.size + 1, 1, none⟩) hz).trans c41
    have f40' : wc.frozen? ⟨w.heap.size + 1, 0, none⟩ = false := (hbx.frozen (p := ⟨w.heap.size + 1, 0, none⟩) hz).trans f40
    have f41' : wc.frozen? ⟨w.heap.size + 1, 1, none⟩ = false := (hbx.frozen (p := ⟨w.heap.size + 1, 1, none⟩) hz).trans f41
    have hzx := hbx.size
    have hb2 := hb1.trans (hbx.mono (by omega))
    clear c20 c21 c40 c41 f40 f41 hbx hb1 ey0 ey1 e00 e10 e20 e30 e01 e11 e21 e31 ev1 ev2 ev3 eu0 eu1 eu2 eu3
    go_wp2_with fail
    have g1 : IntKind.u64.wrap (u3 / 4294967296 * 4294967296) = u3 / 4294967296 * 4294967296 := IntWalk.u64_in _ (by omega)
    have g2 : IntKind.u64.wrap (u3 / 4294967296 * 4294967296 + u3 % 4294967296) = u3 := by rw [IntWalk.u64_in _ (by omega)]; omega
    go_region_held3 (fun W => W.cell? ⟨w1.heap.size + 1 + 1, 0, none⟩ = some (.int .u64 (p00 % 4294967296)) ∧ W.cell? ⟨w1.heap.size + 1 + 1, 1, none⟩ = some (.int .u64 (u0 % 4294967296)) ∧ W.cell? ⟨w1.heap.size + 1 + 1, 2, none⟩ = some (.int .u64 (u1 % 4294967296)) ∧ W.cell? ⟨w1.heap.size + 1 + 1, 3, none⟩ = some (.int .u64 (u2 % 4294967296)) ∧ W.cell? ⟨w1.heap.size + 1 + 1, 4, none⟩ = some (.int .u64 (u3 % 4294967296)) ∧ W.cell? ⟨w1.heap.size + 1 + 1, 5, none⟩ = some (.int .u64 (u3 / 4294967296))) ((simp (maxDischargeDepth := 12) [*, go_sem]; done))
      ((go_at_call 66; refine (refwide_any _ _ _ _ _ _ (by omega) (by omega) (by omega) (by omega) (by omega) (by omega) (by omega) (by omega) _).mono ?_; rintro e w2 ⟨rfl, rfl⟩))
    go_wp2_with fail
    refine bodyPost_ret (v := .tuple #[.agg #[.int .u64 (u2 % 4294967296 * 4294967296 + u1 % 4294967296), .int .u64 (u0 % 4294967296 * 4294967296 + p00 % 4294967296)], .int .u64 u3]) (by simp (maxDischargeDepth := 3) [results, Tryd.results43, go_sem, c40', c41', hzw, hzwA]) rfl ?_
    exact ⟨rfl, by repeat' (first | (with_reducible assumption) | (with_reducible refine below_drewN ?_ _) | (with_reducible refine Below.drew ?_) | (with_reducible refine Below.setCell ?_ ?_ _) | (with_reducible refine Below.alloc ?_ ?_ _) | omega | (simp; done) | (simp; omega))⟩

/-- The school's product of four digits of 2^32 by two. -/
theorem school (p00 p10 p20 p30 p01 p11 p21 p31 v1 v2 v3 u0 u1 u2 u3 : Int)
    (ev1 : p10 + p00 / 4294967296 = v1) (ev2 : p20 + v1 / 4294967296 = v2) (ev3 : p30 + v2 / 4294967296 = v3)
    (eu0 : p01 + v1 % 4294967296 = u0) (eu1 : p11 + v2 % 4294967296 + u0 / 4294967296 = u1) (eu2 : p21 + v3 % 4294967296 + u1 / 4294967296 = u2) (eu3 : p31 + v3 / 4294967296 + u2 / 4294967296 = u3) :
    (u0 % 4294967296 * 4294967296 + p00 % 4294967296) + (u2 % 4294967296 * 4294967296 + u1 % 4294967296) * 18446744073709551616 + u3 * 340282366920938463463374607431768211456 =
      p00 + (p10 + p01) * 4294967296 + (p20 + p11) * 18446744073709551616 + (p30 + p21) * 79228162514264337593543950336 + p31 * 340282366920938463463374607431768211456 := by
  omega

theorem expand (x0 x1 x2 x3 y0 y1 : Int) : ((x3 * 4294967296 + x2) * 18446744073709551616 + (x1 * 4294967296 + x0)) * (y1 * 4294967296 + y0) =
    x0 * y0 + (x1 * y0 + x0 * y1) * 4294967296 + (x2 * y0 + x1 * y1) * 18446744073709551616 + (x3 * y0 + x2 * y1) * 79228162514264337593543950336 + x3 * y1 * 340282366920938463463374607431768211456 := by
  grind

def wV (h l : Int) : Int := h * 18446744073709551616 + l
def wLow (v : Int) : Int := v % 18446744073709551616
def wHigh (v : Int) : Int := v / 18446744073709551616 % 18446744073709551616
def wOver (v : Int) : Int := v / 340282366920938463463374607431768211456

theorem parts_of (v a b c : Int) (ha : 0 ≤ a) (ha' : a < 18446744073709551616) (hb : 0 ≤ b) (hb' : b < 18446744073709551616) (h : a + b * 18446744073709551616 + c * 340282366920938463463374607431768211456 = v) :
    a = wLow v ∧ b = wHigh v ∧ c = wOver v := by
  unfold wLow wHigh wOver
  omega

theorem refTimes_any (h l b : Int) (h0 : 0 ≤ h) (h1 : h ≤ 18446744073709551615) (l0 : 0 ≤ l) (l1 : l ≤ 18446744073709551615) (b0 : 0 ≤ b) (b1 : b ≤ 18446744073709551615) (w : World) :
    Calls Tryd.prog 43 #[.agg #[.int .u64 h, .int .u64 l], .int .u64 b] w fun e w' =>
      e = .returned (.tuple #[.agg #[.int .u64 (wHigh (wV h l * b)), .int .u64 (wLow (wV h l * b))], .int .u64 (wOver (wV h l * b))]) ∧ Below w.heap.size w w' := by
  have ex0 : 0 ≤ l % 4294967296 ∧ l % 4294967296 ≤ 4294967295 := by omega
  have ex1 : 0 ≤ l / 4294967296 ∧ l / 4294967296 ≤ 4294967295 := by omega
  have ex2 : 0 ≤ h % 4294967296 ∧ h % 4294967296 ≤ 4294967295 := by omega
  have ex3 : 0 ≤ h / 4294967296 ∧ h / 4294967296 ≤ 4294967295 := by omega
  have ey0 : 0 ≤ b % 4294967296 ∧ b % 4294967296 ≤ 4294967295 := by omega
  have ey1 : 0 ≤ b / 4294967296 ∧ b / 4294967296 ≤ 4294967295 := by omega
  have hl : l = l / 4294967296 * 4294967296 + l % 4294967296 := by omega
  have hh : h = h / 4294967296 * 4294967296 + h % 4294967296 := by omega
  have hbb : b = b / 4294967296 * 4294967296 + b % 4294967296 := by omega
  generalize hx0 : l % 4294967296 = x0 at *
  generalize hx1 : l / 4294967296 = x1 at *
  generalize hx2 : h % 4294967296 = x2 at *
  generalize hx3 : h / 4294967296 = x3 at *
  generalize hy0 : b % 4294967296 = y0 at *
  generalize hy1 : b / 4294967296 = y1 at *
  have q00 := prod_bound x0 y0 ex0.1 ex0.2 ey0.1 ey0.2
  have q10 := prod_bound x1 y0 ex1.1 ex1.2 ey0.1 ey0.2
  have q20 := prod_bound x2 y0 ex2.1 ex2.2 ey0.1 ey0.2
  have q30 := prod_bound x3 y0 ex3.1 ex3.2 ey0.1 ey0.2
  have q01 := prod_bound x0 y1 ex0.1 ex0.2 ey1.1 ey1.2
  have q11 := prod_bound x1 y1 ex1.1 ex1.2 ey1.1 ey1.2
  have q21 := prod_bound x2 y1 ex2.1 ex2.2 ey1.1 ey1.2
  have q31 := prod_bound x3 y1 ex3.1 ex3.2 ey1.1 ey1.2
  have hv : wV h l * b = x0 * y0 + (x1 * y0 + x0 * y1) * 4294967296 + (x2 * y0 + x1 * y1) * 18446744073709551616 + (x3 * y0 + x2 * y1) * 79228162514264337593543950336 + x3 * y1 * 340282366920938463463374607431768211456 := by
    unfold wV
    rw [hl, hh, hbb]
    exact expand x0 x1 x2 x3 y0 y1
  generalize e00 : x0 * y0 = p00 at *
  generalize e10 : x1 * y0 = p10 at *
  generalize e20 : x2 * y0 = p20 at *
  generalize e30 : x3 * y0 = p30 at *
  generalize e01 : x0 * y1 = p01 at *
  generalize e11 : x1 * y1 = p11 at *
  generalize e21 : x2 * y1 = p21 at *
  generalize e31 : x3 * y1 = p31 at *
  obtain ⟨v1, ev1⟩ : ∃ v, p10 + p00 / 4294967296 = v := ⟨_, rfl⟩
  obtain ⟨v2, ev2⟩ : ∃ v, p20 + v1 / 4294967296 = v := ⟨_, rfl⟩
  obtain ⟨v3, ev3⟩ : ∃ v, p30 + v2 / 4294967296 = v := ⟨_, rfl⟩
  obtain ⟨u0, eu0⟩ : ∃ v, p01 + v1 % 4294967296 = v := ⟨_, rfl⟩
  obtain ⟨u1, eu1⟩ : ∃ v, p11 + v2 % 4294967296 + u0 / 4294967296 = v := ⟨_, rfl⟩
  obtain ⟨u2, eu2⟩ : ∃ v, p21 + v3 % 4294967296 + u1 / 4294967296 = v := ⟨_, rfl⟩
  obtain ⟨u3, eu3⟩ : ∃ v, p31 + v3 / 4294967296 + u2 / 4294967296 = v := ⟨_, rfl⟩
  have hs := school p00 p10 p20 p30 p01 p11 p21 p31 v1 v2 v3 u0 u1 u2 u3 ev1 ev2 ev3 eu0 eu1 eu2 eu3
  rw [← hv] at hs
  have hp := parts_of (wV h l * b) _ _ _ (by omega) (by omega) (by omega) (by omega) hs
  rw [← hp.1, ← hp.2.1, ← hp.2.2]
  exact refTimes_walk h l b x0 x1 x2 x3 y0 y1 p00 p10 p20 p30 p01 p11 p21 p31 v1 v2 v3 u0 u1 u2 u3 w h0 h1 l0 l1 b0 b1 hx0 hx1 hx2 hx3 hy0 hy1 e00 e10 e20 e30 e01 e11 e21 e31 ev1 ev2 ev3 eu0 eu1 eu2 eu3
    q00 q10 q20 q30 q01 q11 q21 q31 (by omega) (by omega) (by omega) (by omega) (by omega) (by omega) (by omega)
end Go.Proofs.YtiagngnpbpblaaaDoor
