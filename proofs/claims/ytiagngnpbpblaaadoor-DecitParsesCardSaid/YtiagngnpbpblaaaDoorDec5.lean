/- Contract of deci.Split. No condition. -/
import Derived.Test.YtiagngnpbpblaaaDoorDec3
import Derived.Deep.RegionHeld
namespace Go.Proofs.YtiagngnpbpblaaaDoor
open Go.RowKit
set_option linter.unusedSimpArgs false
set_option linter.unusedVariables false

def sKind (a : Int) : Int := if a / 288230376151711744 % 32 = 31 then 3 else if a / 288230376151711744 % 32 = 30 then 2 else 1
def sNeg (a : Int) : Bool := a / 9223372036854775808 == 1
def sHigh (a b : Int) : Int := if a / 2305843009213693952 % 4 = 3 then 0 else if 10000000000000000000000000000000000 ≤ wV (a % 562949953421312) b then 0 else a % 562949953421312
def sLow (a b : Int) : Int := if a / 2305843009213693952 % 4 = 3 then 0 else if 10000000000000000000000000000000000 ≤ wV (a % 562949953421312) b then 0 else b
def sExp (a : Int) : Int := if 30 ≤ a / 288230376151711744 % 32 then 0 else if a / 2305843009213693952 % 4 = 3 then a / 140737488355328 % 16384 - 6176 else a / 562949953421312 % 16384 - 6176
theorem ret_s {a b c f : Int} {p : Bool} {a' b' c' f' : Int} {p' : Bool} (h1 : a = a') (h2 : p = p') (h3 : b = b') (h4 : c = c') (h5 : f = f') : Ending.returned (.tuple #[.int .i64 a, .bool p, .agg #[.int .u64 b, .int .u64 c], .int .i64 f]) = .returned (.tuple #[.int .i64 a', .bool p', .agg #[.int .u64 b', .int .u64 c'], .int .i64 f']) := by rw [h1, h2, h3, h4, h5]

theorem keep6 {w W w2 : World} {a b : Value} (hb2 : Below W.heap.size W w2) (h0 : W.cell? ⟨w.heap.size, 0, none⟩ = some a) (h1 : W.cell? ⟨w.heap.size, 1, none⟩ = some b) (f0 : W.frozen? ⟨w.heap.size, 0, none⟩ = false) (f1 : W.frozen? ⟨w.heap.size, 1, none⟩ = false) (hl : w.heap.size < W.heap.size) (hB : Below w.heap.size w W) :
    w2.cell? ⟨w.heap.size, 0, none⟩ = some a ∧ w2.cell? ⟨w.heap.size, 1, none⟩ = some b ∧ w2.frozen? ⟨w.heap.size, 0, none⟩ = false ∧ w2.frozen? ⟨w.heap.size, 1, none⟩ = false ∧ w.heap.size < w2.heap.size ∧ Below w.heap.size w w2 :=
  ⟨(hb2.cell (p := ⟨w.heap.size, 0, none⟩) hl).trans h0, (hb2.cell (p := ⟨w.heap.size, 1, none⟩) hl).trans h1, (hb2.frozen (p := ⟨w.heap.size, 0, none⟩) hl).trans f0, (hb2.frozen (p := ⟨w.heap.size, 1, none⟩) hl).trans f1, Nat.lt_of_lt_of_le hl hb2.size, hB.trans (hb2.mono (Nat.le_of_lt hl))⟩

set_option maxRecDepth 100000 in
set_option maxHeartbeats 1600000 in
theorem deciSplit_any (a b : Int) (a0 : 0 ≤ a) (a1 : a ≤ 18446744073709551615) (b0 : 0 ≤ b) (b1 : b ≤ 18446744073709551615) (w : World) :
    Calls Tryd.prog 20 #[.int .u64 a, .int .u64 b] w fun e w' =>
      e = .returned (.tuple #[.int .i64 (sKind a), .bool (sNeg a), .agg #[.int .u64 (sHigh a b), .int .u64 (sLow a b)], .int .i64 (sExp a)]) ∧ Below w.heap.size w w' := by
  have m5 : bits .and .u64 (a / 288230376151711744) 31 = a / 288230376151711744 % 32 := and_mask 5 (by decide) _ (by omega) (by omega) _ (by decide)
  have m14 : bits .and .u64 (a / 140737488355328) 16383 = a / 140737488355328 % 16384 := and_mask 14 (by decide) _ (by omega) (by omega) _ (by decide)
  have m15 : bits .and .u64 (a / 562949953421312) 16383 = a / 562949953421312 % 16384 := and_mask 14 (by decide) _ (by omega) (by omega) _ (by decide)
  have m49 : bits .and .u64 a 562949953421311 = a % 562949953421312 := and_mask 49 (by decide) _ (by omega) (by omega) _ (by decide)
  have e8 : a / 288230376151711744 % 32 / 8 = a / 2305843009213693952 % 4 := by omega
  have w1 : wrap64 (a / 140737488355328 % 16384) = a / 140737488355328 % 16384 := by unfold wrap64; omega
  have w2 : wrap64 (a / 140737488355328 % 16384 - 6176) = a / 140737488355328 % 16384 - 6176 := by unfold wrap64; omega
  have w3 : wrap64 (a / 562949953421312 % 16384) = a / 562949953421312 % 16384 := by unfold wrap64; omega
  have w4 : wrap64 (a / 562949953421312 % 16384 - 6176) = a / 562949953421312 % 16384 - 6176 := by unfold wrap64; omega
  have hct := cmp_ten (a % 562949953421312) b (by omega) b0 b1
  have cmp := fun w => wideCmp_any (a % 562949953421312) b 542101086242752 4003012203950112768 w
  by_cases h31 : a / 288230376151711744 % 32 = 31
  · have g1 := beq_t h31
    have g3 : a / 2305843009213693952 % 4 = 3 := by omega
    have g4 : 30 ≤ a / 288230376151711744 % 32 := by omega
    have r1 : sKind a = 3 := by unfold sKind; rw [if_pos h31]
    have r2 : sHigh a b = 0 := by unfold sHigh; rw [if_pos g3]
    have r3 : sLow a b = 0 := by unfold sLow; rw [if_pos g3]
    have r4 : sExp a = 0 := by unfold sExp; rw [if_pos g4]
    rw [r1, r2, r3, r4]
    clear hct cmp w1 w2 w3 w4 m14 m15 m49 h31 g3 g4 r1 r2 r3 r4 e8
    go_enter Tryd.func20, Tryd.ntmps20
    go_wp2_with fail
    refine bodyPost_ret (v := .tuple #[.int .i64 3, .bool (a / 9223372036854775808 == 1), .agg #[.int .u64 0, .int .u64 0], .int .i64 0]) (by simp (maxDischargeDepth := 3) [results, Tryd.results20, go_sem]) rfl ?_
    exact ⟨ret_s rfl rfl rfl rfl rfl, by repeat' (first | (with_reducible assumption) | (with_reducible exact Below.refl _ _) | (with_reducible refine below_drewN ?_ _) | (with_reducible refine Below.drew ?_) | (with_reducible refine Below.setCell ?_ ?_ _) | (with_reducible refine Below.alloc ?_ ?_ _) | omega | (simp; done) | (simp; omega))⟩
  by_cases h30 : a / 288230376151711744 % 32 = 30
  · have g0 := beq_f h31
    have g1 := beq_t h30
    have g3 : a / 2305843009213693952 % 4 = 3 := by omega
    have g4 : 30 ≤ a / 288230376151711744 % 32 := by omega
    have r1 : sKind a = 2 := by unfold sKind; rw [if_neg h31, if_pos h30]
    have r2 : sHigh a b = 0 := by unfold sHigh; rw [if_pos g3]
    have r3 : sLow a b = 0 := by unfold sLow; rw [if_pos g3]
    have r4 : sExp a = 0 := by unfold sExp; rw [if_pos g4]
    rw [r1, r2, r3, r4]
    clear hct cmp w1 w2 w3 w4 m14 m15 m49 h31 h30 g3 g4 r1 r2 r3 r4 e8
    go_enter Tryd.func20, Tryd.ntmps20
    go_wp2_with fail
    refine bodyPost_ret (v := .tuple #[.int .i64 2, .bool (a / 9223372036854775808 == 1), .agg #[.int .u64 0, .int .u64 0], .int .i64 0]) (by simp (maxDischargeDepth := 3) [results, Tryd.results20, go_sem]) rfl ?_
    exact ⟨ret_s rfl rfl rfl rfl rfl, by repeat' (first | (with_reducible assumption) | (with_reducible exact Below.refl _ _) | (with_reducible refine below_drewN ?_ _) | (with_reducible refine Below.drew ?_) | (with_reducible refine Below.setCell ?_ ?_ _) | (with_reducible refine Below.alloc ?_ ?_ _) | omega | (simp; done) | (simp; omega))⟩
  have g0 := beq_f h31
  have g1 := beq_f h30
  have r1 : sKind a = 1 := by unfold sKind; rw [if_neg h31, if_neg h30]
  have g4 : ¬ 30 ≤ a / 288230376151711744 % 32 := by omega
  by_cases h3 : a / 2305843009213693952 % 4 = 3
  · have g2 := beq_t h3
    have r2 : sHigh a b = 0 := by unfold sHigh; rw [if_pos h3]
    have r3 : sLow a b = 0 := by unfold sLow; rw [if_pos h3]
    have r4 : sExp a = a / 140737488355328 % 16384 - 6176 := by unfold sExp; rw [if_neg g4, if_pos h3]
    rw [r1, r2, r3, r4]
    clear hct cmp w3 w4 m15 m49 h31 h30 h3 g4 r1 r2 r3 r4
    go_enter Tryd.func20, Tryd.ntmps20
    go_wp2_with fail
    refine bodyPost_ret (v := .tuple #[.int .i64 1, .bool (a / 9223372036854775808 == 1), .agg #[.int .u64 0, .int .u64 0], .int .i64 (a / 140737488355328 % 16384 - 6176)]) (by simp (maxDischargeDepth := 3) [results, Tryd.results20, go_sem]) rfl ?_
    exact ⟨ret_s rfl rfl rfl rfl rfl, by repeat' (first | (with_reducible assumption) | (with_reducible exact Below.refl _ _) | (with_reducible refine below_drewN ?_ _) | (with_reducible refine Below.drew ?_) | (with_reducible refine Below.setCell ?_ ?_ _) | (with_reducible refine Below.alloc ?_ ?_ _) | omega | (simp; done) | (simp; omega))⟩
  · have g2 := beq_f h3
    have r4 : sExp a = a / 562949953421312 % 16384 - 6176 := by unfold sExp; rw [if_neg g4, if_neg h3]
    have r2 : sHigh a b = if 10000000000000000000000000000000000 ≤ wV (a % 562949953421312) b then 0 else a % 562949953421312 := by unfold sHigh; rw [if_neg h3]
    have r3 : sLow a b = if 10000000000000000000000000000000000 ≤ wV (a % 562949953421312) b then 0 else b := by unfold sLow; rw [if_neg h3]
    rw [r1, r2, r3, r4]
    generalize wCmp (a % 562949953421312) b 542101086242752 4003012203950112768 = c at *
    generalize wV (a % 562949953421312) b = V at *
    have CM := Lib.hid cmp
    have HC := Lib.hid hct
    clear hct cmp w1 w2 m14 h31 h30 h3 g4 r1 r2 r3 r4
    go_enter Tryd.func20, Tryd.ntmps20
    have hsz : w.heap.size < w.heap.size + 1 := Nat.lt_succ_self _
    obtain ⟨g, hg⟩ : ∃ g, decide (0 ≤ c) = g := ⟨_, rfl⟩
    have hgv : (g = true ↔ 10000000000000000000000000000000000 ≤ V) := by rw [← hg, decide_eq_true_eq]; exact HC.out
    have HG := Lib.hid hgv
    clear hgv
    go_upto_region 10 with fail
    go_cut [43] (fun s W => s = .bool g ∧ W.cell? ⟨w.heap.size, 0, none⟩ = some (.int .u64 (a % 562949953421312)) ∧ W.cell? ⟨w.heap.size, 1, none⟩ = some (.int .u64 b) ∧ W.frozen? ⟨w.heap.size, 0, none⟩ = false ∧ W.frozen? ⟨w.heap.size, 1, none⟩ = false ∧ w.heap.size < W.heap.size ∧ Below w.heap.size w W)
    case first =>
      first | (go_region_held (fun W => W.cell? ⟨w.heap.size, 0, none⟩ = some (.int .u64 (a % 562949953421312)) ∧ W.cell? ⟨w.heap.size, 1, none⟩ = some (.int .u64 b) ∧ W.frozen? ⟨w.heap.size, 0, none⟩ = false ∧ W.frozen? ⟨w.heap.size, 1, none⟩ = false ∧ w.heap.size < W.heap.size ∧ Below w.heap.size w W) (((try dsimp only); (repeat' apply And.intro) <;> (first | assumption | (simp [*, go_sem]; done) | omega | (simp; omega) | (repeat' (first | (with_reducible assumption) | (with_reducible exact Below.refl _ _) | (with_reducible refine below_drewN ?_ _) | (with_reducible refine Below.drew ?_) | (with_reducible refine Below.setCell ?_ ?_ _) | (with_reducible refine Below.alloc ?_ ?_ _) | omega | (simp; done) | (simp; omega)))))) (first | (go_at_call 19; (with_reducible refine (deciMost_any _).mono ?_); rintro e w2 ⟨rfl, hb2⟩; obtain ⟨t0, t1, t2, t3, t4, t5⟩ := keep6 (w := w) (a := .int .u64 (a % 562949953421312)) (b := .int .u64 b) hb2 (by first | assumption | (simp [go_sem]; done)) (by first | assumption | (simp [go_sem]; done)) (by first | assumption | (simp [go_sem]; done)) (by first | assumption | (simp [go_sem]; done)) (by first | assumption | (simp; done)) (by first | assumption | (repeat' (first | (with_reducible assumption) | (with_reducible exact Below.refl _ _) | (with_reducible refine below_drewN ?_ _) | (with_reducible refine Below.drew ?_) | (with_reducible refine Below.setCell ?_ ?_ _) | (with_reducible refine Below.alloc ?_ ?_ _) | omega | (simp; done) | (simp; omega))))) | (go_at_call 18; (with_reducible refine (CM.out _).mono ?_); rintro e w3 ⟨rfl, hb2⟩; obtain ⟨t0, t1, t2, t3, t4, t5⟩ := keep6 (w := w) (a := .int .u64 (a % 562949953421312)) (b := .int .u64 b) hb2 (by first | assumption | (simp [go_sem]; done)) (by first | assumption | (simp [go_sem]; done)) (by first | assumption | (simp [go_sem]; done)) (by first | assumption | (simp [go_sem]; done)) (by first | assumption | (simp; done)) (by first | assumption | (repeat' (first | (with_reducible assumption) | (with_reducible exact Below.refl _ _) | (with_reducible refine below_drewN ?_ _) | (with_reducible refine Below.drew ?_) | (with_reducible refine Below.setCell ?_ ?_ _) | (with_reducible refine Below.alloc ?_ ?_ _) | omega | (simp; done) | (simp; omega))))))) | fail
      all_goals
        go_wp2_with fail
        go_meet
        exact ⟨by first | rfl | (simp; done), by first | assumption | (simp [*, go_sem]; done), by first | assumption | (simp [*, go_sem]; done), by first | assumption | (simp [*, go_sem]; done), by first | assumption | (simp [*, go_sem]; done), by first | assumption | (simp; omega), by first | assumption | (repeat' (first | (with_reducible assumption) | (with_reducible exact Below.refl _ _) | (with_reducible refine below_drewN ?_ _) | (with_reducible refine Below.drew ?_) | (with_reducible refine Below.setCell ?_ ?_ _) | (with_reducible refine Below.alloc ?_ ?_ _) | omega | (simp; done) | (simp; omega)))⟩
    case rest =>
      obtain ⟨rfl, k0, k1, f0, f1, hsz2, hbw⟩ := hcut
      obtain ⟨wo, rfl⟩ : ∃ wo : World, wo = wc := ⟨_, rfl⟩
      cases g
      · have hV : ¬ 10000000000000000000000000000000000 ≤ V := by have := HG.out; simpa using this
        go_wp2_with fail
        go_region
        go_wp2_with fail
        refine bodyPost_ret (v := .tuple #[.int .i64 1, .bool (a / 9223372036854775808 == 1), .agg #[.int .u64 (a % 562949953421312), .int .u64 b], .int .i64 (a / 562949953421312 % 16384 - 6176)]) (by simp (maxDischargeDepth := 3) [results, Tryd.results20, go_sem, k0, k1, hsz2]) rfl ?_
        exact ⟨ret_s rfl rfl rfl rfl rfl, by repeat' (first | (with_reducible assumption) | (with_reducible exact Below.refl _ _) | (with_reducible refine below_drewN ?_ _) | (with_reducible refine Below.drew ?_) | (with_reducible refine Below.setCell ?_ ?_ _) | (with_reducible refine Below.alloc ?_ ?_ _) | omega | (simp; done) | (simp; omega))⟩
      · have hV : 10000000000000000000000000000000000 ≤ V := HG.out.1 rfl
        go_wp2_with fail
        go_region
        go_wp2_with fail
        refine bodyPost_ret (v := .tuple #[.int .i64 1, .bool (a / 9223372036854775808 == 1), .agg #[.int .u64 0, .int .u64 0], .int .i64 (a / 562949953421312 % 16384 - 6176)]) (by simp (maxDischargeDepth := 3) [results, Tryd.results20, go_sem, k0, k1, hsz2]) rfl ?_
        exact ⟨ret_s rfl rfl rfl rfl rfl, by repeat' (first | (with_reducible assumption) | (with_reducible exact Below.refl _ _) | (with_reducible refine below_drewN ?_ _) | (with_reducible refine Below.drew ?_) | (with_reducible refine Below.setCell ?_ ?_ _) | (with_reducible refine Below.alloc ?_ ?_ _) | omega | (simp; done) | (simp; omega))⟩
end Go.Proofs.YtiagngnpbpblaaaDoor
