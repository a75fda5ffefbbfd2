/- The contracts of wide.Up and wide.Down, and the reference's. No condition. -/
import Derived.Test.YtgkgacmphafieaaDoorSh1
import Derived.Test.YtgkgacmphafieaaDoorRDiv
import Derived.StillTailTactics
import Derived.Outline
namespace Go.Proofs.YtgkgacmphafieaaDoor
open Go.RowKit
set_option linter.unusedSimpArgs false
set_option linter.unusedVariables false

set_option maxHeartbeats 1600000 in
set_option maxRecDepth 100000 in
theorem wideUp_walk (h l n c : Int) (hc0 : 0 ≤ c) (n1 : n ≤ 9223372036854775807) (hc : c = if n < 0 then 0 else n) (x y : Int)
    (HL : c < 64 → bits .or .u64 (IntKind.u64.wrap (h * 2 ^ c.toNat)) (l / 2 ^ (64 - c).toNat) = x ∧ IntKind.u64.wrap (l * 2 ^ c.toNat) = y)
    (HH : ∀ m : Int, 64 ≤ c → (m = if c - 64 ≤ 64 then c - 64 else 64) → IntKind.u64.wrap (l * 2 ^ m.toNat) = x ∧ 0 = y) (w : World) :
    Calls Tryd.prog 43 #[.agg #[.int .u64 h, .int .u64 l], .int .i64 n] w fun e w' => e = .returned (.agg #[.int .u64 x, .int .u64 y]) ∧ Below w.heap.size w w' := by
  have HC := Lib.hid hc
  replace HL := Lib.hid HL
  replace HH := Lib.hid HH
  have c1 : c ≤ 9223372036854775807 := by rw [hc]; split <;> omega
  clear hc
  go_enter Tryd.func43, Tryd.ntmps43
  go_upto_region 1 with fail
  go_cut [1] (fun v W => v = .int .i64 c ∧ W.cell? ⟨w.heap.size, 0, none⟩ = some (.int .u64 h) ∧ W.cell? ⟨w.heap.size, 1, none⟩ = some (.int .u64 l) ∧ W.cell? ⟨w.heap.size + 1, 0, none⟩ = some (.int .u64 0) ∧ W.cell? ⟨w.heap.size + 1, 1, none⟩ = some (.int .u64 0) ∧
    W.frozen? ⟨w.heap.size + 1, 0, none⟩ = false ∧ W.frozen? ⟨w.heap.size + 1, 1, none⟩ = false ∧ Below w.heap.size w W)
  case first =>
    have hq := HC.out
    by_cases hn : n < 0
    all_goals
      simp only [hn, if_true, if_false] at hq
      have HQ := Lib.hid hq
      clear hq
      go_wp2_with fail
      go_meet
      refine ⟨by rw [HQ.out], ?_⟩
      (repeat' apply And.intro) <;> first | (simp (maxDischargeDepth := 6) [go_sem]; done) | (simp; omega) | (repeat' (first | (with_reducible assumption) | (with_reducible exact Below.refl _ _) | (with_reducible refine below_drewN ?_ _) | (with_reducible refine Below.drew ?_) | (with_reducible refine Below.setCell ?_ ?_ _) | (with_reducible refine Below.alloc ?_ ?_ _) | omega | (simp; done) | (simp; omega)))
  case rest =>
    obtain ⟨rfl, a0, a1, b0, b1, g0, g1, hbw⟩ := hcut
    clear HC n1
    by_cases hc : c < 64
    · obtain ⟨e1, e2⟩ := HL.out hc
      have E1 := Lib.hid e1
      have E2 := Lib.hid e2
      clear e1 e2
      go_wp2_with fail
      go_region
      go_wp2_with fail
      refine bodyPost_ret (v := .agg #[.int .u64 x, .int .u64 y]) (by simp (maxDischargeDepth := 6) [results, Tryd.results43, go_sem, a0, a1, b0, b1, g0, g1, E1.out, E2.out]) rfl ?_
      exact ⟨rfl, by repeat' (first | (with_reducible assumption) | (with_reducible exact Below.refl _ _) | (with_reducible refine below_drewN ?_ _) | (with_reducible refine Below.drew ?_) | (with_reducible refine Below.setCell ?_ ?_ _) | (with_reducible refine Below.alloc ?_ ?_ _) | omega | (simp; done) | (simp; omega))⟩
    · have hq := HH.out _ (by omega) rfl
      by_cases hm : c - 64 ≤ 64
      all_goals
        simp only [hm, if_true, if_false] at hq
        obtain ⟨e1, e2⟩ := hq
        have E1 := Lib.hid e1
        have E2 := Lib.hid e2
        clear e1 e2
        go_wp2_with fail
        refine bodyPost_ret (v := .agg #[.int .u64 x, .int .u64 y]) (by simp (maxDischargeDepth := 6) [results, Tryd.results43, go_sem, a0, a1, b0, b1, g0, g1]; exact ⟨E1.out, E2.out⟩) rfl ?_
        exact ⟨rfl, by repeat' (first | (with_reducible assumption) | (with_reducible exact Below.refl _ _) | (with_reducible refine below_drewN ?_ _) | (with_reducible refine Below.drew ?_) | (with_reducible refine Below.setCell ?_ ?_ _) | (with_reducible refine Below.alloc ?_ ?_ _) | omega | (simp; done) | (simp; omega))⟩

set_option maxHeartbeats 1600000 in
set_option maxRecDepth 100000 in
theorem wideDown_walk (h l n c : Int) (hc0 : 0 ≤ c) (n1 : n ≤ 9223372036854775807) (hc : c = if n < 0 then 0 else n) (x y : Int)
    (HL : c < 64 → h / 2 ^ c.toNat = x ∧ bits .or .u64 (l / 2 ^ c.toNat) (IntKind.u64.wrap (h * 2 ^ (64 - c).toNat)) = y)
    (HH : ∀ m : Int, 64 ≤ c → (m = if c - 64 ≤ 64 then c - 64 else 64) → 0 = x ∧ h / 2 ^ m.toNat = y) (w : World) :
    Calls Tryd.prog 45 #[.agg #[.int .u64 h, .int .u64 l], .int .i64 n] w fun e w' => e = .returned (.agg #[.int .u64 x, .int .u64 y]) ∧ Below w.heap.size w w' := by
  have HC := Lib.hid hc
  replace HL := Lib.hid HL
  replace HH := Lib.hid HH
  have c1 : c ≤ 9223372036854775807 := by rw [hc]; split <;> omega
  clear hc
  go_enter Tryd.func45, Tryd.ntmps45
  go_upto_region 1 with fail
  go_cut [1] (fun v W => v = .int .i64 c ∧ W.cell? ⟨w.heap.size, 0, none⟩ = some (.int .u64 h) ∧ W.cell? ⟨w.heap.size, 1, none⟩ = some (.int .u64 l) ∧ W.cell? ⟨w.heap.size + 1, 0, none⟩ = some (.int .u64 0) ∧ W.cell? ⟨w.heap.size + 1, 1, none⟩ = some (.int .u64 0) ∧
    W.frozen? ⟨w.heap.size + 1, 0, none⟩ = false ∧ W.frozen? ⟨w.heap.size + 1, 1, none⟩ = false ∧ Below w.heap.size w W)
  case first =>
    have hq := HC.out
    by_cases hn : n < 0
    all_goals
      simp only [hn, if_true, if_false] at hq
      have HQ := Lib.hid hq
      clear hq
      go_wp2_with fail
      go_meet
      refine ⟨by rw [HQ.out], ?_⟩
      (repeat' apply And.intro) <;> first | (simp (maxDischargeDepth := 6) [go_sem]; done) | (simp; omega) | (repeat' (first | (with_reducible assumption) | (with_reducible exact Below.refl _ _) | (with_reducible refine below_drewN ?_ _) | (with_reducible refine Below.drew ?_) | (with_reducible refine Below.setCell ?_ ?_ _) | (with_reducible refine Below.alloc ?_ ?_ _) | omega | (simp; done) | (simp; omega)))
  case rest =>
    obtain ⟨rfl, a0, a1, b0, b1, g0, g1, hbw⟩ := hcut
    clear HC n1
    by_cases hc : c < 64
    · obtain ⟨e1, e2⟩ := HL.out hc
      have E1 := Lib.hid e1
      have E2 := Lib.hid e2
      clear e1 e2
      go_wp2_with fail
      go_region
      go_wp2_with fail
      refine bodyPost_ret (v := .agg #[.int .u64 x, .int .u64 y]) (by simp (maxDischargeDepth := 6) [results, Tryd.results45, go_sem, a0, a1, b0, b1, g0, g1, E1.out, E2.out]) rfl ?_
      exact ⟨rfl, by repeat' (first | (with_reducible assumption) | (with_reducible exact Below.refl _ _) | (with_reducible refine below_drewN ?_ _) | (with_reducible refine Below.drew ?_) | (with_reducible refine Below.setCell ?_ ?_ _) | (with_reducible refine Below.alloc ?_ ?_ _) | omega | (simp; done) | (simp; omega))⟩
    · have hq := HH.out _ (by omega) rfl
      by_cases hm : c - 64 ≤ 64
      all_goals
        simp only [hm, if_true, if_false] at hq
        obtain ⟨e1, e2⟩ := hq
        have E1 := Lib.hid e1
        have E2 := Lib.hid e2
        clear e1 e2
        go_wp2_with fail
        refine bodyPost_ret (v := .agg #[.int .u64 x, .int .u64 y]) (by simp (maxDischargeDepth := 6) [results, Tryd.results45, go_sem, a0, a1, b0, b1, g0, g1]; exact ⟨E1.out, E2.out⟩) rfl ?_
        exact ⟨rfl, by repeat' (first | (with_reducible assumption) | (with_reducible exact Below.refl _ _) | (with_reducible refine below_drewN ?_ _) | (with_reducible refine Below.drew ?_) | (with_reducible refine Below.setCell ?_ ?_ _) | (with_reducible refine Below.alloc ?_ ?_ _) | omega | (simp; done) | (simp; omega))⟩

def shN (n : Int) : Nat := min n.toNat 128

theorem wideUp_any (h l n : Int) (h0 : 0 ≤ h) (h1 : h ≤ 18446744073709551615) (l0 : 0 ≤ l) (l1 : l ≤ 18446744073709551615) (n1 : n ≤ 9223372036854775807) (w : World) :
    Calls Tryd.prog 43 #[.agg #[.int .u64 h, .int .u64 l], .int .i64 n] w fun e w' => e = .returned (.agg #[.int .u64 (upV (wV h l) (shN n) / 18446744073709551616), .int .u64 (upV (wV h l) (shN n) % 18446744073709551616)]) ∧ Below w.heap.size w w' := by
  refine wideUp_walk h l n (if n < 0 then 0 else n) (by split <;> omega) n1 rfl _ _ ?_ ?_ w
  · intro hc
    generalize hce : (if n < 0 then 0 else n) = c at *
    have e1 : (64 - c).toNat = 64 - c.toNat := by split at hce <;> omega
    have e2 : shN n = c.toNat := by unfold shN; split at hce <;> omega
    rw [e1, e2]
    exact up_low h l c.toNat (by omega) h0 l0 l1
  · intro m hc hm
    generalize hce : (if n < 0 then 0 else n) = c at *
    have e2 : shN n = 64 + m.toNat := by unfold shN; split at hce <;> split at hm <;> omega
    rw [e2]
    exact ⟨(up_high h l m.toNat).1, (up_high h l m.toNat).2.symm⟩

theorem wideDown_any (h l n : Int) (h0 : 0 ≤ h) (h1 : h ≤ 18446744073709551615) (l0 : 0 ≤ l) (l1 : l ≤ 18446744073709551615) (n1 : n ≤ 9223372036854775807) (w : World) :
    Calls Tryd.prog 45 #[.agg #[.int .u64 h, .int .u64 l], .int .i64 n] w fun e w' => e = .returned (.agg #[.int .u64 (dnV (wV h l) (shN n) / 18446744073709551616), .int .u64 (dnV (wV h l) (shN n) % 18446744073709551616)]) ∧ Below w.heap.size w w' := by
  refine wideDown_walk h l n (if n < 0 then 0 else n) (by split <;> omega) n1 rfl _ _ ?_ ?_ w
  · intro hc
    generalize hce : (if n < 0 then 0 else n) = c at *
    have e1 : (64 - c).toNat = 64 - c.toNat := by split at hce <;> omega
    have e2 : shN n = c.toNat := by unfold shN; split at hce <;> omega
    rw [e1, e2]
    exact down_low h l c.toNat (by omega) h0 h1 l0 l1
  · intro m hc hm
    generalize hce : (if n < 0 then 0 else n) = c at *
    have e2 : shN n = 64 + m.toNat := by unfold shN; split at hce <;> split at hm <;> omega
    rw [e2]
    exact down_high h l m.toNat h0 h1 l0 l1

theorem dnV_bd2 (V : Int) (k : Nat) (h : 0 ≤ V ∧ V < 340282366920938463463374607431768211456) : 0 ≤ dnV V k ∧ dnV V k ≤ 340282366920938463463374607431768211455 := by
  have := dnV_bd V k h.1; omega

set_option maxHeartbeats 1600000 in
set_option maxRecDepth 100000 in
theorem refUp_any (h l n : Int) (h0 : 0 ≤ h) (h1 : h ≤ 18446744073709551615) (l0 : 0 ≤ l) (l1 : l ≤ 18446744073709551615) (n1 : n ≤ 9223372036854775807) (w : World) :
    Calls Tryd.prog 44 #[.agg #[.int .u64 h, .int .u64 l], .int .i64 n] w fun e w' => e = .returned (.agg #[.int .u64 (upV (wV h l) (shN n) / 18446744073709551616), .int .u64 (upV (wV h l) (shN n) % 18446744073709551616)]) ∧ Below w.heap.size w w' := by
  have hV := wV_bd h l h0 h1 l0 l1
  obtain ⟨V, hVe⟩ : ∃ V, V = wV h l := ⟨_, rfl⟩
  have hst : Hid (h = upV V 0 / 18446744073709551616 ∧ l = upV V 0 % 18446744073709551616) := hide (by
    rw [upV_zero V (by rw [hVe]; exact hV.1) (by rw [hVe]; exact hV.2), hVe]; unfold wV; omega)
  rw [← hVe] at hV ⊢
  have HV := Lib.hid hV
  clear hV hVe
  go_enter Tryd.func44, Tryd.ntmps44
  go_wp2_with fail
  go_loopg [5] 128 (fun g s5 wr => ∃ (i : Nat) (a b : Int), s5 = .int .i64 i ∧ i ≤ 128 ∧ Hid (i ≤ shN n) ∧ 128 - i ≤ g ∧ Hid (a = upV V i / 18446744073709551616 ∧ b = upV V i % 18446744073709551616) ∧ 0 ≤ a ∧ a ≤ 18446744073709551615 ∧ 0 ≤ b ∧ b ≤ 18446744073709551615 ∧
    wr.cell? ⟨w.heap.size, 0, none⟩ = some (.int .u64 a) ∧ wr.cell? ⟨w.heap.size, 1, none⟩ = some (.int .u64 b) ∧ wr.frozen? ⟨w.heap.size, 0, none⟩ = false ∧ wr.frozen? ⟨w.heap.size, 1, none⟩ = false ∧
    wr.cell? ⟨w.heap.size + 1, 0, none⟩ = some (.int .u64 0) ∧ wr.cell? ⟨w.heap.size + 1, 1, none⟩ = some (.int .u64 0) ∧ wr.frozen? ⟨w.heap.size + 1, 0, none⟩ = false ∧ wr.frozen? ⟨w.heap.size + 1, 1, none⟩ = false ∧ Below w.heap.size w wr)
  case atStart =>
    refine ⟨0, h, l, rfl, by omega, hide (Nat.zero_le _), by omega, hst, h0, h1, l0, l1, ?_⟩
    (repeat' apply And.intro) <;> first | (simp (maxDischargeDepth := 6) [go_sem]; done) | (simp; omega) | (repeat' (first | (with_reducible assumption) | (with_reducible exact Below.refl _ _) | (with_reducible refine below_drewN ?_ _) | (with_reducible refine Below.drew ?_) | (with_reducible refine Below.setCell ?_ ?_ _) | (with_reducible refine Below.alloc ?_ ?_ _) | omega | (simp; done) | (simp; omega)))
  case round =>
    obtain ⟨i, a, b, rfl, hi, hin, hg, hab, ha0, ha1, hb0, hb1, c0, c1, f0, f1, d0, d1, g0, g1, hbw⟩ := hrel
    by_cases hlt : (i : Int) < n
    · by_cases h128 : (i : Int) < 128
      · have hin2 : Hid (i + 1 ≤ shN n) := hide (by have := unhide hin; unfold shN at *; omega)
        have hp := dbl_parts (upV V i) (upV_bd V i).1 (upV_bd V i).2
        rw [← upV_succ V i] at hp
        obtain ⟨a', ha'⟩ : ∃ a', a' = upV V (i + 1) / 18446744073709551616 := ⟨_, rfl⟩
        obtain ⟨b', hb'⟩ : ∃ b', b' = upV V (i + 1) % 18446744073709551616 := ⟨_, rfl⟩
        rw [← (unhide hab).1, ← (unhide hab).2, ← ha', ← hb'] at hp
        obtain ⟨p1, p2⟩ := hp
        have hab2 : Hid (a' = upV V (i + 1) / 18446744073709551616 ∧ b' = upV V (i + 1) % 18446744073709551616) := hide ⟨ha', hb'⟩
        have hbd2 := upV_bd V (i + 1)
        have q1 : 0 ≤ a' ∧ a' ≤ 18446744073709551615 := by omega
        have q2 : 0 ≤ b' ∧ b' ≤ 18446744073709551615 := by omega
        obtain ⟨q10, q11⟩ := q1
        obtain ⟨q20, q21⟩ := q2
        clear ha' hb' hbd2
        go_wp2_with fail
        go_roundg (128 - (i + 1))
        case measure => omega
        case rel =>
          refine ⟨i + 1, a', b', by go_num, by omega, hin2, Nat.le_refl _, hab2, q10, q11, q20, q21, ?_⟩
          (repeat' apply And.intro) <;> first | (simp (maxDischargeDepth := 6) [go_sem, c0, c1, f0, f1, d0, d1, g0, g1, p1, p2]; done) | (simp; omega) | (repeat' (first | (with_reducible assumption) | (with_reducible exact Below.refl _ _) | (with_reducible refine below_drewN ?_ _) | (with_reducible refine Below.drew ?_) | (with_reducible refine Below.setCell ?_ ?_ _) | (with_reducible refine Below.alloc ?_ ?_ _) | omega | (simp; done) | (simp; omega)))
      · have hend : Hid (i = shN n) := hide (by have := unhide hin; unfold shN at *; omega)
        go_wp2_with fail
        refine bodyPost_ret (v := .agg #[.int .u64 a, .int .u64 b]) (by simp (maxDischargeDepth := 6) [results, Tryd.results44, go_sem, c0, c1, d0, d1, g0, g1]) rfl ?_
        exact ⟨by rw [← unhide hend, ← (unhide hab).1, ← (unhide hab).2], by repeat' (first | (with_reducible assumption) | (with_reducible exact Below.refl _ _) | (with_reducible refine below_drewN ?_ _) | (with_reducible refine Below.drew ?_) | (with_reducible refine Below.setCell ?_ ?_ _) | (with_reducible refine Below.alloc ?_ ?_ _) | omega | (simp; done) | (simp; omega))⟩
    · have hend : Hid (i = shN n) := hide (by have := unhide hin; unfold shN at *; omega)
      go_wp2_with fail
      refine bodyPost_ret (v := .agg #[.int .u64 a, .int .u64 b]) (by simp (maxDischargeDepth := 6) [results, Tryd.results44, go_sem, c0, c1, d0, d1, g0, g1]) rfl ?_
      exact ⟨by rw [← unhide hend, ← (unhide hab).1, ← (unhide hab).2], by repeat' (first | (with_reducible assumption) | (with_reducible exact Below.refl _ _) | (with_reducible refine below_drewN ?_ _) | (with_reducible refine Below.drew ?_) | (with_reducible refine Below.setCell ?_ ?_ _) | (with_reducible refine Below.alloc ?_ ?_ _) | omega | (simp; done) | (simp; omega))⟩

set_option maxHeartbeats 1600000 in
set_option maxRecDepth 100000 in
theorem refDown_any (h l n : Int) (h0 : 0 ≤ h) (h1 : h ≤ 18446744073709551615) (l0 : 0 ≤ l) (l1 : l ≤ 18446744073709551615) (n1 : n ≤ 9223372036854775807) (w : World) :
    Calls Tryd.prog 46 #[.agg #[.int .u64 h, .int .u64 l], .int .i64 n] w fun e w' => e = .returned (.agg #[.int .u64 (dnV (wV h l) (shN n) / 18446744073709551616), .int .u64 (dnV (wV h l) (shN n) % 18446744073709551616)]) ∧ Below w.heap.size w w' := by
  have hV := wV_bd h l h0 h1 l0 l1
  obtain ⟨V, hVe⟩ : ∃ V, V = wV h l := ⟨_, rfl⟩
  have hst : Hid (h = dnV V 0 / 18446744073709551616 ∧ l = dnV V 0 % 18446744073709551616) := hide (by
    rw [dnV_zero V, hVe]; unfold wV; omega)
  rw [← hVe] at hV ⊢
  have HV := Lib.hid hV
  clear hV hVe
  go_enter Tryd.func46, Tryd.ntmps46
  go_wp2_with fail
  go_loopg [5] 128 (fun g s5 wr => ∃ (i : Nat) (a b : Int), s5 = .int .i64 i ∧ i ≤ 128 ∧ Hid (i ≤ shN n) ∧ 128 - i ≤ g ∧ Hid (a = dnV V i / 18446744073709551616 ∧ b = dnV V i % 18446744073709551616) ∧ 0 ≤ a ∧ a ≤ 18446744073709551615 ∧ 0 ≤ b ∧ b ≤ 18446744073709551615 ∧
    wr.cell? ⟨w.heap.size, 0, none⟩ = some (.int .u64 a) ∧ wr.cell? ⟨w.heap.size, 1, none⟩ = some (.int .u64 b) ∧ wr.frozen? ⟨w.heap.size, 0, none⟩ = false ∧ wr.frozen? ⟨w.heap.size, 1, none⟩ = false ∧
    wr.cell? ⟨w.heap.size + 1, 0, none⟩ = some (.int .u64 0) ∧ wr.cell? ⟨w.heap.size + 1, 1, none⟩ = some (.int .u64 0) ∧ wr.frozen? ⟨w.heap.size + 1, 0, none⟩ = false ∧ wr.frozen? ⟨w.heap.size + 1, 1, none⟩ = false ∧ Below w.heap.size w wr)
  case atStart =>
    refine ⟨0, h, l, rfl, by omega, hide (Nat.zero_le _), by omega, hst, h0, h1, l0, l1, ?_⟩
    (repeat' apply And.intro) <;> first | (simp (maxDischargeDepth := 6) [go_sem]; done) | (simp; omega) | (repeat' (first | (with_reducible assumption) | (with_reducible exact Below.refl _ _) | (with_reducible refine below_drewN ?_ _) | (with_reducible refine Below.drew ?_) | (with_reducible refine Below.setCell ?_ ?_ _) | (with_reducible refine Below.alloc ?_ ?_ _) | omega | (simp; done) | (simp; omega)))
  case round =>
    obtain ⟨i, a, b, rfl, hi, hin, hg, hab, ha0, ha1, hb0, hb1, c0, c1, f0, f1, d0, d1, g0, g1, hbw⟩ := hrel
    by_cases hlt : (i : Int) < n
    · by_cases h128 : (i : Int) < 128
      · have hin2 : Hid (i + 1 ≤ shN n) := hide (by have := unhide hin; unfold shN at *; omega)
        have hp := half_parts (dnV V i) (dnV_bd2 V i HV.out).1 (dnV_bd2 V i HV.out).2
        rw [← dnV_succ V i] at hp
        obtain ⟨a', ha'⟩ : ∃ a', a' = dnV V (i + 1) / 18446744073709551616 := ⟨_, rfl⟩
        obtain ⟨b', hb'⟩ : ∃ b', b' = dnV V (i + 1) % 18446744073709551616 := ⟨_, rfl⟩
        rw [← (unhide hab).1, ← (unhide hab).2, ← ha', ← hb'] at hp
        obtain ⟨p1, p2⟩ := hp
        have hab2 : Hid (a' = dnV V (i + 1) / 18446744073709551616 ∧ b' = dnV V (i + 1) % 18446744073709551616) := hide ⟨ha', hb'⟩
        have hbd2 := dnV_bd2 V (i + 1) HV.out
        have q1 : 0 ≤ a' ∧ a' ≤ 18446744073709551615 := by omega
        have q2 : 0 ≤ b' ∧ b' ≤ 18446744073709551615 := by omega
        obtain ⟨q10, q11⟩ := q1
        obtain ⟨q20, q21⟩ := q2
        clear ha' hb' hbd2
        go_wp2_with fail
        go_roundg (128 - (i + 1))
        case measure => omega
        case rel =>
          refine ⟨i + 1, a', b', by go_num, by omega, hin2, Nat.le_refl _, hab2, q10, q11, q20, q21, ?_⟩
          (repeat' apply And.intro) <;> first | (simp (maxDischargeDepth := 6) [go_sem, c0, c1, f0, f1, d0, d1, g0, g1, p1, p2]; done) | (simp; omega) | (repeat' (first | (with_reducible assumption) | (with_reducible exact Below.refl _ _) | (with_reducible refine below_drewN ?_ _) | (with_reducible refine Below.drew ?_) | (with_reducible refine Below.setCell ?_ ?_ _) | (with_reducible refine Below.alloc ?_ ?_ _) | omega | (simp; done) | (simp; omega)))
      · have hend : Hid (i = shN n) := hide (by have := unhide hin; unfold shN at *; omega)
        go_wp2_with fail
        refine bodyPost_ret (v := .agg #[.int .u64 a, .int .u64 b]) (by simp (maxDischargeDepth := 6) [results, Tryd.results46, go_sem, c0, c1, d0, d1, g0, g1]) rfl ?_
        exact ⟨by rw [← unhide hend, ← (unhide hab).1, ← (unhide hab).2], by repeat' (first | (with_reducible assumption) | (with_reducible exact Below.refl _ _) | (with_reducible refine below_drewN ?_ _) | (with_reducible refine Below.drew ?_) | (with_reducible refine Below.setCell ?_ ?_ _) | (with_reducible refine Below.alloc ?_ ?_ _) | omega | (simp; done) | (simp; omega))⟩
    · have hend : Hid (i = shN n) := hide (by have := unhide hin; unfold shN at *; omega)
      go_wp2_with fail
      refine bodyPost_ret (v := .agg #[.int .u64 a, .int .u64 b]) (by simp (maxDischargeDepth := 6) [results, Tryd.results46, go_sem, c0, c1, d0, d1, g0, g1]) rfl ?_
      exact ⟨by rw [← unhide hend, ← (unhide hab).1, ← (unhide hab).2], by repeat' (first | (with_reducible assumption) | (with_reducible exact Below.refl _ _) | (with_reducible refine below_drewN ?_ _) | (with_reducible refine Below.drew ?_) | (with_reducible refine Below.setCell ?_ ?_ _) | (with_reducible refine Below.alloc ?_ ?_ _) | omega | (simp; done) | (simp; omega))⟩

end Go.Proofs.YtgkgacmphafieaaDoor
