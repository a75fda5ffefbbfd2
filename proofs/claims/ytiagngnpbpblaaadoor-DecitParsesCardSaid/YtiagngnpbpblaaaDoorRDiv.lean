/- Contracts of the reference's bit and Div: the quotient of a number of 128 bits by one of 64, and what is left. Condition of Div's contract: the divisor is not 0. -/
import Derived.Test.YtiagngnpbpblaaaDoorRAdd
namespace Go.Proofs.YtiagngnpbpblaaaDoor
open Go.RowKit
set_option linter.unusedSimpArgs false
set_option linter.unusedVariables false

theorem two_pow_ne (n : Nat) : (2 : Int) ^ n ≠ 0 := Int.ne_of_gt (Int.pow_pos (by decide))
theorem bit_low (h l : Int) (n : Nat) (hn : n < 64) : l / 2 ^ n % 2 = wV h l / 2 ^ n % 2 := by
  unfold wV
  have e : (18446744073709551616 : Int) = 2 * 2 ^ (63 - n) * 2 ^ n := by
    rw [Int.mul_assoc, ← Int.pow_add, show 63 - n + n = 63 from by omega]; decide
  rw [e, show h * (2 * 2 ^ (63 - n) * 2 ^ n) = (h * 2 ^ (63 - n) * 2) * 2 ^ n from by grind, Int.add_comm, Int.add_mul_ediv_right _ _ (two_pow_ne n)]
  omega
theorem bit_high (h l : Int) (l0 : 0 ≤ l) (l1 : l ≤ 18446744073709551615) (n : Nat) (hn : 64 ≤ n) : h / 2 ^ (n - 64) % 2 = wV h l / 2 ^ n % 2 := by
  unfold wV
  have e : (2 : Int) ^ n = 18446744073709551616 * 2 ^ (n - 64) := by
    rw [show (18446744073709551616 : Int) = 2 ^ 64 from by decide, ← Int.pow_add, show 64 + (n - 64) = n from by omega]
  rw [e, Int.mul_comm (18446744073709551616 : Int), Int.mul_comm (2 ^ (n - 64) : Int), ← Int.ediv_ediv_of_nonneg (by decide : (0 : Int) ≤ 18446744073709551616)]
  have : (h * 18446744073709551616 + l) / 18446744073709551616 = h := by omega
  rw [this]

set_option maxRecDepth 100000 in
set_option maxHeartbeats 400000 in
theorem refBit_any (h l k : Int) (h0 : 0 ≤ h) (h1 : h ≤ 18446744073709551615) (l0 : 0 ≤ l) (l1 : l ≤ 18446744073709551615) (k0 : 0 ≤ k) (k1 : k ≤ 127) (w : World) :
    Calls Tryd.prog 80 #[.agg #[.int .u64 h, .int .u64 l], .int .i64 k] w fun e w' => e = .returned (.int .u64 (wV h l / 2 ^ k.toNat % 2)) ∧ w' = w.alloc (.cells #[.int .u64 h, .int .u64 l] 31) := by
  by_cases hk : k < 64
  · have e1 := bit_low h l k.toNat (by omega)
    have e2 : bits .and .u64 (l / 2 ^ k.toNat) 1 = l / 2 ^ k.toNat % 2 := by
      have hp : (0 : Int) < 2 ^ k.toNat := Int.pow_pos (by decide)
      have d0 : 0 ≤ l / 2 ^ k.toNat := Int.ediv_nonneg l0 (Int.le_of_lt hp)
      have d1 : l / 2 ^ k.toNat ≤ l := Int.ediv_le_self _ l0
      exact and_mask 1 (by omega) _ d0 (by omega) _ (by decide)
    have E1 := Lib.hid e1
    have E2 := Lib.hid e2
    clear e1 e2
    go_enter Tryd.func80, Tryd.ntmps80
    go_wp2_with fail
    go_ret
    exact ⟨ret_i (by rw [← E1.out, ← E2.out]), rfl⟩
  · have e0 : (k - 64).toNat = k.toNat - 64 := by omega
    have e1 := bit_high h l l0 l1 k.toNat (by omega)
    have e2 : bits .and .u64 (h / 2 ^ (k - 64).toNat) 1 = h / 2 ^ (k - 64).toNat % 2 := by
      have hp : (0 : Int) < 2 ^ (k - 64).toNat := Int.pow_pos (by decide)
      have d0 : 0 ≤ h / 2 ^ (k - 64).toNat := Int.ediv_nonneg h0 (Int.le_of_lt hp)
      have d1 : h / 2 ^ (k - 64).toNat ≤ h := Int.ediv_le_self _ h0
      exact and_mask 1 (by omega) _ d0 (by omega) _ (by decide)
    have E0 := Lib.hid e0
    have E1 := Lib.hid e1
    have E2 := Lib.hid e2
    clear e0 e1 e2
    go_enter Tryd.func80, Tryd.ntmps80
    go_wp2_with fail
    go_ret
    exact ⟨ret_i (by rw [← E1.out, ← E0.out, ← E2.out]), rfl⟩

/-- One digit of 2 more. -/
theorem halves (A : Int) (k : Int) (k0 : 0 ≤ k) : A / 2 ^ k.toNat = 2 * (A / 2 ^ (k + 1).toNat) + A / 2 ^ k.toNat % 2 := by
  have e : (k + 1).toNat = k.toNat + 1 := by omega
  rw [e, Int.pow_succ, ← Int.ediv_ediv_of_nonneg (Int.le_of_lt (Int.pow_pos (by decide)))]
  generalize A / 2 ^ k.toNat = x
  omega

theorem top_zero (A : Int) (A0 : 0 ≤ A) (A1 : A < 340282366920938463463374607431768211456) : A / 2 ^ ((127 : Int) + 1).toNat = 0 := by
  have e : (2 : Int) ^ ((127 : Int) + 1).toNat = 340282366920938463463374607431768211456 := by decide
  rw [e]
  exact Int.ediv_eq_zero_of_lt A0 A1
theorem q_bound (A b Q r : Int) (hA : 0 ≤ A) (hb : 1 ≤ b) (hr : 0 ≤ r) (hQ : 0 ≤ Q) (h : Q * b + r = A) : Q ≤ A := by
  have h1 : Q * 1 ≤ Q * b := Int.mul_le_mul_of_nonneg_left hb hQ
  omega

theorem wV_bd (h l : Int) (h0 : 0 ≤ h) (h1 : h ≤ 18446744073709551615) (l0 : 0 ≤ l) (l1 : l ≤ 18446744073709551615) : 0 ≤ wV h l ∧ wV h l < 340282366920938463463374607431768211456 := by
  unfold wV; omega

set_option maxRecDepth 100000 in
set_option maxHeartbeats 4000000 in
theorem refDiv_any (h l b : Int) (h0 : 0 ≤ h) (h1 : h ≤ 18446744073709551615) (l0 : 0 ≤ l) (l1 : l ≤ 18446744073709551615) (b0 : 1 ≤ b) (b1 : b ≤ 18446744073709551615) (w : World) :
    Calls Tryd.prog 67 #[.agg #[.int .u64 h, .int .u64 l], .int .u64 b] w fun e w' =>
      e = .returned (.tuple #[.agg #[.int .u64 (wV h l / b / 18446744073709551616), .int .u64 (wV h l / b % 18446744073709551616)], .int .u64 (wV h l % b), .bool true]) ∧ Below w.heap.size w w' := by
  obtain ⟨A0, A1⟩ := wV_bd h l h0 h1 l0 l1
  have bit := fun k k0 k1 w => refBit_any h l k h0 h1 l0 l1 k0 k1 w
  generalize hA : wV h l = A at *
  have HA := Lib.hid hA
  have BIT := Lib.hid bit
  clear hA bit
  have hbz := beq_f (show ¬ b = 0 by omega)
  go_enter Tryd.func67, Tryd.ntmps67
  go_wp2_with fail
  go_loopw [8, 9] (fun s8 s9 wr => ∃ k Q r : Int, s9 = .int .i64 k ∧ s8 = .int .u64 r ∧ -1 ≤ k ∧ k ≤ 127 ∧ Q * b + r = A / 2 ^ (k + 1).toNat ∧ 0 ≤ r ∧ r < b ∧ 0 ≤ Q ∧
      wr.cell? ⟨w.heap.size, 0, none⟩ = some (.int .u64 h) ∧ wr.cell? ⟨w.heap.size, 1, none⟩ = some (.int .u64 l) ∧
      wr.cell? ⟨w.heap.size + 1, 0, none⟩ = some (.int .u64 0) ∧ wr.cell? ⟨w.heap.size + 1, 1, none⟩ = some (.int .u64 0) ∧ wr.frozen? ⟨w.heap.size + 1, 0, none⟩ = false ∧ wr.frozen? ⟨w.heap.size + 1, 1, none⟩ = false ∧
      wr.cell? ⟨w.heap.size + 1 + 1, 0, none⟩ = some (.int .u64 (Q / 18446744073709551616)) ∧ wr.cell? ⟨w.heap.size + 1 + 1, 1, none⟩ = some (.int .u64 (Q % 18446744073709551616)) ∧ wr.frozen? ⟨w.heap.size + 1 + 1, 0, none⟩ = false ∧ wr.frozen? ⟨w.heap.size + 1 + 1, 1, none⟩ = false ∧
      w.heap.size + 1 + 1 < wr.heap.size ∧ Below w.heap.size w wr) (fun _ s9 _ => (intOf s9 + 1).toNat)
  case atStart =>
    refine ⟨127, 0, 0, rfl, rfl, by omega, by omega, ?_, by omega, by omega, by omega, ?_⟩
    · rw [top_zero A A0 A1]; omega
    · (repeat' apply And.intro) <;> first | (simp (maxDischargeDepth := 6) [go_sem]; done) | (simp; omega) | (repeat' (first | (with_reducible assumption) | (with_reducible exact Below.refl _ _) | (with_reducible refine below_drewN ?_ _) | (with_reducible refine Below.drew ?_) | (with_reducible refine Below.setCell ?_ ?_ _) | (with_reducible refine Below.alloc ?_ ?_ _) | omega | (simp; done) | (simp; omega)))
  case round =>
    obtain ⟨k, Q, r, rfl, rfl, hk0, hk1, hq, hr0, hr1, hQ, c0, c1, d0, d1, f0, f1, q0, q1, g0, g1, hz, hbw⟩ := hrel
    have s1 : w.heap.size < wr.heap.size := by omega
    have s2 : w.heap.size + 1 < wr.heap.size := by omega
    have s3 : w.heap.size + 1 + 1 < wr.heap.size := by omega
    have s4 : w.heap.size < wr.heap.size + 1 := by omega
    have s5 : w.heap.size + 1 < wr.heap.size + 1 := by omega
    have s6 : w.heap.size + 1 + 1 < wr.heap.size + 1 := by omega
    by_cases hk : 0 ≤ k
    · have hA2 : A / 2 ^ k.toNat ≤ A := Int.ediv_le_self _ A0
      have hh := halves A k hk
      have hM0 : 0 ≤ A / 2 ^ (k + 1).toNat := Int.ediv_nonneg A0 (Int.le_of_lt (Int.pow_pos (by decide)))
      have bitk := fun w => BIT.out k hk hk1 w
      have hkk : A / 2 ^ (k - 1 + 1).toNat = A / 2 ^ k.toNat := by rw [show k - 1 + 1 = k from by omega]
      generalize A / 2 ^ k.toNat = N at *
      have hd0 : 0 ≤ N % 2 := by omega
      have hd1 : N % 2 ≤ 1 := by omega
      generalize N % 2 = d at *
      have hqb := q_bound _ b Q r hM0 b0 hr0 hQ hq
      generalize A / 2 ^ (k + 1).toNat = M at *
      have hN : 2 * (Q * b) + 2 * r + d = N := by omega
      have e2Q0 : (2 * Q) * b = 2 * (Q * b) := by grind
      have e2Q1 : (2 * Q + 1) * b = 2 * (Q * b) + b := by grind
      have hQ2 : Q < 170141183460469231731687303715884105728 := by omega
      have x1 : (2 * Q) / 18446744073709551616 = Q / 18446744073709551616 * 2 + Q % 18446744073709551616 / 9223372036854775808 := by omega
      have x2 : (2 * Q + 1) / 18446744073709551616 = Q / 18446744073709551616 * 2 + Q % 18446744073709551616 / 9223372036854775808 := by omega
      have x3 : (2 * Q) % 18446744073709551616 = IntKind.u64.wrap (Q % 18446744073709551616 * 2) := by rw [IntKind.wrap_u64]; omega
      have x4 : (2 * Q + 1) % 18446744073709551616 = IntKind.u64.wrap (Q % 18446744073709551616 * 2) + 1 := by rw [IntKind.wrap_u64]; omega
      have y1 : 0 ≤ Q / 18446744073709551616 := by omega
      have y2 : 0 ≤ Q % 18446744073709551616 := by omega
      have y3 : Q % 18446744073709551616 ≤ 18446744073709551615 := by omega
      have y4 : Q / 18446744073709551616 * 2 + Q % 18446744073709551616 / 9223372036854775808 ≤ 18446744073709551615 := by omega
      have y5 : 0 ≤ IntKind.u64.wrap (Q % 18446744073709551616 * 2) := by rw [IntKind.wrap_u64]; omega
      have y6 : IntKind.u64.wrap (Q % 18446744073709551616 * 2) ≤ 18446744073709551614 := by rw [IntKind.wrap_u64]; omega
      have X1 := Lib.hid x1
      have X2 := Lib.hid x2
      have X3 := Lib.hid x3
      have X4 := Lib.hid x4
      clear x1 x2 x3 x4 hqb hQ2
      generalize Q / 18446744073709551616 = qh at *
      generalize Q % 18446744073709551616 = ql at *
      obtain ⟨ql2, hql2⟩ : ∃ z, IntKind.u64.wrap (ql * 2) = z := ⟨_, rfl⟩
      have HN := Lib.hid hN
      have HQ := Lib.hid hq
      have HH := Lib.hid hh
      have HK := Lib.hid hkk
      have E0 := Lib.hid e2Q0
      have E1 := Lib.hid e2Q1
      have BK := Lib.hid bitk
      clear hN hq hh hkk e2Q0 e2Q1 bitk hA2 hM0
      rw [hql2] at y5 y6
      by_cases ho : 9223372036854775808 ≤ r
      · have t1 := beq_t (show r / 9223372036854775808 = 1 by omega)
        obtain ⟨r2, hr2⟩ : ∃ z, IntKind.u64.wrap (r * 2) = z := ⟨_, rfl⟩
        have hr2v : r2 = r * 2 - 18446744073709551616 := by rw [← hr2, IntKind.wrap_u64]; omega
        obtain ⟨r3, hr3⟩ : ∃ z, IntKind.u64.wrap (r2 + d - b) = z := ⟨_, rfl⟩
        have hr3v : r3 = r * 2 + d - b := by rw [← hr3, IntKind.wrap_u64]; omega
        have z1 : 0 ≤ r2 := by omega
        have z2 : r2 + d ≤ 18446744073709551615 := by omega
        have R2 := Lib.hid hr2v
        have R3 := Lib.hid hr3v
        clear hr2v hr3v
        go_wp2_with (go_at_call 80; refine (BK.out _).mono ?_; rintro e w2 ⟨rfl, rfl⟩)
        go_roundw
        case rel =>
          refine ⟨k - 1, 2 * Q + 1, r3, rfl, rfl, by omega, by omega, ?_, ?_, ?_, by omega, ?_⟩
          · rw [E1.out, R3.out, HK.out, ← HN.out]; omega
          · rw [R3.out]; have := R2.out; omega
          · rw [R3.out]; omega
          · rw [X2.out, X4.out, hql2]
            (repeat' apply And.intro) <;> first | (simp (maxDischargeDepth := 6) [go_sem, c0, c1, d0, d1, f0, f1, q0, q1, g0, g1, s1, s2, s3, s4, s5, s6]; done) | (simp; omega) | (repeat' (first | (with_reducible assumption) | (with_reducible exact Below.refl _ _) | (with_reducible refine below_drewN ?_ _) | (with_reducible refine Below.drew ?_) | (with_reducible refine Below.setCell ?_ ?_ _) | (with_reducible refine Below.alloc ?_ ?_ _) | omega | (simp; done) | (simp; omega)))
        case measure => simp [intOf]; omega
      · have t1 := beq_f (show ¬ r / 9223372036854775808 = 1 by omega)
        by_cases hs : b ≤ r * 2 + d
        · go_wp2_with (go_at_call 80; refine (BK.out _).mono ?_; rintro e w2 ⟨rfl, rfl⟩)
          go_roundw
          case rel =>
            refine ⟨k - 1, 2 * Q + 1, r * 2 + d - b, rfl, rfl, by omega, by omega, ?_, by omega, by omega, by omega, ?_⟩
            · rw [E1.out, HK.out, ← HN.out]; omega
            · rw [X2.out, X4.out, hql2]
              (repeat' apply And.intro) <;> first | (simp (maxDischargeDepth := 6) [go_sem, c0, c1, d0, d1, f0, f1, q0, q1, g0, g1, s1, s2, s3, s4, s5, s6]; done) | (simp; omega) | (repeat' (first | (with_reducible assumption) | (with_reducible exact Below.refl _ _) | (with_reducible refine below_drewN ?_ _) | (with_reducible refine Below.drew ?_) | (with_reducible refine Below.setCell ?_ ?_ _) | (with_reducible refine Below.alloc ?_ ?_ _) | omega | (simp; done) | (simp; omega)))
          case measure => simp [intOf]; omega
        · go_wp2_with (go_at_call 80; refine (BK.out _).mono ?_; rintro e w2 ⟨rfl, rfl⟩)
          go_roundw
          case rel =>
            refine ⟨k - 1, 2 * Q, r * 2 + d, rfl, rfl, by omega, by omega, ?_, by omega, by omega, by omega, ?_⟩
            · rw [E0.out, HK.out, ← HN.out]; omega
            · rw [X1.out, X3.out, hql2]
              (repeat' apply And.intro) <;> first | (simp (maxDischargeDepth := 6) [go_sem, c0, c1, d0, d1, f0, f1, q0, q1, g0, g1, s1, s2, s3, s4, s5, s6]; done) | (simp; omega) | (repeat' (first | (with_reducible assumption) | (with_reducible exact Below.refl _ _) | (with_reducible refine below_drewN ?_ _) | (with_reducible refine Below.drew ?_) | (with_reducible refine Below.setCell ?_ ?_ _) | (with_reducible refine Below.alloc ?_ ?_ _) | omega | (simp; done) | (simp; omega)))
          case measure => simp [intOf]; omega
    · have hk' : k = -1 := by omega
      subst hk'
      have e1 : A / 2 ^ ((-1 : Int) + 1).toNat = A := by
        have : (2 : Int) ^ ((-1 : Int) + 1).toNat = 1 := by decide
        rw [this]; omega
      rw [e1] at hq
      have eQ : A / b = Q ∧ A % b = r := by
        refine (Int.ediv_emod_unique (by omega)).2 ⟨by rw [← hq]; grind, hr0, hr1⟩
      have EQ := Lib.hid eQ
      clear hq e1 eQ
      go_wp2_with fail
      refine bodyPost_ret (v := .tuple #[.agg #[.int .u64 (Q / 18446744073709551616), .int .u64 (Q % 18446744073709551616)], .int .u64 r, .bool true]) (by simp (maxDischargeDepth := 3) [results, Tryd.results67, go_sem, d0, d1, q0, q1]) rfl ?_
      exact ⟨by rw [EQ.out.1, EQ.out.2], by repeat' (first | (with_reducible assumption) | (with_reducible exact Below.refl _ _) | (with_reducible refine below_drewN ?_ _) | (with_reducible refine Below.drew ?_) | (with_reducible refine Below.setCell ?_ ?_ _) | (with_reducible refine Below.alloc ?_ ?_ _) | omega | (simp; done) | (simp; omega))⟩
end Go.Proofs.YtiagngnpbpblaaaDoor
