/- Contracts of math/bits.LeadingZeros64 and Div64 and of wide.Div: the quotient and what is left. Condition: the divisor is above the upper digit (Div64), is not 0 (wide.Div's quotient). -/
import Derived.Test.YtiagngnpbpblaaaDoorDv1
import Derived.Test.YtiagngnpbpblaaaDoorShelf
import Derived.Test.YtiagngnpbpblaaaDoorRAdd
namespace Go.Proofs.YtiagngnpbpblaaaDoor
open Go.RowKit
set_option linter.unusedSimpArgs false
set_option linter.unusedVariables false

set_option maxRecDepth 100000 in
set_option maxHeartbeats 400000 in
theorem lead_walk (y k : Int) (hk : k = (Lib.bitLen y.toNat : Nat)) (k0 : 0 ≤ k) (k1 : k ≤ 64) (y0 : 0 ≤ y) (y1 : y ≤ 18446744073709551615) (w : World) :
    Calls Tryd.prog 82 #[.int .u64 y] w fun e w' => e = .returned (.int .i64 (64 - k)) ∧ w = w' := by
  have L := Tryd.bits_Len64 y w y0 y1
  rw [← hk] at L
  replace L := Lib.hid L
  clear hk
  go_enter Tryd.func82, Tryd.ntmps82
  go_wp2_with fail
  with_reducible refine (L.out).mono ?_
  rintro e w' ⟨rfl, rfl⟩
  go_wp2_with fail
  go_ret
  exact ⟨rfl, rfl⟩
theorem cast63 : (9223372036854775808 : Int) = ((2 ^ 63 : Nat) : Int) := by rw [Int.natCast_pow]; decide
theorem cast64 : (18446744073709551616 : Int) = ((2 ^ 64 : Nat) : Int) := by rw [Int.natCast_pow]; decide
theorem castn (n m : Nat) : (n : Int) * 2 ^ m = ((n * 2 ^ m : Nat) : Int) := by rw [Int.natCast_mul, Int.natCast_pow]; rfl
theorem lead_of (y : Int) (y0 : 1 ≤ y) (y1 : y ≤ 18446744073709551615) : ∃ s : Int, 0 ≤ s ∧ s ≤ 63 ∧ 9223372036854775808 ≤ y * 2 ^ s.toNat ∧ y * 2 ^ s.toNat < 18446744073709551616 ∧
    ∀ w, Calls Tryd.prog 82 #[.int .u64 y] w fun e w' => e = .returned (.int .i64 s) ∧ w = w' := by
  obtain ⟨b1, b2, b3⟩ := Lib.bitLenAux_bounds 64 y.toNat (by omega) (by omega)
  have b4 := Lib.bitLen_le y.toNat 64 (by decide) (by omega)
  have hb : Lib.bitLenAux 64 y.toNat = Lib.bitLen y.toNat := rfl
  rw [hb] at b1 b2 b3
  have W := lead_walk y (Lib.bitLen y.toNat : Nat) rfl (by omega) (by omega) (by omega) y1
  generalize Lib.bitLen y.toNat = k at *
  obtain ⟨n, rfl⟩ := Int.eq_ofNat_of_zero_le (show 0 ≤ y by omega)
  refine ⟨64 - k, by omega, by omega, ?_, ?_, W⟩
  · have e : ((64 : Int) - k).toNat = 64 - k := by omega
    have h1 : 2 ^ (k - 1) * 2 ^ (64 - k) ≤ n * 2 ^ (64 - k) := Nat.mul_le_mul_right _ b2
    rw [← Nat.pow_add, show k - 1 + (64 - k) = 63 by omega] at h1
    rw [e, cast63, castn]
    exact Int.ofNat_le.2 h1
  · have e : ((64 : Int) - k).toNat = 64 - k := by omega
    have h1 : n * 2 ^ (64 - k) < 2 ^ k * 2 ^ (64 - k) := Nat.mul_lt_mul_of_pos_right b3 (Nat.two_pow_pos _)
    rw [← Nat.pow_add, show k + (64 - k) = 64 by omega] at h1
    rw [e, cast64, castn]
    exact Int.ofNat_lt.2 h1

theorem ret_div {a b c d : Int} (h1 : a = c) (h2 : b = d) : Ending.returned (.tuple #[.int .u64 a, .int .u64 b]) = .returned (.tuple #[.int .u64 c, .int .u64 d]) := by rw [h1, h2]
set_option maxHeartbeats 1600000 in
theorem div64_pos (hi lo y : Int) (h0 : 0 < hi) (h1 : hi < y) (y1 : y ≤ 18446744073709551615) (l0 : 0 ≤ lo) (l1 : lo ≤ 18446744073709551615) (w : World) :
    Calls Tryd.prog 69 #[.int .u64 hi, .int .u64 lo, .int .u64 y] w fun e w' =>
      e = .returned (.tuple #[.int .u64 ((hi * 18446744073709551616 + lo) / y), .int .u64 ((hi * 18446744073709551616 + lo) % y)]) ∧ w = w' := by
  obtain ⟨s, s0, s1, Yl, Yu, LZ⟩ := lead_of y (by omega) y1
  have hp0 : (0 : Int) < 2 ^ s.toNat := Int.pow_pos (by decide)
  have hP0 : (0 : Int) < 2 ^ (64 - s).toNat := Int.pow_pos (by decide)
  have hpP : (2 : Int) ^ s.toNat * 2 ^ (64 - s).toNat = 18446744073709551616 := by
    rw [← Int.pow_add, show s.toNat + (64 - s).toNat = 64 by omega]; decide
  have e1 : IntKind.u64.wrap (y * 2 ^ s.toNat) = y * 2 ^ s.toNat := IntWalk.u64_in _ (by omega)
  have hup : hi * 2 ^ s.toNat ≤ (y - 1) * 2 ^ s.toNat := Int.mul_le_mul_of_nonneg_right (by omega) (Int.le_of_lt hp0)
  have hup2 : (y - 1) * 2 ^ s.toNat = y * 2 ^ s.toNat - 2 ^ s.toNat := by rw [Int.sub_mul, Int.one_mul]
  have hh0 : 0 ≤ hi * 2 ^ s.toNat := Int.mul_nonneg (by omega) (Int.le_of_lt hp0)
  have d0 : 0 ≤ lo / 2 ^ (64 - s).toNat := Int.ediv_nonneg l0 (Int.le_of_lt hP0)
  have d1 : lo / 2 ^ (64 - s).toNat < 2 ^ s.toNat := Int.ediv_lt_of_lt_mul hP0 (by rw [hpP]; omega)
  have e4 : bits .or .u64 (IntKind.u64.wrap (hi * 2 ^ s.toNat)) (lo / 2 ^ (64 - s).toNat) = hi * 2 ^ s.toNat + lo / 2 ^ (64 - s).toNat := by
    rw [IntWalk.u64_in _ (by omega)]
    exact or_join s.toNat _ _ hh0 (Int.mul_emod_left _ _) d0 d1 (by omega) (by omega)
  have e5 : IntKind.u64.wrap (lo * 2 ^ s.toNat) = lo % 2 ^ (64 - s).toNat * 2 ^ s.toNat := by
    have m0 := Int.emod_nonneg lo (Int.ne_of_gt hP0)
    have m1 := Int.emod_lt_of_pos lo hP0
    have hx : lo * 2 ^ s.toNat = lo % 2 ^ (64 - s).toNat * 2 ^ s.toNat + 18446744073709551616 * (lo / 2 ^ (64 - s).toNat) := by
      conv => lhs; rw [← Int.emod_add_mul_ediv lo (2 ^ (64 - s).toNat)]
      rw [Int.add_mul, ← hpP]
      congr 1
      rw [Int.mul_comm, ← Int.mul_assoc]
    rw [IntKind.wrap_u64, hx, Int.add_mul_emod_self_left]
    refine Int.emod_eq_of_lt (Int.mul_nonneg m0 (Int.le_of_lt hp0)) ?_
    have : lo % 2 ^ (64 - s).toNat * 2 ^ s.toNat < 2 ^ (64 - s).toNat * 2 ^ s.toNat := Int.mul_lt_mul_of_pos_right m1 hp0
    rw [Int.mul_comm ((2 : Int) ^ (64 - s).toNat), hpP] at this
    exact this
  have hN : (hi * 2 ^ s.toNat + lo / 2 ^ (64 - s).toNat) * 18446744073709551616 + lo % 2 ^ (64 - s).toNat * 2 ^ s.toNat = (hi * 18446744073709551616 + lo) * 2 ^ s.toNat := by
    have hx : lo * 2 ^ s.toNat = lo % 2 ^ (64 - s).toNat * 2 ^ s.toNat + 18446744073709551616 * (lo / 2 ^ (64 - s).toNat) := by
      conv => lhs; rw [← Int.emod_add_mul_ediv lo (2 ^ (64 - s).toNat)]
      rw [Int.add_mul, ← hpP]
      congr 1
      rw [Int.mul_comm, ← Int.mul_assoc]
    rw [Int.add_mul, Int.add_mul (hi * 18446744073709551616) lo, hx, Int.mul_right_comm hi 18446744073709551616 (2 ^ s.toNat)]
    omega
  have hn10 : 0 ≤ lo % 2 ^ (64 - s).toNat * 2 ^ s.toNat ∧ lo % 2 ^ (64 - s).toNat * 2 ^ s.toNat ≤ 18446744073709551615 := by
    rw [← e5, IntKind.wrap_u64]; omega
  have hsc := knu_scale (N := hi * 18446744073709551616 + lo) (y := y) hp0
  have hout : ∀ x : Int, x * 2 ^ s.toNat / 2 ^ s.toNat = x := fun x => Int.mul_ediv_cancel _ (Int.ne_of_gt hp0)
  generalize (hi * 18446744073709551616 + lo) * 2 ^ s.toNat = Np at *
  generalize hi * 18446744073709551616 + lo = N at *
  generalize lo % 2 ^ (64 - s).toNat * 2 ^ s.toNat = n10 at *
  have hu : hi * 2 ^ s.toNat + lo / 2 ^ (64 - s).toNat < y * 2 ^ s.toNat := by omega
  have hu0 : 0 ≤ hi * 2 ^ s.toNat + lo / 2 ^ (64 - s).toNat := by omega
  generalize hi * 2 ^ s.toNat + lo / 2 ^ (64 - s).toNat = u at *
  generalize hYe : y * 2 ^ s.toNat = Y at *
  clear hup hup2 hh0 d0 d1
  have hY0 : 0 < Y := by omega
  have e3 : bits .and .u64 Y 4294967295 = Y % 4294967296 := and_mask 32 (by decide) Y (by omega) (by omega) _ (by decide)
  have e7 : bits .and .u64 n10 4294967295 = n10 % 4294967296 := and_mask 32 (by decide) n10 (by omega) (by omega) _ (by decide)
  have hY : Y = Y / 4294967296 * 4294967296 + Y % 4294967296 := by omega
  obtain ⟨qa0, qa1, qa2, qa3⟩ := knu_Q (N := u * 4294967296 + n10 / 4294967296) hY0 (by omega)
  have qa4 := knu_small hY0 hu (show n10 / 4294967296 < 4294967296 by omega) qa1
  have qb := knu_start hY (by omega) (by omega) (show n10 / 4294967296 < 4294967296 by omega) qa0 qa1
  have qb2 := knu_start_le (u := u) (yn1 := Y / 4294967296) (by omega) hu0 (by omega)
  have ra := Int.emod_nonneg u (show Y / 4294967296 ≠ 0 by omega)
  have rb := Int.emod_lt_of_pos u (show 0 < Y / 4294967296 by omega)
  have rc := Int.emod_def u (Y / 4294967296)
  rw [Int.mul_comm] at rc
  have ma := Int.mul_nonneg (Int.le_trans qa0 qb) (show 0 ≤ Y / 4294967296 by omega)
  have hm0 := Int.emod_nonneg (u * 4294967296 + n10 / 4294967296) (show Y ≠ 0 by omega)
  have hm1 := Int.emod_lt_of_pos (u * 4294967296 + n10 / 4294967296) hY0
  have hb := knu_both (U := u) (n1 := n10 / 4294967296) (n0 := n10 % 4294967296) hY0 hu0 (by omega) (by omega)
  generalize hu2 : (u * 4294967296 + n10 / 4294967296) % Y = u2 at *
  generalize hQ1 : (u * 4294967296 + n10 / 4294967296) / Y = Q1 at *
  obtain ⟨pa0, pa1, pa2, pa3⟩ := knu_Q (N := u2 * 4294967296 + n10 % 4294967296) hY0 (by omega)
  have pa4 := knu_small hY0 hm1 (show n10 % 4294967296 < 4294967296 by omega) pa1
  have pb := knu_start hY (by omega) (by omega) (show n10 % 4294967296 < 4294967296 by omega) pa0 pa1
  have pb2 := knu_start_le (u := u2) (yn1 := Y / 4294967296) (by omega) hm0 (by omega)
  have sa := Int.emod_nonneg u2 (show Y / 4294967296 ≠ 0 by omega)
  have sb := Int.emod_lt_of_pos u2 (show 0 < Y / 4294967296 by omega)
  have sc := Int.emod_def u2 (Y / 4294967296)
  rw [Int.mul_comm] at sc
  have na := Int.mul_nonneg (Int.le_trans pa0 pb) (show 0 ≤ Y / 4294967296 by omega)
  have hr0 := Int.emod_nonneg (u2 * 4294967296 + n10 % 4294967296) (show Y ≠ 0 by omega)
  have hr1 := Int.emod_lt_of_pos (u2 * 4294967296 + n10 % 4294967296) hY0
  generalize hrem : (u2 * 4294967296 + n10 % 4294967296) % Y = rem at *
  generalize hQ0 : (u2 * 4294967296 + n10 % 4294967296) / Y = Q0 at *
  have ew : ∀ x : Int, 0 ≤ IntKind.u64.wrap x ∧ IntKind.u64.wrap x ≤ 18446744073709551615 := fun x => by rw [IntKind.wrap_u64]; omega
  have hW := div64_walk hi lo y s Y (Y / 4294967296) (Y % 4294967296) u n10 (n10 / 4294967296) (n10 % 4294967296) (u / (Y / 4294967296)) (u / (Y / 4294967296) * (Y / 4294967296)) Q1 _ _ _ u2
    (u2 / (Y / 4294967296)) (u2 / (Y / 4294967296) * (Y / 4294967296)) Q0 _ _ _ rem (N % y) w h0 h1 y1 l0 l1 s0 s1 LZ (by rw [hYe]; exact e1) rfl e3 e4 e5 rfl e7 rfl (IntWalk.u64_in _ (by omega)) rfl rfl rfl
    (by rw [IntKind.wrap_u64, IntKind.wrap_u64, IntKind.wrap_u64, IntKind.wrap_u64]; omega) rfl (IntWalk.u64_in _ (by omega)) rfl rfl rfl
    (by rw [IntKind.wrap_u64, IntKind.wrap_u64, IntKind.wrap_u64, IntKind.wrap_u64]; omega)
    (by rw [show rem = N % y * 2 ^ s.toNat from by rw [hb.2, ← hsc.2, ← hN]; congr 1; omega]; exact hout _)
    hY (by omega) (by omega) (by omega) (by omega) (by omega) hu0 hu hn10.1 hn10.2 (by omega) (by omega) (by omega) (by omega) qa1 qa2 qa0 (by omega) qb qb2 rfl (by omega) ma (by omega)
    (ew _).1 (ew _).2 (ew _).1 (ew _).2 (ew _).1 (ew _).2 hm0 hm1 pa1 pa2 pa0 (by omega) pb pb2 rfl (by omega) na (by omega) (ew _).1 (ew _).2 (ew _).1 (ew _).2 (ew _).1 (ew _).2 hr0 (by omega)
  refine hW.mono ?_
  rintro e w' ⟨rfl, rfl⟩
  refine ⟨ret_div ?_ rfl, rfl⟩
  rw [hb.1, ← hsc.1, ← hN]
  congr 1
  omega

set_option maxRecDepth 100000 in
set_option maxHeartbeats 800000 in
theorem div64_zero (lo y : Int) (y0 : 1 ≤ y) (y1 : y ≤ 18446744073709551615) (l0 : 0 ≤ lo) (l1 : lo ≤ 18446744073709551615) (w : World) :
    Calls Tryd.prog 69 #[.int .u64 0, .int .u64 lo, .int .u64 y] w fun e w' =>
      e = .returned (.tuple #[.int .u64 (lo / y), .int .u64 (lo % y)]) ∧ Below w.heap.size w w' := by
  have hny : ¬ y = 0 := by omega
  have hny2 : ¬ y ≤ 0 := by omega
  go_enter Tryd.func69, Tryd.ntmps69
  go_wp2_with fail
  go_quiet (fail)
  go_wp2_with fail
  go_ret2
  exact ⟨rfl, by repeat' (first | (with_reducible assumption) | (with_reducible exact Below.refl _ _) | (with_reducible refine below_drewN ?_ _) | (with_reducible refine Below.drew ?_) | (with_reducible refine Below.setCell ?_ ?_ _) | (with_reducible refine Below.alloc ?_ ?_ _) | omega | (simp; done) | (simp; omega))⟩
theorem div64_any (hi lo y : Int) (h0 : 0 ≤ hi) (h1 : hi < y) (y1 : y ≤ 18446744073709551615) (l0 : 0 ≤ lo) (l1 : lo ≤ 18446744073709551615) (w : World) :
    Calls Tryd.prog 69 #[.int .u64 hi, .int .u64 lo, .int .u64 y] w fun e w' =>
      e = .returned (.tuple #[.int .u64 ((hi * 18446744073709551616 + lo) / y), .int .u64 ((hi * 18446744073709551616 + lo) % y)]) ∧ Below w.heap.size w w' := by
  by_cases h : hi = 0
  · subst h
    refine (div64_zero lo y (by omega) y1 l0 l1 w).mono ?_
    rintro e w' ⟨rfl, hb⟩
    exact ⟨ret_div (by congr 1; omega) (by congr 1; omega), hb⟩
  · exact (div64_pos hi lo y (by omega) h1 y1 l0 l1 w).mono fun e w' ⟨he, hw⟩ => ⟨he, hw ▸ Below.refl _ _⟩
theorem div_two (h l b : Int) (b0 : 1 ≤ b) (h0 : 0 ≤ h) (l0 : 0 ≤ l) (l1 : l ≤ 18446744073709551615) (b1 : b ≤ 18446744073709551615) (h1 : h ≤ 18446744073709551615) :
    h / b = wV h l / b / 18446744073709551616 ∧ (h % b * 18446744073709551616 + l) / b = wV h l / b % 18446744073709551616 ∧ (h % b * 18446744073709551616 + l) % b = wV h l % b := by
  have e := Int.emod_add_mul_ediv h b
  have r0 := Int.emod_nonneg h (show b ≠ 0 by omega)
  have r1 := Int.emod_lt_of_pos h (show 0 < b by omega)
  have hs : (h % b * 18446744073709551616 + l) / b < 18446744073709551616 := Int.ediv_lt_of_lt_mul (by omega) (by omega)
  have hs0 : 0 ≤ (h % b * 18446744073709551616 + l) / b := Int.ediv_nonneg (by omega) (by omega)
  have ev : wV h l = (h % b * 18446744073709551616 + l) + b * (h / b * 18446744073709551616) := by
    unfold wV
    rw [← Int.mul_assoc]
    omega
  rw [ev, Int.add_mul_ediv_left _ _ (by omega), Int.add_mul_emod_self_left]
  refine ⟨by omega, by omega, rfl⟩
set_option maxRecDepth 100000 in
set_option maxHeartbeats 1600000 in
theorem wideDiv_walk (h l b q1 r1 q0 r : Int) (b0 : 1 ≤ b)
    (D1 : ∀ w : World, Calls Tryd.prog 69 #[.int .u64 0, .int .u64 h, .int .u64 b] w fun e w' => e = .returned (.tuple #[.int .u64 q1, .int .u64 r1]) ∧ Below w.heap.size w w')
    (D2 : ∀ w : World, Calls Tryd.prog 69 #[.int .u64 r1, .int .u64 l, .int .u64 b] w fun e w' => e = .returned (.tuple #[.int .u64 q0, .int .u64 r]) ∧ Below w.heap.size w w') (w : World) :
    Calls Tryd.prog 50 #[.agg #[.int .u64 h, .int .u64 l], .int .u64 b] w fun e w' =>
      e = .returned (.tuple #[.agg #[.int .u64 q1, .int .u64 q0], .int .u64 r, .bool true]) ∧ Below w.heap.size w w' := by
  replace D1 := Lib.hid D1
  replace D2 := Lib.hid D2
  have hnb : ¬ b = 0 := by omega
  go_enter Tryd.func50, Tryd.ntmps50
  go_wp2_with fail
  with_reducible refine (D1.out _).mono ?_
  rintro e w1 ⟨rfl, hb⟩
  obtain ⟨c0, c1, c2, c3, f0, f1, hz, hb1⟩ := kept22 hb
  clear hb
  go_wp2_with fail
  with_reducible refine (D2.out _).mono ?_
  rintro e w2 ⟨rfl, hb⟩
  have a0 := (hb.cell (p := ⟨w.heap.size + 1, 0, none⟩) hz).trans c2
  have a1 := (hb.cell (p := ⟨w.heap.size + 1, 1, none⟩) hz).trans c3
  have a2 := (hb.frozen (p := ⟨w.heap.size + 1, 0, none⟩) hz).trans f0
  have a3 := (hb.frozen (p := ⟨w.heap.size + 1, 1, none⟩) hz).trans f1
  have hz2 := hb.size
  have z0 : w.heap.size + 1 < w2.heap.size := by omega
  have hb2 := hb1.trans (hb.mono (by omega))
  clear hb hb1 c0 c1 c2 c3 f0 f1
  go_wp2_with fail
  refine bodyPost_ret (v := .tuple #[.agg #[.int .u64 q1, .int .u64 q0], .int .u64 r, .bool true]) (by simp (maxDischargeDepth := 3) [results, Tryd.results50, go_sem, a0, a1]) rfl ?_
  exact ⟨rfl, by repeat' (first | (with_reducible assumption) | (with_reducible exact Below.refl _ _) | (with_reducible refine below_drewN ?_ _) | (with_reducible refine Below.drew ?_) | (with_reducible refine Below.setCell ?_ ?_ _) | (with_reducible refine Below.alloc ?_ ?_ _) | omega | (simp; done) | (simp; omega))⟩
theorem ret_wdiv {a b c d x y : Int} (h1 : a = d) (h2 : b = x) (h3 : c = y) : Ending.returned (.tuple #[.agg #[.int .u64 a, .int .u64 b], .int .u64 c, .bool true]) = .returned (.tuple #[.agg #[.int .u64 d, .int .u64 x], .int .u64 y, .bool true]) := by rw [h1, h2, h3]
theorem wideDiv_any (h l b : Int) (h0 : 0 ≤ h) (h1 : h ≤ 18446744073709551615) (l0 : 0 ≤ l) (l1 : l ≤ 18446744073709551615) (b0 : 1 ≤ b) (b1 : b ≤ 18446744073709551615) (w : World) :
    Calls Tryd.prog 50 #[.agg #[.int .u64 h, .int .u64 l], .int .u64 b] w fun e w' =>
      e = .returned (.tuple #[.agg #[.int .u64 (wV h l / b / 18446744073709551616), .int .u64 (wV h l / b % 18446744073709551616)], .int .u64 (wV h l % b), .bool true]) ∧ Below w.heap.size w w' := by
  have r0 := Int.emod_nonneg h (show b ≠ 0 by omega)
  have r1 := Int.emod_lt_of_pos h (show 0 < b by omega)
  obtain ⟨e1, e2, e3⟩ := div_two h l b b0 h0 l0 l1 b1 h1
  refine (wideDiv_walk h l b _ _ _ _ b0 (fun w => div64_zero h b b0 b1 h0 h1 w) (fun w => div64_any (h % b) l b r0 r1 b1 l0 l1 w) w).mono ?_
  rintro e w' ⟨rfl, hb⟩
  exact ⟨ret_wdiv e1 e2 e3, hb⟩
end Go.Proofs.YtiagngnpbpblaaaDoor
