/- Contracts of bits.TrailingZeros64, bits.Len64 (where the table lies as the text lays it), dbl.Join. Conditions: as each says. -/
import Derived.Test.YtpbfbgkiamfodaaDoorSp9
import Derived.Test.YtpbfbgkiamfodaaDoorJn1
import Derived.Test.YtpbfbgkiamfodaaDoorShelf
import Derived.Shelf.Spec.TrailingZeros
namespace Go.Proofs.YtpbfbgkiamfodaaDoor
open Go.RowKit

set_option maxHeartbeats 1000000 in
theorem tz64_core (x k idx : Nat) (w : World) (hx0 : ((x : Int) == 0) = false)
    (key : IntKind.u64.wrap (bits BinOp.and IntKind.u64 (x : Int) (IntKind.u64.wrap (-(x : Int))) * 285870213051353865) / 288230376151711744 = (idx : Int))
    (hi : idx < 64) (hk : k < 64) (hcell : w.cell? ⟨0, idx, none⟩ = some (.int .u8 k)) :
    Calls Tryd.prog 14 #[.int .u64 x] w fun e w' => e = .returned (.int .i64 k) ∧ w = w' := by
  go_enter Tryd.func14, Tryd.ntmps14
  go_wp2_with (simp only [key])
  go_ret
  exact ⟨rfl, rfl⟩
theorem tz64_any {m o k l : Nat} (h : Od m o k l) (h0 : 0 < m) (h1 : m < 18446744073709551616) (w : World) (hT : TabAt 0 Lib.deBruijn64tab w) :
    Calls Tryd.prog 14 #[.int .u64 m] w fun e w' => e = .returned (.int .i64 k) ∧ w = w' := by
  have hx0 : m ≠ 0 := by omega
  obtain ⟨hlow, hk⟩ := Lib.lowest_bit 64 m hx0 h1
  obtain ⟨hi, htab⟩ := Lib.deBruijn64_at _ hk
  have hcell := hT _ hi
  rw [htab] at hcell
  have hod := od_of m h0 h1
  have hke := (odd_one (hod.eq.symm.trans h.eq) hod.odd h.odd).2
  have := tz64_core m _ _ w (by simp; omega) (tz64_key m _ h1 hx0 hlow) hi hk hcell
  rw [hke] at this
  exact this
theorem tz64_int {m : Int} {o k l : Nat} (h : Od m.toNat o k l) (h0 : 0 < m) (h1 : m ≤ 18446744073709551615) (w : World) (hT : TabAt 0 Lib.deBruijn64tab w) :
    Calls Tryd.prog 14 #[.int .u64 m] w fun e w' => e = .returned (.int .i64 k) ∧ w = w' := by
  have := tz64_any h (by omega) (by omega) w hT
  rw [Int.toNat_of_nonneg (by omega)] at this
  exact this
theorem len64_any (x : Int) (h0 : 0 ≤ x) (h1 : x ≤ 18446744073709551615) (w : World) :
    Calls Tryd.prog 15 #[.int .u64 x] w fun e w' => e = .returned (.int .i64 (Lib.bitLen x.toNat)) ∧ w = w' :=
  (Tryd.bits_Len64 x w h0 h1).mono fun _ _ ⟨h, h'⟩ => ⟨h, h'.symm⟩
theorem len64_od {m o k l : Nat} (h : Od m o k l) (w : World) (h1 : o < 18446744073709551616) :
    Calls Tryd.prog 15 #[.int .u64 o] w fun e w' => e = .returned (.int .i64 l) ∧ w = w' := by
  have := len64_any (o : Int) (by omega) (by omega) w
  have e : Lib.bitLen (o : Int).toNat = l := by
    rw [Int.toNat_natCast]
    have ho : ¬ o = 0 := by have := h.odd; omega
    obtain ⟨b1, b2, b3⟩ := Lib.bitLenAux_bounds 64 o (by omega) ho
    have c1 := h.lo
    have c2 := h.hi
    have l1 := h.l1
    have eL : Lib.bitLenAux 64 o = Lib.bitLen o := rfl
    rw [eL] at b1 b2 b3
    generalize Lib.bitLen o = t at *
    have d1 : 2 ^ (t - 1) < 2 ^ l := by omega
    have d2 : 2 ^ (l - 1) < 2 ^ t := by omega
    have d3 := (Nat.pow_lt_pow_iff_right (a := 2) (by decide)).1 d1
    have d4 := (Nat.pow_lt_pow_iff_right (a := 2) (by decide)).1 d2
    omega
  rw [e] at this
  exact this

def RetJ (n : Bool) (r : Option Int) (w : World) (e : Ending) (w' : World) : Prop := e = .returned (.tuple #[.int .u64 (jBits n r), .bool r.isSome]) ∧ w = w'

theorem retJ_some {n : Bool} {J : Option Int} {w : World} {v x : Int} (h : J = some v) (hx : x = sgnB n + v) : RetJ n J w (.returned (.tuple #[.int .u64 x, .bool true])) w := by
  subst h; subst hx; exact ⟨rfl, rfl⟩
theorem or_zero (X : Int) (h0 : 0 ≤ X) (h1 : X < 9223372036854775808) : bits .or .u64 0 X = X := by
  have := or_join 63 0 X (by decide) (by decide) h0 (by omega) (by decide) (by omega)
  omega
theorem or_sign (X : Int) (h0 : 0 ≤ X) (h1 : X < 9223372036854775808) : bits .or .u64 9223372036854775808 X = 9223372036854775808 + X :=
  or_join 63 9223372036854775808 X (by decide) (by decide) h0 (by omega) (by decide) (by omega)
theorem norm_bits (n : Bool) (E X : Int) (hE : 0 ≤ E) (hE' : E ≤ 2047) (h0 : 4503599627370496 ≤ X) (h1 : X < 9007199254740992) :
    bits .or .u64 (bits .or .u64 (sgnB n) (E * 4503599627370496)) (bits .and .u64 X 4503599627370495) = sgnB n + (E * 4503599627370496 + (X - 4503599627370496)) := by
  have e2 : bits .and .u64 X 4503599627370495 = X - 4503599627370496 := by
    rw [and_mask 52 (by decide) X (by omega) (by omega) _ (by decide)]
    have h52 : (2 : Int) ^ 52 = 4503599627370496 := by decide
    rw [h52]; omega
  rw [e2]
  have h52 : (2 : Int) ^ 52 = 4503599627370496 := by decide
  cases n
  · show bits .or .u64 (bits .or .u64 0 (E * 4503599627370496)) _ = 0 + _
    rw [or_zero _ (by omega) (by omega), or_join 52 (E * 4503599627370496) _ (by omega) (by rw [h52]; omega) (by omega) (by rw [h52]; omega) (by omega) (by omega)]
    omega
  · show bits .or .u64 (bits .or .u64 9223372036854775808 (E * 4503599627370496)) _ = 9223372036854775808 + _
    rw [or_sign _ (by omega) (by omega), or_join 52 (9223372036854775808 + E * 4503599627370496) _ (by omega) (by rw [h52]; omega) (by omega) (by rw [h52]; omega) (by omega) (by omega)]
    omega

set_option maxHeartbeats 800000 in
theorem join_zero (n : Bool) (e : Int) (w : World) :
    Calls Tryd.prog 7 #[.bool n, .int .u64 0, .int .i64 e] w fun e w' => e = .returned (.tuple #[.int .u64 (sgnB n), .bool true]) ∧ w = w' := by
  cases n
  · go_enter Tryd.func7, Tryd.ntmps7
    go_wp2_with fail
    refine bodyPost_ret (results_tmp2 rfl _ _ _) rfl ?_
    exact ⟨rfl, rfl⟩
  · go_enter Tryd.func7, Tryd.ntmps7
    go_wp2_with fail
    refine bodyPost_ret (results_tmp2 rfl _ _ _) rfl ?_
    exact ⟨rfl, rfl⟩

set_option maxHeartbeats 800000 in
theorem join_far (n : Bool) (m e : Int) (h0 : 0 < m) (he : e < -2000 ∨ 2000 < e) (w : World) :
    Calls Tryd.prog 7 #[.bool n, .int .u64 m, .int .i64 e] w fun e w' => e = .returned (.tuple #[.int .u64 0, .bool false]) ∧ w = w' := by
  have q1 : (m == 0) = false := beq_f (by omega)
  rcases he with he | he <;> cases n
  all_goals
    go_enter Tryd.func7, Tryd.ntmps7
    go_wp2_with fail
    refine bodyPost_ret (results_tmp2 rfl _ _ _) rfl ?_
    exact ⟨rfl, rfl⟩

set_option maxHeartbeats 1600000 in
theorem join_near (n : Bool) (m e : Int) (o k l : Nat) (h : Od m.toNat o k l) (h0 : 0 < m) (h1 : m ≤ 18446744073709551615) (e0 : -2000 ≤ e) (e1 : e ≤ 2000) (w : World) (hT : TabAt 0 Lib.deBruijn64tab w) :
    Calls Tryd.prog 7 #[.bool n, .int .u64 m, .int .i64 e] w (RetJ n (jMag o k l e) w) := by
  have q1 : (m == 0) = false := beq_f (by omega)
  have TZ := Lib.hid (tz64_int h h0 h1 w hT)
  have k63 := od_k h
  have l64 := od_l h
  have hp := Nat.two_pow_pos k
  have eo : m / 2 ^ k = (o : Int) := by
    have h2 : m = (o : Int) * 2 ^ k := by rw [← pow_int, ← Int.natCast_mul, ← h.eq]; omega
    rw [h2]
    exact Int.mul_ediv_cancel _ (by rw [← pow_int]; omega)
  have ho1 := h.odd
  have hoU : o < 18446744073709551616 := by have := h.hi; have := Nat.pow_le_pow_right (n := 2) (by decide) l64; omega
  have LN := Lib.hid (len64_od h w hoU)
  have oU : (o : Int) ≤ 18446744073709551615 := by omega
  have o0 : (0 : Int) ≤ (o : Int) := by omega
  have hsub := fun (t : Nat) (ht : l + t ≤ 52) => od_sub h ht
  have hnorm := od_norm h
  replace hsub := Lib.hid hsub
  replace hnorm := Lib.hid hnorm
  replace hT := Lib.hid hT
  clear h ho1 hoU hp
  obtain ⟨O, hO⟩ : ∃ O : Int, (o : Int) = O := ⟨_, rfl⟩
  obtain ⟨J, hJ⟩ : ∃ J, jMag o k l e = J := ⟨_, rfl⟩
  unfold jMag at hJ
  rw [hO] at eo LN oU o0 hJ
  rw [show jMag o k l e = J from by unfold jMag; rw [hO]; exact hJ]
  replace hO := Lib.hid hO
  by_cases a1 : (53 : Int) < (l : Int)
  · have hr : J = none := by rw [← hJ, if_pos (.inl (by omega))]
    replace hr := Lib.hid hr
    clear hJ
    cases n
    all_goals
      go_enter Tryd.func7, Tryd.ntmps7
      go_wp2_with fail
      with_reducible refine (TZ.out).mono ?_
      rintro e w' ⟨rfl, rfl⟩
      go_wp2_with fail
      with_reducible refine (LN.out).mono ?_
      rintro e w' ⟨rfl, rfl⟩
      go_wp2_with fail
      refine bodyPost_ret (results_tmp2 rfl _ _ _) rfl ?_
      rw [hr.out]
      exact ⟨rfl, rfl⟩
  · by_cases a2 : e + (k : Int) < -1074
    · have hr : J = none := by rw [← hJ, if_pos (.inr (.inl a2))]
      replace hr := Lib.hid hr
      clear hJ
      cases n
      all_goals
        go_enter Tryd.func7, Tryd.ntmps7
        go_wp2_with fail
        with_reducible refine (TZ.out).mono ?_
        rintro e w' ⟨rfl, rfl⟩
        go_wp2_with fail
        with_reducible refine (LN.out).mono ?_
        rintro e w' ⟨rfl, rfl⟩
        go_wp2_with fail
        refine bodyPost_ret (results_tmp2 rfl _ _ _) rfl ?_
        rw [hr.out]
        exact ⟨rfl, rfl⟩
    · by_cases a3 : 1024 < e + (k : Int) + (l : Int)
      · have hr : J = none := by rw [← hJ, if_pos (.inr (.inr a3))]
        replace hr := Lib.hid hr
        clear hJ
        cases n
        all_goals
          go_enter Tryd.func7, Tryd.ntmps7
          go_wp2_with fail
          with_reducible refine (TZ.out).mono ?_
          rintro e w' ⟨rfl, rfl⟩
          go_wp2_with fail
          with_reducible refine (LN.out).mono ?_
          rintro e w' ⟨rfl, rfl⟩
          go_wp2_with fail
          refine bodyPost_ret (results_tmp2 rfl _ _ _) rfl ?_
          rw [hr.out]
          exact ⟨rfl, rfl⟩
      · by_cases a4 : e + (k : Int) + (l : Int) < -1021
        · have hr : J = some (O * 2 ^ (e + k + 1074).toNat) := by rw [← hJ, if_neg (by omega), if_pos a4]
          have hb := hsub.out (e + k + 1074).toNat (by omega)
          have hb2 : O * 2 ^ (e + k + 1074).toNat < 4503599627370496 := by rw [← hO.out, ← pow_int, ← Int.natCast_mul]; omega
          have hb3 : 0 ≤ O * 2 ^ (e + k + 1074).toNat := by rw [← hO.out, ← pow_int, ← Int.natCast_mul]; omega
          replace hr := Lib.hid hr
          clear hJ hb
          cases n
          · go_enter Tryd.func7, Tryd.ntmps7
            go_wp2_with fail
            with_reducible refine (TZ.out).mono ?_
            rintro e w' ⟨rfl, rfl⟩
            go_wp2_with fail
            with_reducible refine (LN.out).mono ?_
            rintro e w' ⟨rfl, rfl⟩
            go_wp2_with fail
            refine bodyPost_ret (results_tmp2 rfl _ _ _) rfl ?_
            exact retJ_some hr.out ((or_zero _ hb3 (by omega)).trans (by show _ = 0 + _; omega))
          · go_enter Tryd.func7, Tryd.ntmps7
            go_wp2_with fail
            with_reducible refine (TZ.out).mono ?_
            rintro e w' ⟨rfl, rfl⟩
            go_wp2_with fail
            with_reducible refine (LN.out).mono ?_
            rintro e w' ⟨rfl, rfl⟩
            go_wp2_with fail
            refine bodyPost_ret (results_tmp2 rfl _ _ _) rfl ?_
            exact retJ_some hr.out (or_sign _ hb3 (by omega))
        · have hr : J = some ((e + k + l + 1022) * 4503599627370496 + (O * 2 ^ (53 - l) - 4503599627370496)) := by rw [← hJ, if_neg (by omega), if_neg a4]
          obtain ⟨hb, hb'⟩ := hnorm.out (by omega)
          have hc : 4503599627370496 ≤ O * 2 ^ (53 - l) := by rw [← hO.out, ← pow_int, ← Int.natCast_mul]; omega
          have hc' : O * 2 ^ (53 - l) < 9007199254740992 := by rw [← hO.out, ← pow_int, ← Int.natCast_mul]; omega
          replace hr := Lib.hid hr
          clear hJ hb hb'
          cases n
          · go_enter Tryd.func7, Tryd.ntmps7
            go_wp2_with fail
            with_reducible refine (TZ.out).mono ?_
            rintro e w' ⟨rfl, rfl⟩
            go_wp2_with fail
            with_reducible refine (LN.out).mono ?_
            rintro e w' ⟨rfl, rfl⟩
            go_wp2_with fail
            refine bodyPost_ret (results_tmp2 rfl _ _ _) rfl ?_
            exact retJ_some hr.out (by rw [show e + (k : Int) - (53 - (l : Int)) + 1075 = e + k + l + 1022 from by omega]; exact norm_bits false _ _ (by omega) (by omega) hc hc')
          · go_enter Tryd.func7, Tryd.ntmps7
            go_wp2_with fail
            with_reducible refine (TZ.out).mono ?_
            rintro e w' ⟨rfl, rfl⟩
            go_wp2_with fail
            with_reducible refine (LN.out).mono ?_
            rintro e w' ⟨rfl, rfl⟩
            go_wp2_with fail
            refine bodyPost_ret (results_tmp2 rfl _ _ _) rfl ?_
            exact retJ_some hr.out (by rw [show e + (k : Int) - (53 - (l : Int)) + 1075 = e + k + l + 1022 from by omega]; exact norm_bits true _ _ (by omega) (by omega) hc hc')
end Go.Proofs.YtpbfbgkiamfodaaDoor
