/- The walks of DblJoins, DblWholes, DblBack. Condition: the table lies as the text lays it. -/
import Derived.Test.YtpbfbgkiamfodaaDoorJn4
namespace Go.Proofs.YtpbfbgkiamfodaaDoor
open Go.RowKit

set_option maxHeartbeats 800000 in
theorem dblJoins_walk (n : Bool) (m e : Int) (m0 : 0 ≤ m) (m1 : m ≤ 18446744073709551615) (e0 : -9223372036854775808 ≤ e) (e1 : e ≤ 9223372036854775807) (w : World) (hT : TabAt 0 Lib.deBruijn64tab w) :
    Calls Tryd.prog 3 #[.bool n, .int .u64 m, .int .i64 e] w fun e w' => e = .returned (.bool true) ∧ w = w' := by
  have J := join_any n m e m0 m1 w hT
  have R := rjoin_any n m e m0 m1 w
  generalize jAll m e = r at *
  unfold RetJ at J R
  generalize jBits n r = x at *
  generalize r.isSome = y at *
  replace J := Lib.hid J
  replace R := Lib.hid R
  replace hT := Lib.hid hT
  go_enter Tryd.func3, Tryd.ntmps3
  go_wp2_with fail
  with_reducible refine (awake11 _).mono ?_
  rintro e w' ⟨rfl, rfl⟩
  go_wp2_with fail
  with_reducible refine (J.out).mono ?_
  rintro e w' ⟨rfl, rfl⟩
  go_wp2_with fail
  with_reducible refine (R.out).mono ?_
  rintro e w' ⟨rfl, rfl⟩
  go_wp2_with fail
  go_ret
  exact ⟨by simp, rfl⟩

set_option maxHeartbeats 800000 in
theorem dblWholes_walk (b v : Int) (b0 : 0 ≤ b) (b1 : b ≤ 18446744073709551615) (v0 : -9223372036854775808 ≤ v) (v1 : v ≤ 9223372036854775807) (w : World) (hT : TabAt 0 Lib.deBruijn64tab w) :
    Calls Tryd.prog 4 #[.int .u64 b, .int .i64 v] w fun e w' => e = .returned (.bool true) ∧ w = w' := by
  have J := of_any v v0 v1 w hT
  have R := ofInt_any v v0 v1 w
  have D := dblWhole_any b b0 b1 w
  have E := ref9Whole_any b b0 b1 w
  generalize whole9 b = s at *
  generalize jAll (ofM v) 0 = r at *
  unfold RetJ at J R
  unfold RetW at D E
  generalize jBits (ofN v) r = x at *
  generalize r.isSome = y at *
  generalize s.getD 0 = z at *
  generalize s.isSome = t at *
  replace J := Lib.hid J
  replace R := Lib.hid R
  replace D := Lib.hid D
  replace E := Lib.hid E
  replace hT := Lib.hid hT
  go_enter Tryd.func4, Tryd.ntmps4
  go_wp2_with fail
  with_reducible refine (awake11 _).mono ?_
  rintro e w' ⟨rfl, rfl⟩
  go_wp2_with fail
  with_reducible refine (D.out).mono ?_
  rintro e w' ⟨rfl, rfl⟩
  go_wp2_with fail
  with_reducible refine (E.out).mono ?_
  rintro e w' ⟨rfl, rfl⟩
  go_wp2_with fail
  with_reducible refine (J.out).mono ?_
  rintro e w' ⟨rfl, rfl⟩
  go_wp2_with fail
  with_reducible refine (R.out).mono ?_
  rintro e w' ⟨rfl, rfl⟩
  go_wp2_with fail
  go_ret
  exact ⟨by simp, rfl⟩

theorem back1 (b : Int) (h0 : 0 ≤ b) (h1 : b ≤ 18446744073709551615) (hk : dKind b = 1 ∨ dKind b = 2) : ∃ r, jAll (dM b) (dE b) = some r ∧ sgnB (dNeg b) + r = b := by
  have hs : (b / 9223372036854775808 = 1 ∧ sgnB (dNeg b) = 9223372036854775808) ∨ (b / 9223372036854775808 = 0 ∧ sgnB (dNeg b) = 0) := by
    unfold dNeg
    by_cases h : b / 9223372036854775808 = 1
    · exact .inl ⟨h, by rw [beq_t h]; rfl⟩
    · exact .inr ⟨by omega, by rw [beq_f h]; rfl⟩
  by_cases hx : b / 4503599627370496 % 2048 = 2047
  · exfalso
    unfold dKind at hk
    rw [if_pos hx] at hk
    split at hk <;> omega
  · by_cases hz : b / 4503599627370496 % 2048 = 0
    · by_cases hf : b % 4503599627370496 = 0
      · have hm : dM b = 0 := by unfold dM; rw [if_neg hx, if_pos hz, hf]
        refine ⟨0, by unfold jAll; rw [if_pos hm], by omega⟩
      · have hm : dM b = b % 4503599627370496 := by unfold dM; rw [if_neg hx, if_pos hz]
        have he : dE b = -1074 := by unfold dE; rw [if_neg hx, if_pos hz, if_neg hf]
        have hod := od_of (dM b).toNat (by omega) (by omega)
        refine ⟨b % 4503599627370496, ?_, by omega⟩
        unfold jAll
        rw [if_neg (by omega)]
        generalize Lib.ctz 64 (dM b).toNat = k at *
        generalize (dM b).toNat / 2 ^ k = o at *
        generalize Lib.bitLen o = l at *
        have e1 := hod.eq
        have hl := od_less (j := k) hod (by omega)
        unfold jMag
        rw [he, if_neg (by omega), if_pos (by omega), show (-1074 + (k : Int) + 1074).toNat = k from by omega, ← pow_int, ← Int.natCast_mul, ← e1]
        congr 1
        omega
    · have hm : dM b = 4503599627370496 + b % 4503599627370496 := by unfold dM; rw [if_neg hx, if_neg hz]
      have he : dE b = b / 4503599627370496 % 2048 - 1075 := by unfold dE; rw [if_neg hx, if_neg hz]
      have hod := od_of (dM b).toNat (by omega) (by omega)
      refine ⟨b / 4503599627370496 % 2048 * 4503599627370496 + b % 4503599627370496, ?_, by omega⟩
      unfold jAll
      rw [if_neg (by omega)]
      generalize Lib.ctz 64 (dM b).toNat = k at *
      generalize (dM b).toNat / 2 ^ k = o at *
      generalize Lib.bitLen o = l at *
      have e1 := hod.eq
      have hl := od_full (j := k) hod (by omega) (by omega)
      unfold jMag
      rw [he, if_neg (by omega), if_neg (by omega), show 53 - l = k from by omega, ← pow_int, ← Int.natCast_mul, ← e1]
      congr 1
      omega

theorem back2_all (v : Int) (h0 : -9223372036854775808 ≤ v) (h1 : v ≤ 9223372036854775807) (r : Int) (h : jAll (ofM v) 0 = some r) :
    whole9 (sgnB (ofN v) + r) = some v ∧ 0 ≤ sgnB (ofN v) + r ∧ sgnB (ofN v) + r ≤ 18446744073709551615 := by
  by_cases hv : v = 0
  · subst hv
    have h2 : jAll (ofM 0) 0 = some 0 := rfl
    rw [h2] at h
    injection h with h
    subst h
    exact ⟨by decide, by decide, by decide⟩
  · have hm : ¬ ofM v = 0 := by unfold ofM; split <;> omega
    have hm0 : 0 < ofM v := by unfold ofM; split <;> omega
    have hm1 : ofM v ≤ 9223372036854775808 := by unfold ofM; split <;> omega
    unfold jAll at h
    rw [if_neg hm] at h
    have hod := od_of (ofM v).toNat (by omega) (by omega)
    generalize Lib.ctz 64 (ofM v).toNat = k at *
    generalize (ofM v).toNat / 2 ^ k = o at *
    generalize Lib.bitLen o = l at *
    unfold jMag at h
    split at h
    · cases h
    · rename_i hc
      rw [if_neg (by omega)] at h
      injection h with h
      have hn := od_norm hod (by omega)
      have hX : ((o : Int) * 2 ^ (53 - l)) = ((o * 2 ^ (53 - l) : Nat) : Int) := by rw [Int.natCast_mul, pow_int]
      rw [hX] at h
      obtain ⟨X, hXX⟩ : ∃ X : Nat, o * 2 ^ (53 - l) = X := ⟨_, rfl⟩
      rw [hXX] at h hn
      have hkl := hod.kl
      have hl1 := hod.l1
      have hs : (v < 0 ∧ ofN v = true ∧ sgnB (ofN v) = 9223372036854775808 ∧ ofM v = -v) ∨ (0 < v ∧ ofN v = false ∧ sgnB (ofN v) = 0 ∧ ofM v = v) := by
        unfold ofN ofM
        by_cases hv2 : v < 0
        · refine .inl ⟨hv2, by simpa using hv2, by rw [decide_eq_true hv2]; rfl, by rw [if_pos hv2]⟩
        · refine .inr ⟨by omega, by simpa using hv2, by rw [decide_eq_false hv2]; rfl, by rw [if_neg hv2]⟩
      obtain ⟨sg, hsg⟩ : ∃ sg, sgnB (ofN v) = sg := ⟨_, rfl⟩
      rw [hsg] at hs ⊢
      obtain ⟨p, hp⟩ : ∃ p, sg + r = p := ⟨_, rfl⟩
      rw [hp]
      have c1 : p / 4503599627370496 % 2048 = k + l + 1022 := by omega
      have c2 : p % 4503599627370496 = X - 4503599627370496 := by omega
      have d1 : dKind p = 2 := by unfold dKind; rw [if_neg (by omega), if_neg (by omega)]
      have d2 : dM p = X := by unfold dM; rw [if_neg (by omega), if_neg (by omega)]; omega
      have d3 : dE p = k + l - 53 := by unfold dE; rw [if_neg (by omega), if_neg (by omega)]; omega
      have d4 : dNeg p = ofN v := by
        unfold dNeg
        rcases hs with ⟨_, a, b, _⟩ | ⟨_, a, b, _⟩
        · rw [a]; exact beq_t (by omega)
        · rw [a]; exact beq_f (by omega)
      refine ⟨?_, by omega, by omega⟩
      unfold whole9
      rw [if_neg (by omega), if_neg (by omega), d2, d3, d4, Int.toNat_natCast]
      have hv2 : vUp X (k + l - 53) = some (ofM v).toNat := by
        rw [hod.eq, ← hXX]
        unfold vUp
        by_cases h53 : (0 : Int) ≤ k + l - 53
        · rw [if_pos h53, Nat.mul_assoc, ← Nat.pow_add, show 53 - l + ((k : Int) + l - 53).toNat = k from by omega]
        · rw [if_neg h53]
          have h3 : 53 - l = k + (-((k : Int) + l - 53)).toNat := by omega
          rw [h3, Nat.pow_add, ← Nat.mul_assoc, Nat.mul_mod_left, if_pos rfl, Nat.mul_div_cancel _ (Nat.two_pow_pos _)]
      rw [hv2]
      show sgn (ofN v) (ofM v).toNat = some v
      unfold sgn
      rcases hs with ⟨a, b, _, c⟩ | ⟨a, b, _, c⟩
      · rw [b, if_pos rfl, if_pos (by omega)]; congr 1; omega
      · rw [b, if_neg (by decide), if_pos (by omega)]; congr 1; omega
theorem back2 (v : Int) (h0 : -9223372036854775808 ≤ v) (h1 : v ≤ 9223372036854775807) (r : Int) (h : jAll (ofM v) 0 = some r) : whole9 (sgnB (ofN v) + r) = some v := (back2_all v h0 h1 r h).1
theorem back2_bound (v : Int) (h0 : -9223372036854775808 ≤ v) (h1 : v ≤ 9223372036854775807) (r : Int) (h : jAll (ofM v) 0 = some r) : 0 ≤ sgnB (ofN v) + r ∧ sgnB (ofN v) + r ≤ 18446744073709551615 := (back2_all v h0 h1 r h).2

theorem w9d (b : Int) (h0 : 0 ≤ b) (h1 : b ≤ 18446744073709551615) (w : World) :
    Calls Tryd.prog 9 #[.int .u64 b] w fun e w' => e = .returned (.tuple #[.int .i64 ((whole9 b).getD 0), .bool (whole9 b).isSome]) ∧ w = w' := dblWhole_any b h0 h1 w
theorem ofc_none (v : Int) (h0 : -9223372036854775808 ≤ v) (h1 : v ≤ 9223372036854775807) (w : World) (hT : TabAt 0 Lib.deBruijn64tab w) (h : jAll (ofM v) 0 = none) :
    Calls Tryd.prog 11 #[.int .i64 v] w fun e w' => e = .returned (.tuple #[.int .u64 0, .bool false]) ∧ w = w' := by
  have := of_any v h0 h1 w hT
  rw [h] at this
  exact this
theorem ofc_some (v : Int) (h0 : -9223372036854775808 ≤ v) (h1 : v ≤ 9223372036854775807) (w : World) (hT : TabAt 0 Lib.deBruijn64tab w) {r : Int} (h : jAll (ofM v) 0 = some r) :
    Calls Tryd.prog 11 #[.int .i64 v] w fun e w' => e = .returned (.tuple #[.int .u64 (sgnB (ofN v) + r), .bool true]) ∧ w = w' := by
  have := of_any v h0 h1 w hT
  rw [h] at this
  exact this

set_option maxHeartbeats 1600000 in
theorem dblBack_walk (b v : Int) (b0 : 0 ≤ b) (b1 : b ≤ 18446744073709551615) (v0 : -9223372036854775808 ≤ v) (v1 : v ≤ 9223372036854775807) (w : World) (hT : TabAt 0 Lib.deBruijn64tab w) :
    Calls Tryd.prog 5 #[.int .u64 b, .int .i64 v] w fun e w' => e = .returned (.bool true) ∧ w = w' := by
  have S := dblSplit_any b b0 b1 w
  obtain ⟨hk, m0, m1, e0, e1, _, _⟩ := d_bounds b b0
  have J := join_any (dNeg b) (dM b) (dE b) m0 (by omega) w hT
  have OF := of_any v v0 v1 w hT
  by_cases hk2 : dKind b = 1 ∨ dKind b = 2
  · obtain ⟨r, hr1, hr2⟩ := back1 b b0 b1 hk2
    rw [hr1] at J
    unfold RetJ jBits at J
    simp only [hr2] at J
    clear hr1 hr2 hk
    generalize dNeg b = nn at *
    generalize dM b = mm at *
    generalize dE b = ee at *
    replace J := Lib.hid J
    rcases hk2 with hk2 | hk2
    · rw [hk2] at S
      replace S := Lib.hid S
      clear hk2
      cases ho : jAll (ofM v) 0 with
      | none =>
        replace OF := ofc_none v v0 v1 w hT ho
        have WH := w9d 0 (by decide) (by decide) w
        replace OF := Lib.hid OF
        replace WH := Lib.hid WH
        replace hT := Lib.hid hT
        clear ho
        generalize (whole9 0).getD 0 = xx at *
        generalize (whole9 0).isSome = yy at *
        go_enter Tryd.func5, Tryd.ntmps5
        go_wp2_with fail
        with_reducible refine (awake11 _).mono ?_
        rintro e w' ⟨rfl, rfl⟩
        go_wp2_with fail
        with_reducible refine (S.out).mono ?_
        rintro e w' ⟨rfl, rfl⟩
        go_wp2_with fail
        with_reducible refine (J.out).mono ?_
        rintro e w' ⟨rfl, rfl⟩
        go_wp2_with fail
        with_reducible refine (OF.out).mono ?_
        rintro e w' ⟨rfl, rfl⟩
        go_wp2_with fail
        with_reducible refine (WH.out).mono ?_
        rintro e w' ⟨rfl, rfl⟩
        go_wp2_with fail
        go_ret
        exact ⟨by simp, rfl⟩
      | some r =>
        have hb2 := back2 v v0 v1 r ho
        have hbd := back2_bound v v0 v1 r ho
        replace OF := ofc_some v v0 v1 w hT ho
        have WH := w9d (sgnB (ofN v) + r) hbd.1 hbd.2 w
        rw [hb2] at WH
        generalize sgnB (ofN v) + r = pp at *
        replace OF := Lib.hid OF
        replace WH := Lib.hid WH
        replace hT := Lib.hid hT
        clear ho hb2 hbd
        go_enter Tryd.func5, Tryd.ntmps5
        go_wp2_with fail
        with_reducible refine (awake11 _).mono ?_
        rintro e w' ⟨rfl, rfl⟩
        go_wp2_with fail
        with_reducible refine (S.out).mono ?_
        rintro e w' ⟨rfl, rfl⟩
        go_wp2_with fail
        with_reducible refine (J.out).mono ?_
        rintro e w' ⟨rfl, rfl⟩
        go_wp2_with fail
        with_reducible refine (OF.out).mono ?_
        rintro e w' ⟨rfl, rfl⟩
        go_wp2_with fail
        with_reducible refine (WH.out).mono ?_
        rintro e w' ⟨rfl, rfl⟩
        go_wp2_with fail
        go_ret
        exact ⟨by simp, rfl⟩
    · rw [hk2] at S
      replace S := Lib.hid S
      clear hk2
      cases ho : jAll (ofM v) 0 with
      | none =>
        replace OF := ofc_none v v0 v1 w hT ho
        have WH := w9d 0 (by decide) (by decide) w
        replace OF := Lib.hid OF
        replace WH := Lib.hid WH
        replace hT := Lib.hid hT
        clear ho
        generalize (whole9 0).getD 0 = xx at *
        generalize (whole9 0).isSome = yy at *
        go_enter Tryd.func5, Tryd.ntmps5
        go_wp2_with fail
        with_reducible refine (awake11 _).mono ?_
        rintro e w' ⟨rfl, rfl⟩
        go_wp2_with fail
        with_reducible refine (S.out).mono ?_
        rintro e w' ⟨rfl, rfl⟩
        go_wp2_with fail
        with_reducible refine (J.out).mono ?_
        rintro e w' ⟨rfl, rfl⟩
        go_wp2_with fail
        with_reducible refine (OF.out).mono ?_
        rintro e w' ⟨rfl, rfl⟩
        go_wp2_with fail
        with_reducible refine (WH.out).mono ?_
        rintro e w' ⟨rfl, rfl⟩
        go_wp2_with fail
        go_ret
        exact ⟨by simp, rfl⟩
      | some r =>
        have hb2 := back2 v v0 v1 r ho
        have hbd := back2_bound v v0 v1 r ho
        replace OF := ofc_some v v0 v1 w hT ho
        have WH := w9d (sgnB (ofN v) + r) hbd.1 hbd.2 w
        rw [hb2] at WH
        generalize sgnB (ofN v) + r = pp at *
        replace OF := Lib.hid OF
        replace WH := Lib.hid WH
        replace hT := Lib.hid hT
        clear ho hb2 hbd
        go_enter Tryd.func5, Tryd.ntmps5
        go_wp2_with fail
        with_reducible refine (awake11 _).mono ?_
        rintro e w' ⟨rfl, rfl⟩
        go_wp2_with fail
        with_reducible refine (S.out).mono ?_
        rintro e w' ⟨rfl, rfl⟩
        go_wp2_with fail
        with_reducible refine (J.out).mono ?_
        rintro e w' ⟨rfl, rfl⟩
        go_wp2_with fail
        with_reducible refine (OF.out).mono ?_
        rintro e w' ⟨rfl, rfl⟩
        go_wp2_with fail
        with_reducible refine (WH.out).mono ?_
        rintro e w' ⟨rfl, rfl⟩
        go_wp2_with fail
        go_ret
        exact ⟨by simp, rfl⟩
  · have q1 : (dKind b == 1) = false := beq_f (by omega)
    have q2 : (dKind b == 2) = false := beq_f (by omega)
    generalize jAll (dM b) (dE b) = r at *
    unfold RetJ at J
    clear hk hk2
    generalize jBits (dNeg b) r = x at *
    generalize r.isSome = y at *
    generalize dNeg b = nn at *
    generalize dM b = mm at *
    generalize dE b = ee at *
    generalize dKind b = kk at *
    replace J := Lib.hid J
    replace S := Lib.hid S
    cases ho : jAll (ofM v) 0 with
    | none =>
      replace OF := ofc_none v v0 v1 w hT ho
      have WH := w9d 0 (by decide) (by decide) w
      replace OF := Lib.hid OF
      replace WH := Lib.hid WH
      replace hT := Lib.hid hT
      clear ho
      generalize (whole9 0).getD 0 = xx at *
      generalize (whole9 0).isSome = yy at *
      go_enter Tryd.func5, Tryd.ntmps5
      go_wp2_with fail
      with_reducible refine (awake11 _).mono ?_
      rintro e w' ⟨rfl, rfl⟩
      go_wp2_with fail
      with_reducible refine (S.out).mono ?_
      rintro e w' ⟨rfl, rfl⟩
      go_wp2_with fail
      with_reducible refine (J.out).mono ?_
      rintro e w' ⟨rfl, rfl⟩
      go_wp2_with fail
      with_reducible refine (OF.out).mono ?_
      rintro e w' ⟨rfl, rfl⟩
      go_wp2_with fail
      with_reducible refine (WH.out).mono ?_
      rintro e w' ⟨rfl, rfl⟩
      go_wp2_with fail
      go_ret
      exact ⟨by simp, rfl⟩
    | some r =>
      have hb2 := back2 v v0 v1 r ho
      have hbd := back2_bound v v0 v1 r ho
      replace OF := ofc_some v v0 v1 w hT ho
      have WH := w9d (sgnB (ofN v) + r) hbd.1 hbd.2 w
      rw [hb2] at WH
      generalize sgnB (ofN v) + r = pp at *
      replace OF := Lib.hid OF
      replace WH := Lib.hid WH
      replace hT := Lib.hid hT
      clear ho hb2 hbd
      go_enter Tryd.func5, Tryd.ntmps5
      go_wp2_with fail
      with_reducible refine (awake11 _).mono ?_
      rintro e w' ⟨rfl, rfl⟩
      go_wp2_with fail
      with_reducible refine (S.out).mono ?_
      rintro e w' ⟨rfl, rfl⟩
      go_wp2_with fail
      with_reducible refine (J.out).mono ?_
      rintro e w' ⟨rfl, rfl⟩
      go_wp2_with fail
      with_reducible refine (OF.out).mono ?_
      rintro e w' ⟨rfl, rfl⟩
      go_wp2_with fail
      with_reducible refine (WH.out).mono ?_
      rintro e w' ⟨rfl, rfl⟩
      go_wp2_with fail
      go_ret
      exact ⟨by simp, rfl⟩
end Go.Proofs.YtpbfbgkiamfodaaDoor
