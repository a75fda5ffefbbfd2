/- Contracts of dbl.Join, Of, Whole and the reference's at every input; awake. Condition: the table lies as the text lays it. -/
import Derived.Test.YtpbfbgkiamfodaaDoorJn3
namespace Go.Proofs.YtpbfbgkiamfodaaDoor
open Go.RowKit

def jAll (m e : Int) : Option Int :=
  if m = 0 then some 0 else jMag (m.toNat / 2 ^ Lib.ctz 64 m.toNat) (Lib.ctz 64 m.toNat) (Lib.bitLen (m.toNat / 2 ^ Lib.ctz 64 m.toNat)) e
theorem jMag_far {m o k l : Nat} (h : Od m o k l) {e : Int} (he : e < -1138 ∨ 1023 < e) : jMag o k l e = none := by
  have k1 := od_k h
  have l1 := h.l1
  unfold jMag
  rw [if_pos (by omega)]
theorem ret_far {n : Bool} {m e : Int} (h0 : 0 < m) (h1 : m ≤ 18446744073709551615) (he : e < -1138 ∨ 1023 < e) {w : World} {f : FuncId} {args : Array Value} {P : Program}
    (h : Calls P f args w fun e w' => e = .returned (.tuple #[.int .u64 0, .bool false]) ∧ w = w') : Calls P f args w (RetJ n (jAll m e) w) := by
  have hod := od_of m.toNat (by omega) (by omega)
  have e1 : jAll m e = none := by unfold jAll; rw [if_neg (by omega)]; exact jMag_far hod he
  rw [e1]
  exact h.mono fun _ _ ⟨a, b⟩ => ⟨a, b⟩
theorem ret_zero {n : Bool} {e : Int} {w : World} {f : FuncId} {args : Array Value} {P : Program}
    (h : Calls P f args w fun e w' => e = .returned (.tuple #[.int .u64 (sgnB n), .bool true]) ∧ w = w') : Calls P f args w (RetJ n (jAll 0 e) w) := by
  have e1 : jAll 0 e = some 0 := rfl
  rw [e1]
  refine h.mono fun _ _ ⟨a, b⟩ => ⟨?_, b⟩
  rw [a]
  show _ = Ending.returned (.tuple #[.int .u64 (sgnB n + 0), .bool true])
  rw [Int.add_zero]

theorem join_any (n : Bool) (m e : Int) (h0 : 0 ≤ m) (h1 : m ≤ 18446744073709551615) (w : World) (hT : TabAt 0 Lib.deBruijn64tab w) :
    Calls Tryd.prog 7 #[.bool n, .int .u64 m, .int .i64 e] w (RetJ n (jAll m e) w) := by
  by_cases hm : m = 0
  · subst hm; exact ret_zero (join_zero n e w)
  · by_cases he : e < -2000 ∨ 2000 < e
    · exact ret_far (by omega) h1 (by omega) (join_far n m e (by omega) he w)
    · have hod := od_of m.toNat (by omega) (by omega)
      have := join_near n m e _ _ _ hod (by omega) h1 (by omega) (by omega) w hT
      unfold jAll
      rw [if_neg hm]
      exact this
theorem rjoin_any (n : Bool) (m e : Int) (h0 : 0 ≤ m) (h1 : m ≤ 18446744073709551615) (w : World) :
    Calls Tryd.prog 8 #[.bool n, .int .u64 m, .int .i64 e] w (RetJ n (jAll m e) w) := by
  by_cases hm : m = 0
  · subst hm; exact ret_zero (rjoin_zero n e w)
  · by_cases he : e < -1138 ∨ 1023 < e
    · exact ret_far (by omega) h1 (by omega) (rjoin_far n m e (by omega) he w)
    · have hod := od_of m.toNat (by omega) (by omega)
      have := rjoin_near n m e _ _ _ hod (by omega) h1 (by omega) (by omega) w
      unfold jAll
      rw [if_neg hm]
      exact this

def ofN (v : Int) : Bool := decide (v < 0)
def ofM (v : Int) : Int := if v < 0 then -v else v
set_option maxHeartbeats 800000 in
theorem of_any (v : Int) (h0 : -9223372036854775808 ≤ v) (h1 : v ≤ 9223372036854775807) (w : World) (hT : TabAt 0 Lib.deBruijn64tab w) :
    Calls Tryd.prog 11 #[.int .i64 v] w (RetJ (ofN v) (jAll (ofM v) 0) w) := by
  by_cases hv : v < 0
  · have e1 : ofN v = true := by simpa [ofN] using hv
    have e2 : ofM v = -v := by unfold ofM; rw [if_pos hv]
    have J := join_any true (-v) 0 (by omega) (by omega) w hT
    have e3 : IntKind.u64.wrap (-IntKind.u64.wrap v) = -v := by rw [IntKind.wrap_u64, IntKind.wrap_u64]; omega
    rw [e1, e2]
    generalize jAll (-v) 0 = r at *
    replace J := Lib.hid J
    replace hT := Lib.hid hT
    clear e1 e2
    go_enter Tryd.func11, Tryd.ntmps11
    go_wp2_with fail
    first | (with_reducible refine (J.out).mono ?_) | (rw [e3]; with_reducible refine (J.out).mono ?_) | (simp only [e3]; with_reducible refine (J.out).mono ?_) | trace_state
    rintro e w' ⟨rfl, rfl⟩
    go_wp2_with fail
    refine bodyPost_ret (results_tmp2 rfl _ _ _) rfl ?_
    exact ⟨rfl, rfl⟩
  · have e1 : ofN v = false := by simpa [ofN] using hv
    have e2 : ofM v = v := by unfold ofM; rw [if_neg hv]
    have J := join_any false v 0 (by omega) (by omega) w hT
    rw [e1, e2]
    generalize jAll v 0 = r at *
    replace J := Lib.hid J
    replace hT := Lib.hid hT
    clear e1 e2
    go_enter Tryd.func11, Tryd.ntmps11
    go_wp2_with fail
    with_reducible refine (J.out).mono ?_
    rintro e w' ⟨rfl, rfl⟩
    go_wp2_with fail
    refine bodyPost_ret (results_tmp2 rfl _ _ _) rfl ?_
    exact ⟨rfl, rfl⟩
set_option maxHeartbeats 800000 in
theorem ofInt_any (v : Int) (h0 : -9223372036854775808 ≤ v) (h1 : v ≤ 9223372036854775807) (w : World) :
    Calls Tryd.prog 12 #[.int .i64 v] w (RetJ (ofN v) (jAll (ofM v) 0) w) := by
  by_cases hv : v < 0
  · have e1 : ofN v = true := by simpa [ofN] using hv
    have e2 : ofM v = -(v + 1) + 1 := by unfold ofM; rw [if_pos hv]; omega
    have J := rjoin_any true (-(v + 1) + 1) 0 (by omega) (by omega) w
    rw [e1, e2]
    generalize jAll (-(v + 1) + 1) 0 = r at *
    replace J := Lib.hid J
    clear e1 e2
    go_enter Tryd.func12, Tryd.ntmps12
    go_wp2_with fail
    with_reducible refine (J.out).mono ?_
    rintro e w' ⟨rfl, rfl⟩
    go_wp2_with fail
    refine bodyPost_ret (results_tmp2 rfl _ _ _) rfl ?_
    exact ⟨rfl, rfl⟩
  · have e1 : ofN v = false := by simpa [ofN] using hv
    have e2 : ofM v = v := by unfold ofM; rw [if_neg hv]
    have J := rjoin_any false v 0 (by omega) (by omega) w
    rw [e1, e2]
    generalize jAll v 0 = r at *
    replace J := Lib.hid J
    clear e1 e2
    go_enter Tryd.func12, Tryd.ntmps12
    go_wp2_with fail
    with_reducible refine (J.out).mono ?_
    rintro e w' ⟨rfl, rfl⟩
    go_wp2_with fail
    refine bodyPost_ret (results_tmp2 rfl _ _ _) rfl ?_
    exact ⟨rfl, rfl⟩

theorem mask_pow (j : Nat) (hj : j ≤ 63) (m : Int) (h0 : 0 ≤ m) (h1 : m < 9007199254740992) : bits .and .u64 m (2 ^ j - 1) = m % 2 ^ j :=
  and_mask j (by omega) m h0 (by omega) _ rfl

set_option maxHeartbeats 1600000 in
theorem dblWhole_any (b : Int) (h0 : 0 ≤ b) (h1 : b ≤ 18446744073709551615) (w : World) :
    Calls Tryd.prog 9 #[.int .u64 b] w (RetW (whole9 b) w) := by
  have S := fun w => dblSplit_any b h0 h1 w
  obtain ⟨hk, m0, m1, e0, e1, hm, _⟩ := d_bounds b h0
  by_cases k1 : dKind b = 1
  · have hr : whole9 b = some 0 := by unfold whole9; rw [if_pos k1]
    rw [k1] at S
    replace S := Lib.hid S
    replace hr := Lib.hid hr
    clear hk k1 hm
    go_enter Tryd.func9, Tryd.ntmps9
    go_wp2_with fail
    with_reducible refine (S.out _).mono ?_
    rintro e w' ⟨rfl, rfl⟩
    go_wp2_with fail
    refine bodyPost_ret (results_tmp2 rfl _ _ _) rfl ?_
    exact retW_some hr.out
  · have q1 := beq_f k1
    by_cases k2 : dKind b = 2
    · have q2 := bne_f k2
      have hm1 := hm k2
      by_cases hE : 11 < dE b ∨ dE b < -63
      · have hr : whole9 b = none := by
          unfold whole9
          rw [if_neg k1]
          by_cases h11 : 11 < dE b
          · rw [if_pos (.inr h11)]
          · rw [if_neg (by omega)]
            have hv : vUp (dM b).toNat (dE b) = none := by
              unfold vUp
              rw [if_neg (by omega)]
              have h2 : 2 ^ 64 ≤ 2 ^ (-(dE b)).toNat := Nat.pow_le_pow_right (by decide) (by omega)
              rw [Nat.mod_eq_of_lt (by omega), if_neg (by omega)]
            rw [hv]; rfl
        replace S := Lib.hid S
        replace hr := Lib.hid hr
        clear hk hm k1 k2
        generalize dKind b = k at *
        rcases hE with hE | hE
        all_goals
          go_enter Tryd.func9, Tryd.ntmps9
          go_wp2_with fail
          with_reducible refine (S.out _).mono ?_
          rintro e w' ⟨rfl, rfl⟩
          go_wp2_with fail
          refine bodyPost_ret (results_tmp2 rfl _ _ _) rfl ?_
          exact retW_none hr.out
      · have hr : whole9 b = (vUp (dM b).toNat (dE b)).bind (sgn (dNeg b)) := by unfold whole9; rw [if_neg k1, if_neg (by omega)]
        rw [hr]
        clear hm hk k1 k2 hr
        have hE1 : dE b ≤ 11 := by omega
        have hE2 : -63 ≤ dE b := by omega
        clear hE
        generalize dKind b = k at *
        generalize dE b = ee at *
        generalize dNeg b = nn at *
        generalize dM b = mm at *
        replace S := Lib.hid S
        obtain ⟨VV, hv⟩ : ∃ V, vUp mm.toNat ee = V := ⟨_, rfl⟩
        rw [hv]
        by_cases hneg : ee < 0
        · obtain ⟨j, hj⟩ : ∃ j : Nat, (-ee).toNat = j := ⟨_, rfl⟩
          have hj63 : j ≤ 63 := by omega
          have hmk := mask_pow j hj63 mm m0 m1
          have hpi := pow_int j
          have hj1 : -ee = (j : Int) := by omega
          have hpj : (1 : Int) ≤ 2 ^ j := by have := Nat.two_pow_pos j; omega
          have hpj2 : (2 : Int) ^ j ≤ 9223372036854775808 := by
            have : 2 ^ j ≤ 2 ^ 63 := Nat.pow_le_pow_right (by decide) hj63
            omega
          unfold vUp at hv
          rw [if_neg (by omega), hj] at hv
          by_cases hmd : mm.toNat % 2 ^ j = 0
          · have hz : (mm % 2 ^ j != 0) = false := by
              refine bne_f ?_
              rw [← hpi, ← Int.toNat_of_nonneg m0, ← Int.natCast_emod, hmd]; rfl
            rw [if_pos hmd] at hv
            have hv' : VV = some (mm / 2 ^ j).toNat := by
              rw [← hv]
              congr 1
              rw [← hpi]
              conv => rhs; rw [← Int.toNat_of_nonneg m0]
              rw [← Int.natCast_ediv, Int.toNat_natCast]
            have q0 : 0 ≤ mm / 2 ^ j := Int.ediv_nonneg m0 (by omega)
            have q5 : mm / 2 ^ j ≤ mm := Int.ediv_le_self _ m0
            replace hv := Lib.hid hv'
            replace hpi := Lib.hid hpi
            clear hv' hmd
            cases nn
            · skip
              have hs : VV.bind (sgn false) = some ((mm / 2 ^ j)) := by rw [hv.out]; show sgn false ((mm / 2 ^ j)).toNat = _; unfold sgn; rw [if_neg (by decide), if_pos (by omega)]; congr 1; omega
              replace hs := Lib.hid hs
              clear hv
              go_enter Tryd.func9, Tryd.ntmps9
              go_wp2_with fail
              with_reducible refine (S.out _).mono ?_
              rintro e w' ⟨rfl, rfl⟩
              go_wp2_with fail
              refine bodyPost_ret (results_tmp2 rfl _ _ _) rfl ?_
              first | exact retW_some hs.out | exact retW_some (hs.out.trans (by congr 1; unfold wrap64; omega))
            · skip
              have hs : VV.bind (sgn true) = some (-(mm / 2 ^ j)) := by rw [hv.out]; show sgn true ((mm / 2 ^ j)).toNat = _; unfold sgn; rw [if_pos rfl, if_pos (by omega)]; congr 1; omega
              replace hs := Lib.hid hs
              clear hv
              go_enter Tryd.func9, Tryd.ntmps9
              go_wp2_with fail
              with_reducible refine (S.out _).mono ?_
              rintro e w' ⟨rfl, rfl⟩
              go_wp2_with fail
              refine bodyPost_ret (results_tmp2 rfl _ _ _) rfl ?_
              first | exact retW_some hs.out | exact retW_some (hs.out.trans (by congr 1; unfold wrap64; omega))
          · have hz : (mm % 2 ^ j != 0) = true := by
              refine bne_t ?_
              rw [← hpi, ← Int.toNat_of_nonneg m0, ← Int.natCast_emod]
              omega
            rw [if_neg hmd] at hv
            replace hv := Lib.hid hv
            replace hpi := Lib.hid hpi
            clear hmd
            go_enter Tryd.func9, Tryd.ntmps9
            go_wp2_with fail
            with_reducible refine (S.out _).mono ?_
            rintro e w' ⟨rfl, rfl⟩
            go_wp2_with fail
            refine bodyPost_ret (results_tmp2 rfl _ _ _) rfl ?_
            exact retW_none (by rw [← hv.out]; rfl)
        · have hp := pow_int ee.toNat
          rw [vUp_pos (by omega)] at hv
          have hv' : VV = some (mm * 2 ^ ee.toNat).toNat := by
            rw [← hv]
            congr 1
            have e5 : mm * 2 ^ ee.toNat = ((mm.toNat * 2 ^ ee.toNat : Nat) : Int) := by rw [Int.natCast_mul, hp, Int.toNat_of_nonneg m0]
            rw [e5, Int.toNat_natCast]
          have h11 : 2 ^ ee.toNat ≤ 2 ^ 11 := Nat.pow_le_pow_right (by decide) (by omega)
          have h12 := Nat.two_pow_pos ee.toNat
          have h13 : mm * 2 ^ ee.toNat ≤ 18446744073709551615 := by
            have a := Int.mul_le_mul_of_nonneg_left (show (2 : Int) ^ ee.toNat ≤ 2048 by omega) m0
            omega
          have h14 : 1 ≤ mm * 2 ^ ee.toNat := by
            have a := Int.mul_le_mul_of_nonneg_left (show (1 : Int) ≤ 2 ^ ee.toNat by omega) m0
            omega
          replace hv := Lib.hid hv'
          clear hv' hp h11 h12
          cases nn
          · by_cases hb : (mm * 2 ^ ee.toNat) < 9223372036854775808
            · skip
              have hs : VV.bind (sgn false) = some ((mm * 2 ^ ee.toNat)) := by rw [hv.out]; show sgn false ((mm * 2 ^ ee.toNat)).toNat = _; unfold sgn; rw [if_neg (by decide), if_pos (by omega)]; congr 1; omega
              replace hs := Lib.hid hs
              clear hv
              go_enter Tryd.func9, Tryd.ntmps9
              go_wp2_with fail
              with_reducible refine (S.out _).mono ?_
              rintro e w' ⟨rfl, rfl⟩
              go_wp2_with fail
              refine bodyPost_ret (results_tmp2 rfl _ _ _) rfl ?_
              first | exact retW_some hs.out | exact retW_some (hs.out.trans (by congr 1; unfold wrap64; omega))
            · skip
              have hs : VV.bind (sgn false) = none := by rw [hv.out]; show sgn false ((mm * 2 ^ ee.toNat)).toNat = _; unfold sgn; rw [if_neg (by decide), if_neg (by omega)]
              replace hs := Lib.hid hs
              clear hv
              go_enter Tryd.func9, Tryd.ntmps9
              go_wp2_with fail
              with_reducible refine (S.out _).mono ?_
              rintro e w' ⟨rfl, rfl⟩
              go_wp2_with fail
              refine bodyPost_ret (results_tmp2 rfl _ _ _) rfl ?_
              exact retW_none hs.out
          · by_cases hb : (mm * 2 ^ ee.toNat) ≤ 9223372036854775808
            · skip
              have hs : VV.bind (sgn true) = some (-(mm * 2 ^ ee.toNat)) := by rw [hv.out]; show sgn true ((mm * 2 ^ ee.toNat)).toNat = _; unfold sgn; rw [if_pos rfl, if_pos (by omega)]; congr 1; omega
              replace hs := Lib.hid hs
              clear hv
              go_enter Tryd.func9, Tryd.ntmps9
              go_wp2_with fail
              with_reducible refine (S.out _).mono ?_
              rintro e w' ⟨rfl, rfl⟩
              go_wp2_with fail
              refine bodyPost_ret (results_tmp2 rfl _ _ _) rfl ?_
              first | exact retW_some hs.out | exact retW_some (hs.out.trans (by congr 1; unfold wrap64; omega))
            · skip
              have hs : VV.bind (sgn true) = none := by rw [hv.out]; show sgn true ((mm * 2 ^ ee.toNat)).toNat = _; unfold sgn; rw [if_pos rfl, if_neg (by omega)]
              replace hs := Lib.hid hs
              clear hv
              go_enter Tryd.func9, Tryd.ntmps9
              go_wp2_with fail
              with_reducible refine (S.out _).mono ?_
              rintro e w' ⟨rfl, rfl⟩
              go_wp2_with fail
              refine bodyPost_ret (results_tmp2 rfl _ _ _) rfl ?_
              exact retW_none hs.out
    · have q2 := bne_t k2
      have hr : whole9 b = none := by unfold whole9; rw [if_neg k1, if_pos (.inl k2)]
      replace S := Lib.hid S
      replace hr := Lib.hid hr
      clear hk hm k1 k2
      generalize dKind b = k at *
      go_enter Tryd.func9, Tryd.ntmps9
      go_wp2_with fail
      with_reducible refine (S.out _).mono ?_
      rintro e w' ⟨rfl, rfl⟩
      go_wp2_with fail
      refine bodyPost_ret (results_tmp2 rfl _ _ _) rfl ?_
      exact retW_none hr.out

set_option maxHeartbeats 400000 in
theorem awake11 (w : World) : Calls Tryd.prog 6 #[] w fun e w' => e = .returned (.bool true) ∧ w = w' := by
  go_enter Tryd.func6, Tryd.ntmps6
  go_wp2_with fail
  refine (dblSplit_any _ (by omega) (by omega) _).mono ?_
  rintro e w' ⟨rfl, rfl⟩
  have a1 : dKind 4609434218613702656 = 2 := by decide
  have a2 : dNeg 4609434218613702656 = false := by decide
  have a3 : dM 4609434218613702656 = 6755399441055744 := by decide
  have a4 : dE 4609434218613702656 = -52 := by decide
  go_wp2_with fail
  go_ret
  exact ⟨by simp, rfl⟩

end Go.Proofs.YtpbfbgkiamfodaaDoor
