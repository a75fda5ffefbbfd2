/- Contracts of the reference: Split and Whole of chapter 11. No condition. -/
import Derived.Test.YtimgmobpgbekjaaProg
import Derived.Test.YtimgmobpgbekjaaAid
namespace Go.Proofs.Ytimgmobpgbekjaa
open Go.RowKit

def dKind (b : Int) : Int := if b / 4503599627370496 % 2048 = 2047 then (if b % 4503599627370496 = 0 then 3 else 4) else if b / 4503599627370496 % 2048 = 0 ∧ b % 4503599627370496 = 0 then 1 else 2
def dNeg (b : Int) : Bool := b / 9223372036854775808 == 1
def dM (b : Int) : Int := if b / 4503599627370496 % 2048 = 2047 then 0 else if b / 4503599627370496 % 2048 = 0 then b % 4503599627370496 else 4503599627370496 + b % 4503599627370496
def dE (b : Int) : Int := if b / 4503599627370496 % 2048 = 2047 then 0 else if b / 4503599627370496 % 2048 = 0 then (if b % 4503599627370496 = 0 then 0 else -1074) else b / 4503599627370496 % 2048 - 1075


theorem d_bounds (b : Int) (h0 : 0 ≤ b) : (dKind b = 1 ∨ dKind b = 2 ∨ dKind b = 3 ∨ dKind b = 4) ∧ 0 ≤ dM b ∧ dM b < 9007199254740992 ∧ -1074 ≤ dE b ∧ dE b ≤ 971 ∧ (dKind b = 2 → 1 ≤ dM b) ∧ (dKind b = 2 → 11 < dE b → 4503599627370496 ≤ dM b) := by
  unfold dKind dM dE
  refine ⟨?_, ?_, ?_, ?_, ?_, ?_, ?_⟩ <;> (repeat' split) <;> omega

/-- A number m * 2^e, if it is whole. -/
def vUp (m : Nat) (e : Int) : Option Nat := if 0 ≤ e then some (m * 2 ^ e.toNat) else if m % 2 ^ (-e).toNat = 0 then some (m / 2 ^ (-e).toNat) else none
def sgn (n : Bool) (v : Nat) : Option Int := if n then (if v ≤ 9223372036854775808 then some (-(v : Int)) else none) else if v < 9223372036854775808 then some (v : Int) else none
def whole9 (b : Int) : Option Int :=
  if dKind b = 1 then some 0 else if ¬ dKind b = 2 ∨ 11 < dE b then none else (vUp (dM b).toNat (dE b)).bind (sgn (dNeg b))
theorem vUp_half {m : Nat} {e : Int} (he : e < 0) (hm : m % 2 = 0) : vUp (m / 2) (e + 1) = vUp m e := by
  obtain ⟨k, hk⟩ : ∃ k : Nat, (-e).toNat = k + 1 := ⟨(-e).toNat - 1, by omega⟩
  have h2 : 2 ^ (k + 1) = 2 * 2 ^ k := by rw [Nat.pow_succ, Nat.mul_comm]
  have hp := Nat.two_pow_pos k
  have e1 : m = 2 * (m / 2) := by omega
  have e2 : m % 2 ^ (k + 1) = 2 * (m / 2 % 2 ^ k) := by
    rw [h2]
    conv => lhs; rw [e1]
    exact Nat.mul_mod_mul_left 2 (m / 2) (2 ^ k)
  have e3 : m / 2 ^ (k + 1) = m / 2 / 2 ^ k := by rw [h2, Nat.div_div_eq_div_mul]
  unfold vUp
  rw [if_neg (by omega : ¬ 0 ≤ e), hk, e2, e3]
  by_cases h0 : 0 ≤ e + 1
  · have hk0 : k = 0 := by omega
    subst hk0
    rw [if_pos h0, show (e + 1).toNat = 0 from by omega]
    simp [Nat.mod_one]
  · rw [if_neg h0, show (-(e + 1)).toNat = k from by omega]
    by_cases h3 : m / 2 % 2 ^ k = 0
    · rw [if_pos h3, if_pos (by omega)]
    · rw [if_neg h3, if_neg (by omega)]
theorem vUp_odd {m : Nat} {e : Int} (he : e < 0) (hm : ¬ m % 2 = 0) : vUp m e = none := by
  obtain ⟨k, hk⟩ : ∃ k : Nat, (-e).toNat = k + 1 := ⟨(-e).toNat - 1, by omega⟩
  unfold vUp
  rw [if_neg (by omega : ¬ 0 ≤ e), hk, if_neg]
  intro h
  have h1 : 2 ∣ 2 ^ (k + 1) := ⟨2 ^ k, by rw [Nat.pow_succ, Nat.mul_comm]⟩
  have h2 : 2 ∣ m := Nat.dvd_trans h1 (Nat.dvd_of_mod_eq_zero h)
  omega
theorem vUp_twice {m : Nat} {e : Int} (he : 0 < e) : vUp (m * 2) (e - 1) = vUp m e := by
  unfold vUp
  rw [if_pos (by omega : 0 ≤ e), if_pos (by omega : 0 ≤ e - 1)]
  obtain ⟨k, hk⟩ : ∃ k : Nat, e.toNat = k + 1 := ⟨e.toNat - 1, by omega⟩
  rw [hk, show (e - 1).toNat = k from by omega, Nat.pow_succ, Nat.mul_assoc, Nat.mul_comm 2]
theorem vUp_zero (m : Nat) : vUp m 0 = some m := by unfold vUp; simp
theorem vUp_pos {m : Nat} {e : Int} (he : 0 ≤ e) : vUp m e = some (m * 2 ^ e.toNat) := by unfold vUp; rw [if_pos he]
theorem vUp_small {m : Nat} {e : Int} {v : Nat} (hm : m < 9007199254740992) (he : e ≤ 11) (h : vUp m e = some v) : v < 18446744073709551616 := by
  unfold vUp at h
  split at h
  · injection h with h
    have h1 : 2 ^ e.toNat ≤ 2 ^ 11 := Nat.pow_le_pow_right (by decide) (by omega)
    have h2 : m * 2 ^ e.toNat ≤ m * 2 ^ 11 := Nat.mul_le_mul_left _ h1
    omega
  · split at h
    · injection h with h
      have := Nat.div_le_self m (2 ^ (-e).toNat)
      omega
    · cases h

set_option maxHeartbeats 400000 in
theorem ref9Split_any (b : Int) (h0 : 0 ≤ b) (h1 : b ≤ 18446744073709551615) (w : World) :
    Calls Try.prog 36 #[.int .u64 b] w fun e w' => e = .returned (.tuple #[.int .i64 (dKind b), .bool (dNeg b), .int .u64 (dM b), .int .i64 (dE b)]) ∧ w = w' := by
  have e1 : bits .and .u64 (b / 4503599627370496) 2047 = b / 4503599627370496 % 2048 := and_mask 11 (by omega) _ (by omega) (by omega) _ (by decide)
  have e2 : bits .and .u64 b 4503599627370495 = b % 4503599627370496 := and_mask 52 (by omega) _ (by omega) (by omega) _ (by decide)
  by_cases hx : b / 4503599627370496 % 2048 = 2047
  · have q1 := beq_t hx
    have hx' : ¬ b / 4503599627370496 % 2048 = 0 := by omega
    have q2 := beq_f hx'
    by_cases hf : b % 4503599627370496 = 0
    · have q3 := beq_t hf
      have q4 := bne_f hf
      have HX := Lib.hid hx
      have HF := Lib.hid hf
      clear hx hf hx'
      go_enter Try.func36, Try.ntmps36
      go_wp2_with fail
      refine bodyPost_ret (results_tmp4 rfl _ _ _) rfl ?_
      exact ⟨by simp [dKind, dNeg, dM, dE, HX.out, HF.out], rfl⟩
    · have q3 := beq_f hf
      have q4 := bne_t hf
      have HX := Lib.hid hx
      have HF := Lib.hid hf
      clear hx hf hx'
      go_enter Try.func36, Try.ntmps36
      go_wp2_with fail
      refine bodyPost_ret (results_tmp4 rfl _ _ _) rfl ?_
      exact ⟨by simp [dKind, dNeg, dM, dE, HX.out, HF.out], rfl⟩
  · have q1 := beq_f hx
    by_cases hz : b / 4503599627370496 % 2048 = 0
    · have q2 := beq_t hz
      by_cases hf : b % 4503599627370496 = 0
      · have q3 := beq_t hf
        have q4 := bne_f hf
        have HX := Lib.hid hx
        have HF := Lib.hid hf
        have HZ := Lib.hid hz
        clear hx hf hz
        go_enter Try.func36, Try.ntmps36
        go_wp2_with fail
        refine bodyPost_ret (results_tmp4 rfl _ _ _) rfl ?_
        exact ⟨by simp [dKind, dNeg, dM, dE, HZ.out, HF.out], rfl⟩
      · have q3 := beq_f hf
        have q4 := bne_t hf
        have HX := Lib.hid hx
        have HF := Lib.hid hf
        have HZ := Lib.hid hz
        clear hx hf hz
        go_enter Try.func36, Try.ntmps36
        go_wp2_with fail
        refine bodyPost_ret (results_tmp4 rfl _ _ _) rfl ?_
        exact ⟨by simp [dKind, dNeg, dM, dE, HZ.out, HF.out], rfl⟩
    · have q2 := beq_f hz
      have e3 : bits .or .u64 4503599627370496 (b % 4503599627370496) = 4503599627370496 + b % 4503599627370496 := or_join 52 _ _ (by omega) (by decide) (by omega) (by omega) (by omega) (by omega)
      have HX := Lib.hid hx
      have HZ := Lib.hid hz
      clear hx hz
      go_enter Try.func36, Try.ntmps36
      go_wp2_with fail
      refine bodyPost_ret (results_tmp4 rfl _ _ _) rfl ?_
      exact ⟨by simp [dKind, dNeg, dM, dE, HX.out, HZ.out], rfl⟩


def RetW (o : Option Int) (w : World) (e : Ending) (w' : World) : Prop := e = .returned (.tuple #[.int .i64 (o.getD 0), .bool o.isSome]) ∧ w = w'
theorem retW_none {o : Option Int} {w : World} (h : o = none) : RetW o w (.returned (.tuple #[.int .i64 0, .bool false])) w := by subst h; exact ⟨rfl, rfl⟩
theorem retW_some {o : Option Int} {w : World} {v : Int} (h : o = some v) : RetW o w (.returned (.tuple #[.int .i64 v, .bool true])) w := by subst h; exact ⟨rfl, rfl⟩

set_option maxHeartbeats 1600000 in
theorem ref9Whole_any (b : Int) (h0 : 0 ≤ b) (h1 : b ≤ 18446744073709551615) (w : World) :
    Calls Try.prog 20 #[.int .u64 b] w (RetW (whole9 b) w) := by
  have S := fun w => ref9Split_any b h0 h1 w
  obtain ⟨hk, m0, m1, e0, e1, hm, _⟩ := d_bounds b h0
  by_cases k1 : dKind b = 1
  · have hr : whole9 b = some 0 := by unfold whole9; rw [if_pos k1]
    rw [k1] at S
    replace S := Lib.hid S
    replace hr := Lib.hid hr
    clear hk k1 hm
    go_enter Try.func20, Try.ntmps20
    go_wp2_with fail
    with_reducible refine (S.out _).mono ?_
    rintro e w' ⟨rfl, rfl⟩
    go_wp2_with fail
    refine bodyPost_ret (results_tmp2 rfl _ _ _) rfl ?_
    exact retW_some hr.out
  · have q1 := beq_f k1
    by_cases k2 : dKind b = 2
    · have q2 := bne_f k2
      by_cases hE : 11 < dE b
      · have hr : whole9 b = none := by unfold whole9; rw [if_neg k1, if_pos (.inr hE)]
        replace S := Lib.hid S
        replace hr := Lib.hid hr
        clear hk hm k1 k2
        generalize dKind b = k at *
        go_enter Try.func20, Try.ntmps20
        go_wp2_with fail
        with_reducible refine (S.out _).mono ?_
        rintro e w' ⟨rfl, rfl⟩
        go_wp2_with fail
        refine bodyPost_ret (results_tmp2 rfl _ _ _) rfl ?_
        exact retW_none hr.out
      · have hr : whole9 b = (vUp (dM b).toNat (dE b)).bind (sgn (dNeg b)) := by unfold whole9; rw [if_neg k1, if_neg (by omega)]
        have hm1 := hm k2
        clear hm hk k1 k2
        rw [hr]
        generalize dKind b = k at *
        generalize dE b = ee at *
        generalize dNeg b = nn at *
        generalize dM b = mm at *
        obtain ⟨V, hV⟩ : ∃ V, vUp mm.toNat ee = V := ⟨_, rfl⟩
        have hVs : ∀ v, V = some v → v < 18446744073709551616 := fun v hv => vUp_small (by omega) (by omega) (hV.trans hv)
        rw [hV]
        replace S := Lib.hid S
        replace hV := Lib.hid hV
        replace hVs := Lib.hid hVs
        clear hr
        go_enter Try.func20, Try.ntmps20
        go_wp2_with fail
        with_reducible refine (S.out _).mono ?_
        rintro e w' ⟨rfl, rfl⟩
        go_wp2_with fail
        go_loop [6, 7] (fun m e => ∃ (M : Int) (E : Int), m = .int .u64 M ∧ e = .int .i64 E ∧ 1 ≤ M ∧ M < 9007199254740992 ∧ -1074 ≤ E ∧ E ≤ 11 ∧ Hid (vUp M.toNat E = V)) (fun _ e => (-(intOf e)).toNat)
        case atStart => exact ⟨mm, ee, rfl, rfl, by omega, by omega, e0, by omega, hV⟩
        case round =>
          obtain ⟨M, E, rfl, rfl, u1, u2, u3, u4, u5⟩ := hrel
          by_cases hE0 : E < 0
          · by_cases hod : M.toNat % 2 = 0
            · have f1 : (M % 2 != 0) = false := bne_f (by omega)
              have u6 := Lib.hid ((congrArg (fun t => vUp t (E + 1)) (show (M / 2).toNat = M.toNat / 2 from by omega)).trans ((vUp_half hE0 hod).trans u5.out))
              have u7 : 1 ≤ M / 2 := by omega
              go_wp2_with fail
              go_round
              case rel => exact ⟨M / 2, E + 1, rfl, rfl, u7, by omega, by omega, by omega, u6⟩
              case measure => simp [intOf]; omega
            · have f1 : (M % 2 != 0) = true := bne_t (by omega)
              have hn : V = none := u5.out.symm.trans (vUp_odd hE0 hod)
              replace hn := Lib.hid hn
              go_wp2_with fail
              refine bodyPost_ret (results_tmp2 rfl _ _ _) rfl ?_
              exact retW_none (by rw [hn.out]; rfl)
          · go_wp2_with fail
            go_loop [6, 7] (fun m e => ∃ (M : Int) (E : Int), m = .int .u64 M ∧ e = .int .i64 E ∧ 1 ≤ M ∧ 0 ≤ E ∧ E ≤ 11 ∧ Hid (vUp M.toNat E = V)) (fun _ e => (intOf e).toNat)
            case atStart => exact ⟨M, E, rfl, rfl, u1, by omega, u4, u5⟩
            case round =>
              obtain ⟨M', E', rfl, rfl, v1, v2, v3, v4⟩ := hrel
              have v5 := hVs.out _ (v4.out.symm.trans (vUp_pos v2))
              by_cases hE1 : 0 < E'
              · have v6 := Lib.hid ((congrArg (fun t => vUp t (E' - 1)) (show (M' * 2).toNat = M'.toNat * 2 from by omega)).trans ((vUp_twice (m := M'.toNat) hE1).trans v4.out))
                have v7 : M' * 2 ≤ 18446744073709551615 := by
                  obtain ⟨k, hk⟩ : ∃ k : Nat, E'.toNat = k + 1 := ⟨E'.toNat - 1, by omega⟩
                  rw [hk, Nat.pow_succ, ← Nat.mul_assoc] at v5
                  have hp := Nat.two_pow_pos k
                  have : M'.toNat * 1 * 2 ≤ M'.toNat * 2 ^ k * 2 := Nat.mul_le_mul_right _ (Nat.mul_le_mul_left _ hp)
                  omega
                have v8 : 1 ≤ M' * 2 := by omega
                clear v5
                go_wp2_with fail
                go_round
                case rel => exact ⟨M' * 2, E' - 1, rfl, rfl, v8, by omega, by omega, v6⟩
                case measure => simp [intOf]; omega
              · obtain rfl : E' = 0 := by omega
                have v6 : V = some M'.toNat := v4.out.symm.trans (vUp_zero M'.toNat)
                rw [Int.toNat_zero, Nat.pow_zero, Nat.mul_one] at v5
                have v9 : M' ≤ 18446744073709551615 := by omega
                replace v6 := Lib.hid v6
                clear v4 v5
                cases nn
                · by_cases hb : M' < 9223372036854775808
                  · have hs : V.bind (sgn false) = some M' := by rw [v6.out]; show sgn false M'.toNat = _; unfold sgn; rw [if_neg (by decide), if_pos (by omega)]; congr 1; omega
                    replace hs := Lib.hid hs
                    go_wp2_with fail
                    refine bodyPost_ret (results_tmp2 rfl _ _ _) rfl ?_
                    exact retW_some hs.out
                  · have hs : V.bind (sgn false) = none := by rw [v6.out]; show sgn false M'.toNat = _; unfold sgn; rw [if_neg (by decide), if_neg (by omega)]
                    replace hs := Lib.hid hs
                    go_wp2_with fail
                    refine bodyPost_ret (results_tmp2 rfl _ _ _) rfl ?_
                    exact retW_none hs.out
                · by_cases hb : M' ≤ 9223372036854775808
                  · have hs : V.bind (sgn true) = some (-(M' - 1) - 1) := by rw [v6.out]; show sgn true M'.toNat = _; unfold sgn; rw [if_pos rfl, if_pos (by omega)]; congr 1; omega
                    replace hs := Lib.hid hs
                    go_wp2_with fail
                    refine bodyPost_ret (results_tmp2 rfl _ _ _) rfl ?_
                    exact retW_some hs.out
                  · have hs : V.bind (sgn true) = none := by rw [v6.out]; show sgn true M'.toNat = _; unfold sgn; rw [if_pos rfl, if_neg (by omega)]
                    replace hs := Lib.hid hs
                    go_wp2_with fail
                    refine bodyPost_ret (results_tmp2 rfl _ _ _) rfl ?_
                    exact retW_none hs.out
    · have q2 := bne_t k2
      have hr : whole9 b = none := by unfold whole9; rw [if_neg k1, if_pos (.inl k2)]
      replace S := Lib.hid S
      replace hr := Lib.hid hr
      clear hk hm k1 k2
      generalize dKind b = k at *
      go_enter Try.func20, Try.ntmps20
      go_wp2_with fail
      with_reducible refine (S.out _).mono ?_
      rintro e w' ⟨rfl, rfl⟩
      go_wp2_with fail
      refine bodyPost_ret (results_tmp2 rfl _ _ _) rfl ?_
      exact retW_none hr.out
end Go.Proofs.Ytimgmobpgbekjaa
