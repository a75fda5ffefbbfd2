/- A pattern's whole number, as the reference tells it, is the number that the double is. No program's run. -/
import Derived.Test.YtimgmobpgbekjaaSp9
import Derived.Test.YtimgmobpgbekjaaGau3
namespace Go.Proofs.Ytimgmobpgbekjaa
open Go.RowKit

attribute [local irreducible] Fl.K
theorem read_kind1 {x : Nat} (h : dKind x = 1) : ∃ s, Ieee.double.read x = .number s 0 (-1074) := by
  unfold dKind at h
  have h1 : x % 9223372036854775808 = 0 := by
    (repeat' split at h) <;> omega
  unfold Ieee.Format.read
  simp only [Fl.sw, Fl.bin, Fl.lp, Fl.infr, h1]
  exact ⟨_, rfl⟩
theorem read_kind2 {x : Nat} (hx : x < 18446744073709551616) (h : dKind x = 2) : Ieee.double.read x = .number (dNeg x) (dM x).toNat (dE x) := by
  have hn : (x / 9223372036854775808 % 2 == 1) = dNeg x := by
    unfold dNeg
    rw [Bool.eq_iff_iff, beq_iff_eq, beq_iff_eq]
    omega
  unfold dKind at h
  have h1 : ¬ (x : Int) / 4503599627370496 % 2048 = 2047 := by
    intro h2; rw [if_pos h2] at h; split at h <;> omega
  rw [if_neg h1] at h
  have h2 : ¬ ((x : Int) / 4503599627370496 % 2048 = 0 ∧ (x : Int) % 4503599627370496 = 0) := by
    intro h3; rw [if_pos h3] at h; omega
  unfold Ieee.Format.read
  simp only [Fl.sw, Fl.bin, Fl.lp, Fl.infr]
  rw [hn]
  unfold dM dE
  rw [if_neg h1, if_neg h1]
  by_cases hz : (x : Int) / 4503599627370496 % 2048 = 0
  · have hc : x % 9223372036854775808 < 4503599627370496 := by omega
    have hm : ¬ (x : Int) % 4503599627370496 = 0 := fun h3 => h2 ⟨hz, h3⟩
    rw [if_pos hc, if_pos hz, if_pos hz, if_neg hm]
    congr 1
    omega
  · have hc : ¬ x % 9223372036854775808 < 4503599627370496 := by omega
    have hd : x % 9223372036854775808 < 9218868437227405312 := by omega
    rw [if_neg hc, if_pos hd, if_neg hz, if_neg hz]
    congr 1 <;> omega
theorem read_kind34 {x : Nat} (h : ¬ dKind x = 1) (h' : ¬ dKind x = 2) : ∀ n, ¬ Fl.Rep x n := by
  have h1 : (x : Int) / 4503599627370496 % 2048 = 2047 := by
    by_cases h2 : (x : Int) / 4503599627370496 % 2048 = 2047
    · exact h2
    · exfalso
      unfold dKind at h h'
      rw [if_neg h2] at h h'
      split at h
      · exact h rfl
      · rename_i h3; rw [if_neg h3] at h'; exact h' rfl
  rintro n ⟨s, m, e, hr, _⟩
  unfold Ieee.Format.read at hr
  simp only [Fl.sw, Fl.bin, Fl.lp, Fl.infr] at hr
  rw [if_neg (by omega), if_neg (by omega)] at hr
  split at hr <;> cases hr

theorem sc_up {m : Nat} {e : Int} (he : -1074 ≤ e) (v : Nat) : Fl.sc m e = v * 2 ^ Fl.K ↔ vUp m e = some v := by
  have hK := Fl.K_is
  unfold Fl.sc vUp
  have hp := Nat.two_pow_pos Fl.K
  by_cases h0 : 0 ≤ e
  · rw [if_pos h0, show (e + Fl.K).toNat = e.toNat + Fl.K from by omega, Nat.pow_add, ← Nat.mul_assoc]
    constructor
    · intro h; rw [Nat.eq_of_mul_eq_mul_right hp h]
    · intro h; injection h with h; rw [h]
  · rw [if_neg h0]
    obtain ⟨k, hk⟩ : ∃ k : Nat, (-e).toNat = k := ⟨_, rfl⟩
    obtain ⟨r, hr⟩ : ∃ r : Nat, (e + Fl.K).toNat = r := ⟨_, rfl⟩
    have hkr : Fl.K = k + r := by omega
    rw [hk, hr, hkr, Nat.pow_add, ← Nat.mul_assoc]
    have hpr := Nat.two_pow_pos r
    have hpk := Nat.two_pow_pos k
    constructor
    · intro h
      have h1 := Nat.eq_of_mul_eq_mul_right hpr h
      rw [h1, Nat.mul_mod_left, if_pos rfl, Nat.mul_div_cancel _ hpk]
    · intro h
      split at h
      · rename_i h2
        injection h with h
        rw [← h, Nat.div_mul_cancel (Nat.dvd_of_mod_eq_zero h2)]
      · cases h

theorem sg_eq {s : Bool} {X : Nat} {n : Int} (h : Fl.sg s X = n * 2 ^ Fl.K) : X = n.natAbs * 2 ^ Fl.K := by
  rw [← Fl.natAbs_mul_pow, ← h, Fl.sg_abs]
theorem sg_of (s : Bool) (v : Nat) : Fl.sg s (v * 2 ^ Fl.K) = Fl.sg s v * 2 ^ Fl.K := Fl.sg_cast s v Fl.K
theorem sgn_sg {s : Bool} {v : Nat} {p : Int} (h : sgn s v = some p) : p = Fl.sg s v := by
  unfold sgn at h
  unfold Fl.sg
  cases s
  · rw [if_neg (by decide)] at h ⊢
    split at h
    · injection h with h; exact h.symm
    · cases h
  · rw [if_pos rfl] at h ⊢
    split at h
    · injection h with h; exact h.symm
    · cases h

theorem whole9_rep {x : Nat} (hx : x < 18446744073709551616) {p : Int} (h : whole9 x = some p) : Fl.Rep x p := by
  obtain ⟨_, m0, m1, e0, e1, hm, _⟩ := d_bounds x (by omega)
  unfold whole9 at h
  by_cases k1 : dKind x = 1
  · rw [if_pos k1] at h
    injection h with h
    obtain ⟨s, hs⟩ := read_kind1 k1
    refine ⟨s, 0, -1074, hs, by omega, by omega, ?_⟩
    rw [← h]
    simp [Fl.sg, Fl.sc]
  · rw [if_neg k1] at h
    by_cases k2 : ¬ dKind x = 2 ∨ 11 < dE x
    · rw [if_pos k2] at h; cases h
    · rw [if_neg k2] at h
      have k3 : dKind x = 2 := by omega
      cases hv : vUp (dM x).toNat (dE x) with
      | none => rw [hv] at h; cases h
      | some v =>
        rw [hv] at h
        have hs := sgn_sg (show sgn (dNeg x) v = some p from h)
        refine ⟨_, _, _, read_kind2 hx k3, e0, e1, ?_⟩
        rw [(sc_up e0 v).2 hv, sg_of, ← hs]

theorem rep_whole9 {x : Nat} (hx : x < 18446744073709551616) {n : Int} (h : Fl.Rep x n) (h0 : -4503599627370496 ≤ n) (h1 : n ≤ 4503599627370496) : whole9 x = some n := by
  obtain ⟨hk, m0, m1, e0, e1, hm, he⟩ := d_bounds x (by omega)
  unfold whole9
  by_cases k1 : dKind x = 1
  · rw [if_pos k1]
    obtain ⟨s, hs⟩ := read_kind1 k1
    have hz : Fl.Rep x 0 := ⟨s, 0, -1074, hs, by omega, by omega, by simp [Fl.sg, Fl.sc]⟩
    rw [Fl.rep_inj h hz]
  · by_cases k2 : dKind x = 2
    · have hr := read_kind2 hx k2
      obtain ⟨s, m, e, hr', e0', e1', hs⟩ := h
      rw [hr] at hr'
      injection hr' with i1 i2 i3
      subst i1 i2 i3
      have hab := sg_eq hs
      have hv := (sc_up e0 n.natAbs).1 hab
      have hE : ¬ 11 < dE x := by
        intro hE
        have h2 := he k2 hE
        rw [vUp_pos (by omega)] at hv
        injection hv with hv
        have h3 : 2 ^ 12 ≤ 2 ^ (dE x).toNat := Nat.pow_le_pow_right (by decide) (by omega)
        have h4 : 4503599627370496 * 2 ^ 12 ≤ (dM x).toNat * 2 ^ (dE x).toNat := Nat.mul_le_mul (by omega) h3
        omega
      rw [if_neg k1, if_neg (by omega), hv]
      show sgn (dNeg x) n.natAbs = some n
      have hn0 : ¬ n = 0 := by
        intro hn
        rw [hn] at hv
        unfold vUp at hv
        have hm1 := hm k2
        split at hv
        · injection hv with hv
          rcases Nat.mul_eq_zero.1 hv with h5 | h5
          · omega
          · exact absurd h5 (Nat.ne_of_gt (Nat.two_pow_pos _))
        · split at hv
          · rename_i h6
            injection hv with hv
            have := Nat.div_mul_cancel (Nat.dvd_of_mod_eq_zero h6)
            rw [hv] at this
            simp at this
            omega
          · cases hv
      rw [hab, sg_of] at hs
      have hs' := Int.eq_of_mul_eq_mul_right (Int.ne_of_gt Fl.two_pos) hs
      unfold Fl.sg at hs'
      unfold sgn
      cases hneg : dNeg x
      · rw [hneg, if_neg (by decide)] at hs'
        rw [if_neg (by decide), if_pos (by omega)]
        congr 1
      · rw [hneg, if_pos rfl] at hs'
        rw [if_pos rfl, if_pos (by omega)]
        congr 1
    · exact absurd h (read_kind34 k1 k2 n)

theorem W52_some {x : Nat} (hx : x < 18446744073709551616) {p : Int} (h : whole9 x = some p) (h0 : -4503599627370496 ≤ p) (h1 : p ≤ 4503599627370496) : W52 x = true :=
  W52_yes (whole9_rep hx h) h0 h1
theorem W52_none {x : Nat} (hx : x < 18446744073709551616) (h : ∀ p, whole9 x = some p → ¬ (-4503599627370496 ≤ p ∧ p ≤ 4503599627370496)) : W52 x = false := by
  rw [← Bool.not_eq_true, W52_iff]
  rintro ⟨n, hn, n0, n1⟩
  exact h n (rep_whole9 hx hn n0 n1) ⟨n0, n1⟩
end Go.Proofs.Ytimgmobpgbekjaa
