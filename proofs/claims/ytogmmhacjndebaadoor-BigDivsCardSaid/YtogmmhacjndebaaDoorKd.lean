/- A row of digits by a power of 2; the shift that lifts a digit's highest bit. Plain laws. No program. -/
import Derived.Test.YtogmmhacjndebaaDoorKn
import Derived.Lib.BitFns
namespace Go.Proofs.YtogmmhacjndebaaDoor
set_option linter.unusedSimpArgs false
set_option linter.unusedVariables false
/-- Digit i of the row l by q, q * p being 65536. -/
def dnD (q p : Nat) (l : List Nat) (i : Nat) : Nat := l.getD i 0 / q + (l.getD (i + 1) 0 * p) % 65536
theorem dn_mod {q p x : Nat} (h : q * p = 65536) : (x * p) % 65536 = (x % q) * p := by
  rw [← h, Nat.mul_comm x p, Nat.mul_comm q p, Nat.mul_mod_mul_left, Nat.mul_comm]
theorem dn_lt {q p x y : Nat} (h : q * p = 65536) (hq : 0 < q) (hx : x < 65536) : x / q + (y * p) % 65536 < 65536 := by
  rw [dn_mod h]
  have h1 : x / q < p := by rw [Nat.div_lt_iff_lt_mul hq, Nat.mul_comm]; omega
  have h2 : y % q < q := Nat.mod_lt _ hq
  have h3 : (y % q + 1) * p ≤ q * p := Nat.mul_le_mul_right p h2
  rw [Nat.add_mul] at h3
  omega
theorem dn_val {q p : Nat} (h : q * p = 65536) (hq : 0 < q) : ∀ l : List Nat, valL ((List.range l.length).map (dnD q p l)) = valL l / q
  | [] => by simp [valL]
  | d :: l => by
    have ih := dn_val h hq l
    rw [List.length_cons, List.range_succ_eq_map, List.map_cons, List.map_map]
    have e : (dnD q p (d :: l)) ∘ Nat.succ = dnD q p l := by funext i; rfl
    rw [e]
    show dnD q p (d :: l) 0 + 65536 * valL ((List.range l.length).map (dnD q p l)) = (d + 65536 * valL l) / q
    rw [ih]
    have e0 : dnD q p (d :: l) 0 = d / q + (valL l % q) * p := by
      show d / q + (l.getD 0 0 * p) % 65536 = _
      rw [dn_mod h]
      congr 2
      cases l with
      | nil => rfl
      | cons x r =>
        show x % q = (x + 65536 * valL r) % q
        rw [← h, Nat.mul_assoc, Nat.add_mul_mod_self_left]
    rw [e0]
    have hd : (d + 65536 * valL l) / q = d / q + p * valL l := by
      rw [← h, Nat.mul_assoc, Nat.add_mul_div_left _ _ hq]
    rw [hd]
    have hv := Nat.div_add_mod (valL l) q
    have e2 : p * valL l = 65536 * (valL l / q) + valL l % q * p := by
      conv => lhs; rw [← hv]
      rw [Nat.mul_add, ← Nat.mul_assoc, Nat.mul_comm p q, h, Nat.mul_comm p]
    rw [e2]; omega
theorem bitLen_pos {t : Nat} (h0 : 1 ≤ t) : 1 ≤ Lib.bitLen t ∧ 2 ^ (Lib.bitLen t - 1) ≤ t ∧ t < 2 ^ Lib.bitLen t ∨ 65536 ≤ t := by
  by_cases ht : t < 65536
  · left
    have h : ∀ f x : Nat, 1 ≤ x → x < 2 ^ f → 1 ≤ Lib.bitLenAux f x ∧ 2 ^ (Lib.bitLenAux f x - 1) ≤ x ∧ x < 2 ^ Lib.bitLenAux f x := by
      intro f
      induction f with
      | zero => intro x h1 h2; rw [Nat.pow_zero] at h2; omega
      | succ f ih =>
        intro x h1 h2
        rw [Lib.bitLenAux]
        rw [if_neg (by omega)]
        by_cases hx : x / 2 = 0
        · have : x = 1 := by omega
          subst this
          have h3 : Lib.bitLenAux f (1 / 2) = 0 := by cases f <;> simp [Lib.bitLenAux]
          rw [h3]
          exact ⟨by decide, by decide, by decide⟩
        · obtain ⟨i1, i2, i3⟩ := ih (x / 2) (by omega) (by rw [Nat.pow_succ] at h2; omega)
          obtain ⟨b, hb⟩ : ∃ b, Lib.bitLenAux f (x / 2) = b + 1 := ⟨Lib.bitLenAux f (x / 2) - 1, by omega⟩
          rw [hb] at i2 i3 ⊢
          rw [Nat.add_sub_cancel] at i2
          rw [Nat.pow_succ] at i3
          refine ⟨by omega, ?_, ?_⟩
          · rw [show 1 + (b + 1) - 1 = b + 1 by omega, Nat.pow_succ]; omega
          · rw [show 1 + (b + 1) = b + 1 + 1 by omega, Nat.pow_succ, Nat.pow_succ]; omega
    exact h 64 t h0 (Nat.lt_trans ht (by decide))
  · right; omega
theorem lift_top {t : Nat} (h0 : 1 ≤ t) (h1 : t < 65536) : ∃ s, Lib.bitLen t + s = 16 ∧ s ≤ 15 ∧ 32768 ≤ t * 2 ^ s ∧ t * 2 ^ s < 65536 := by
  rcases bitLen_pos h0 with ⟨b1, b2, b3⟩ | h
  · have hle : Lib.bitLen t ≤ 16 := Lib.bitLen_le t 16 (by decide) h1
    obtain ⟨s, hs⟩ : ∃ s, Lib.bitLen t + s = 16 := ⟨16 - Lib.bitLen t, by omega⟩
    refine ⟨s, hs, by omega, ?_, ?_⟩
    · have h2 := Nat.mul_le_mul_right (2 ^ s) b2
      rw [← Nat.pow_add, show Lib.bitLen t - 1 + s = 15 by omega] at h2
      exact h2
    · have h2 := (Nat.mul_lt_mul_right (a := 2 ^ s) (Nat.pow_pos (by decide))).2 b3
      rw [← Nat.pow_add, hs] at h2
      exact h2
  · omega
/-- A number whose top digit is lifted keeps its length; its new top digit is 32768 or more. -/
theorem lift_len {b : List Nat} {k s : Nat} (hb : Can b) (hk : b.length = k + 2) (hs0 : 32768 ≤ b.getD (k + 1) 0 * 2 ^ s) (hs1 : b.getD (k + 1) 0 * 2 ^ s < 65536) :
    (dg (valL b * 2 ^ s)).length = k + 2 ∧ 32768 ≤ (dg (valL b * 2 ^ s)).getD (k + 1) 0 := by
  have hP : 0 < 65536 ^ (k + 1) := Nat.pow_pos (by decide)
  have h2 : 0 < 2 ^ s := Nat.pow_pos (by decide)
  have hv : valL b = valL (b.take (k + 1)) + 65536 ^ (k + 1) * b.getD (k + 1) 0 := by
    rw [val_split b (k + 1) (by omega), val_drop b (k + 1) (by omega), val_rest (l := b) (j := k + 1 + 1) (by omega)]
    rfl
  have hl := val_lt (hb.1.take (k + 1))
  rw [List.length_take, Nat.min_eq_left (by omega)] at hl
  have hV1 : valL b * 2 ^ s < 65536 ^ (k + 2) := by
    have h3 : valL b < 65536 ^ (k + 1) * (b.getD (k + 1) 0 + 1) := by rw [hv, Nat.mul_add, Nat.mul_one]; omega
    have h4 := (Nat.mul_lt_mul_right h2).2 h3
    rw [Nat.mul_assoc] at h4
    have h5 : (b.getD (k + 1) 0 + 1) * 2 ^ s ≤ 65536 := by
      have hdv : 65536 % 2 ^ s = 0 ∨ 65536 < 2 ^ s := by
        by_cases h : s ≤ 16
        · left
          obtain ⟨r, hr⟩ : ∃ r, s + r = 16 := ⟨16 - s, by omega⟩
          have : (65536 : Nat) = 2 ^ s * 2 ^ r := by rw [← Nat.pow_add, hr]
          rw [this, Nat.mul_mod_right]
        · right
          have := Nat.pow_lt_pow_right (a := 2) (by decide) (show 16 < s by omega)
          exact this
      rcases hdv with hdv | hdv
      · obtain ⟨c, hc⟩ : ∃ c, 65536 = 2 ^ s * c := ⟨65536 / 2 ^ s, by have := Nat.div_add_mod 65536 (2 ^ s); omega⟩
        rw [hc, Nat.mul_comm] at hs1
        have := Nat.lt_of_mul_lt_mul_left hs1
        have h6 := Nat.mul_le_mul_left (2 ^ s) this
        rw [← hc] at h6
        rw [Nat.mul_comm]
        exact h6
      · have h7 : b.getD (k + 1) 0 = 0 := by
          rcases Nat.eq_zero_or_pos (b.getD (k + 1) 0) with h | h
          · exact h
          · have := Nat.mul_le_mul_right (2 ^ s) h
            omega
        rw [h7, Nat.zero_mul] at hs0
        omega
    have h6 := Nat.mul_le_mul_left (65536 ^ (k + 1)) h5
    rw [Nat.pow_succ 65536 (k + 1)]
    omega
  have hV2 : 65536 ^ (k + 1) * 32768 ≤ valL b * 2 ^ s := by
    have h3 : 65536 ^ (k + 1) * b.getD (k + 1) 0 ≤ valL b := by rw [hv]; omega
    have h4 := Nat.mul_le_mul_right (2 ^ s) h3
    rw [Nat.mul_assoc] at h4
    exact Nat.le_trans (Nat.mul_le_mul_left _ hs0) h4
  obtain ⟨V, hV⟩ : ∃ V, valL b * 2 ^ s = V := ⟨_, rfl⟩
  rw [hV] at hV1 hV2 ⊢
  have l1 := dg_len_le hV1
  have l2 := dg_len_gt (n := V) (k := k + 1) (by omega)
  have hlen : (dg V).length = k + 2 := by omega
  refine ⟨hlen, ?_⟩
  have hd := dig_dg V
  have hv2 : V = valL ((dg V).take (k + 1)) + 65536 ^ (k + 1) * (dg V).getD (k + 1) 0 := by
    have h1 := val_split (dg V) (k + 1) (by omega)
    rw [val_dg, val_drop (dg V) (k + 1) (by omega), val_rest (l := dg V) (j := k + 1 + 1) (by omega), Nat.mul_zero, Nat.add_zero] at h1
    exact h1
  have hl2 := val_lt (hd.take (k + 1))
  rw [List.length_take, Nat.min_eq_left (by omega)] at hl2
  rcases Nat.lt_or_ge ((dg V).getD (k + 1) 0) 32768 with h | h
  · exfalso
    have h3 := Nat.mul_le_mul_left (65536 ^ (k + 1)) (show (dg V).getD (k + 1) 0 + 1 ≤ 32768 from h)
    rw [Nat.mul_add, Nat.mul_one] at h3
    omega
  · exact h
theorem div_lift (A B q : Nat) (hq : 0 < q) : A * q / (B * q) = A / B ∧ A * q % (B * q) / q = A % B := by
  refine ⟨Nat.mul_div_mul_right _ _ hq, ?_⟩
  rw [Nat.mul_mod_mul_right, Nat.mul_div_cancel _ hq]
end Go.Proofs.YtogmmhacjndebaaDoor
