/- Which texts are numerals: the digits' own, without noughts ahead. Plain laws. -/
import Derived.Test.YtiagngnpbpblaaaDoorNum
import Derived.Test.YtiagngnpbpblaaaDoorRParse
namespace Go.Proofs.YtiagngnpbpblaaaDoor
open Go.Lib
set_option linter.unusedSimpArgs false
set_option linter.unusedVariables false

theorem ofNat_dg (c : UInt8) (h : isDg c = true) : UInt8.ofNat (48 + (c.toNat - 48)) = c ∧ c.toNat - 48 < 10 := by
  unfold isDg at h
  simp only [Bool.and_eq_true, decide_eq_true_eq] at h
  refine ⟨?_, by omega⟩
  rw [show 48 + (c.toNat - 48) = c.toNat by omega]
  exact UInt8.ofNat_toNat
theorem canon : ∀ (n : Nat) (l : List UInt8), l.length = n + 1 → l.all isDg = true → (l.length = 1 ∨ l.head? ≠ some 48) → decDigits (decVal l) = l
  | 0, l, hl, ha, _ => by
    match l, hl with
    | [c], _ =>
      simp only [List.all_cons, List.all_nil, Bool.and_true] at ha
      obtain ⟨h1, h2⟩ := ofNat_dg c ha
      show decDigits (0 * 10 + (c.toNat - 48)) = [c]
      rw [show 0 * 10 + (c.toNat - 48) = c.toNat - 48 by omega, decDigits_one h2, h1]
  | n + 1, l, hl, ha, hh => by
    rcases List.eq_nil_or_concat l with rfl | ⟨m, c, rfl⟩
    · simp at hl
    · rw [List.concat_eq_append] at *
      have hm : m.length = n + 1 := by simp at hl; omega
      rw [List.all_append] at ha
      simp only [Bool.and_eq_true, List.all_cons, List.all_nil, Bool.and_true] at ha
      have hhm : m.head? ≠ some 48 := by
        rcases hh with h | h
        · rw [List.length_append, hm] at h; simp at h
        · rw [List.head?_append] at h
          match m, hm with
          | x :: _, _ => simpa using h
      have ih := canon n m hm ha.1 (Or.inr hhm)
      have h1 : decVal m ≠ 0 := by
        intro h0
        rw [h0, decDigits_one (by decide)] at ih
        rw [← ih] at hhm
        exact hhm rfl
      obtain ⟨e1, e2⟩ := ofNat_dg c ha.2
      rw [decVal_snoc, decDigits_ten (by omega), show (decVal m * 10 + (c.toNat - 48)) / 10 = decVal m by omega, show (decVal m * 10 + (c.toNat - 48)) % 10 = c.toNat - 48 by omega, ih, e1]
theorem noughts_ne (n : Nat) (l : List UInt8) (h : 1 < l.length) (h0 : l.head? = some 48) : decDigits n ≠ l := by
  intro e
  rcases Nat.eq_zero_or_pos n with rfl | hn
  · rw [decDigits_one (by decide)] at e
    rw [← e] at h
    simp at h
  · obtain ⟨c, m, hc, hne⟩ := decDigits_head n hn
    rw [← e, hc] at h0
    exact hne (Option.some.inj h0)
theorem parseOf_nil : parseOf [] = none := by
  unfold parseOf
  rw [if_neg]
  exact fun h => decDigits_nil _ h.2.2.2
theorem parseOf_nought {l : List UInt8} (h : 1 < l.length) (h0 : l.head? = some 48) : parseOf l = none := by
  unfold parseOf
  rw [if_neg]
  exact fun x => noughts_ne _ l h h0 x.2.2.2
theorem parseOf_canon {l : List UInt8} (h1 : 1 ≤ l.length) (h2 : l.length ≤ 39) (ha : l.all isDg = true) (hv : decVal l < 340282366920938463463374607431768211456) (hh : l.length = 1 ∨ l.head? ≠ some 48) : parseOf l = some (decVal l) := by
  unfold parseOf
  rw [if_pos ⟨h2, ha, hv, canon (l.length - 1) l (by omega) ha hh⟩]
theorem dec_len39 (n : Nat) (h : n < 340282366920938463463374607431768211456) : (decDigits n).length ≤ 39 := by
  rw [decDigits_length]
  exact nDigits_of_lt 39 n (by decide) (by omega)
end Go.Proofs.YtiagngnpbpblaaaDoor
