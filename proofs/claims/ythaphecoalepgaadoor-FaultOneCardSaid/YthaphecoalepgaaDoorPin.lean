/- Plain laws: which texts are whole numbers of 64 bits: what strconv.ParseInt and the reference's ParseInt tell. No program. -/
import Derived.Test.YthaphecoalepgaaDoorLex2
import Derived.Lib.ParseIntB
namespace Go.Proofs.YthaphecoalepgaaDoor
open Go.Lib
set_option linter.unusedSimpArgs false
set_option linter.unusedVariables false

def dval (a : Nat) (l : List UInt8) : Nat := l.foldl (fun a c => a * 10 + (c.toNat - 48)) a
theorem dval_cons (a : Nat) (c : UInt8) (l : List UInt8) : dval a (c :: l) = dval (a * 10 + (c.toNat - 48)) l := by unfold dval; rw [List.foldl_cons]
theorem dval_snoc (a : Nat) (l : List UInt8) (c : UInt8) : dval a (l ++ [c]) = dval a l * 10 + (c.toNat - 48) := by unfold dval; rw [List.foldl_append]; rfl
theorem dval_ge : ∀ (l : List UInt8) (a : Nat), a ≤ dval a l
  | [], a => Nat.le_refl _
  | c :: l, a => by
    rw [dval_cons]
    have := dval_ge l (a * 10 + (c.toNat - 48))
    omega
theorem dval_dec (n : Nat) : dval 0 (decDigits n) = n := by
  induction n using Nat.strongRecOn with
  | _ n ih =>
    by_cases h : n < 10
    · rw [decDigits_one h]
      show 0 * 10 + ((UInt8.ofNat (48 + n)).toNat - 48) = n
      rw [UInt8.toNat_ofNat']
      omega
    · rw [decDigits_ten h, dval_snoc, ih (n / 10) (by omega), UInt8.toNat_ofNat']
      omega
theorem isD_iff {c : UInt8} : isD c = true ↔ 48 ≤ c.toNat ∧ c.toNat ≤ 57 := by unfold isD; simp
theorem ofNat_isD (c : UInt8) (h : isD c = true) : UInt8.ofNat (48 + (c.toNat - 48)) = c ∧ c.toNat - 48 < 10 := by
  have h := isD_iff.1 h
  refine ⟨?_, by omega⟩
  rw [show 48 + (c.toNat - 48) = c.toNat by omega]
  exact UInt8.ofNat_toNat
theorem dcanon : ∀ (n : Nat) (l : List UInt8), l.length = n + 1 → l.all isD = true → (l.length = 1 ∨ hdIs l 48 48 = false) → decDigits (dval 0 l) = l
  | 0, l, hl, ha, _ => by
    match l, hl with
    | [c], _ =>
      simp only [List.all_cons, List.all_nil, Bool.and_true] at ha
      obtain ⟨h1, h2⟩ := ofNat_isD c ha
      show decDigits (0 * 10 + (c.toNat - 48)) = [c]
      rw [show 0 * 10 + (c.toNat - 48) = c.toNat - 48 by omega, decDigits_one h2, h1]
  | n + 1, l, hl, ha, hh => by
    rcases List.eq_nil_or_concat l with rfl | ⟨m, c, rfl⟩
    · simp at hl
    · rw [List.concat_eq_append] at *
      have hm : m.length = n + 1 := by simp at hl; omega
      rw [List.all_append] at ha
      simp only [Bool.and_eq_true, List.all_cons, List.all_nil, Bool.and_true] at ha
      have hhm : hdIs m 48 48 = false := by
        rcases hh with h | h
        · rw [List.length_append, hm] at h; simp at h
        · match m, hm with
          | x :: _, _ => exact h
      have ih := dcanon n m hm ha.1 (Or.inr hhm)
      have h1 : dval 0 m ≠ 0 := by
        intro h0
        rw [h0, decDigits_one (by decide)] at ih
        rw [← ih] at hhm
        cases hhm
      obtain ⟨e1, e2⟩ := ofNat_isD c ha.2
      rw [dval_snoc, decDigits_ten (by omega), show (dval 0 m * 10 + (c.toNat - 48)) / 10 = dval 0 m by omega, show (dval 0 m * 10 + (c.toNat - 48)) % 10 = c.toNat - 48 by omega, ih, e1]
/-- What the reference's number tells. -/
def refNum (l : List UInt8) (most : Nat) : Option Nat := if l ≠ [] ∧ l.length ≤ 20 ∧ (l.length = 1 ∨ hdIs l 48 48 = false) ∧ l.all isD = true ∧ dval 0 l ≤ most then some (dval 0 l) else none
theorem refNum_iff (l : List UInt8) (most n : Nat) (hm : most ≤ 9223372036854775808) : refNum l most = some n ↔ decDigits n = l ∧ n ≤ most := by
  unfold refNum
  constructor
  · intro h
    split at h
    · rename_i hc
      obtain ⟨h1, h2, h3, h4, h5⟩ := hc
      obtain rfl := Option.some.inj h
      have hl : l.length ≠ 0 := fun h => h1 (List.eq_nil_of_length_eq_zero h)
      exact ⟨dcanon (l.length - 1) l (by omega) h4 h3, h5⟩
    · cases h
  · rintro ⟨rfl, h⟩
    have hl : (decDigits n).length ≤ 20 := by rw [decDigits_length]; exact nDigits_of_lt 20 n (by decide) (by omega)
    rw [if_pos ⟨decDigits_nil n, hl, dec_hd n, dec_isD n, by rw [dval_dec]; exact h⟩, dval_dec]
end Go.Proofs.YthaphecoalepgaaDoor
