/- Plain laws: which texts are whole numbers of 64 bits: what strconv.ParseInt and the reference's ParseInt tell. No program. -/
import Derived.Test.YtdfpknomhambcaaDoorLex2
import Derived.Lib.ParseIntB
namespace Go.Proofs.YtdfpknomhambcaaDoor
open Go.Lib
set_option linter.unusedSimpArgs false
set_option linter.unusedVariables false

def dval (a : Nat) (l : List UInt8) : Nat := l.foldl (fun a c => a * 10 + (c.toNat - 48)) a
theorem dval_cons (a : Nat) (c : UInt8) (l : List UInt8) : dval a (c :: l) = dval (a * 10 + (c.toNat - 48)) l := by unfold dval; rw [List.foldl_cons]
theorem dval_snoc (a : Nat) (l : List UInt8) (c : UInt8) : dval a (l ++ [c]) = dval a l * 10 + (c.toNat - 48) := by unfold dval; rw [List.foldl_append]; rfl
theorem dval_ge : ∀ (l : List UInt8) (a : Nat), a ≤ dval a l
  | [], a => Nat.le_refl _
  | c :: l, a => by
    rw [dval_cons]
    have := dval_ge l (a * 10 + (c.toNat - 48))
    omega
theorem dval_dec (n : Nat) : dval 0 (decDigits n) = n := by
  induction n using Nat.strongRecOn with
  | _ n ih =>
    by_cases h : n < 10
    · rw [decDigits_one h]
      show 0 * 10 + ((UInt8.ofNat (48 + n)).toNat - 48) = n
      rw [UInt8.toNat_ofNat']
      omega
    · rw [decDigits_ten h, dval_snoc, ih (n / 10) (by omega), UInt8.toNat_ofNat']
      omega
theorem isD_iff {c : UInt8} : isD c = true ↔ 48 ≤ c.toNat ∧ c.toNat ≤ 57 := by unfold isD; simp
theorem ofNat_isD (c : UInt8) (h : isD c = true) : UInt8.ofNat (48 + (c.toNat - 48)) = c ∧ c.toNat - 48 < 10 := by
  have h := isD_iff.1 h
  refine ⟨?_, by omega⟩
  rw [show 48 + (c.toNat - 48) = c.toNat by omega]
  exact UInt8.ofNat_toNat
theorem dcanon : ∀ (n : Nat) (l : List UInt8), l.length = n + 1 → l.all isD = true → (l.length = 1 ∨ hdIs l 48 48 = false) → decDigits (dval 0 l) = l
  | 0, l, hl, ha, _ => by
    match l, hl with
    | [c], _ =>
      simp only [List.all_cons, List.all_nil, Bool.and_true] at ha
      obtain ⟨h1, h2⟩ := ofNat_isD c ha
      show decDigits (0 * 10 + (c.toNat - 48)) = [c]
      rw [show 0 * 10 + (c.toNat - 48) = c.toNat - 48 by omega, decDigits_one h2, h1]
  | n + 1, l, hl, ha, hh => by
    rcases List.eq_nil_or_concat l with rfl | ⟨m, c, rfl⟩
    · simp at hl
    · rw [List.concat_eq_append] at *
      have hm : m.length = n + 1 := by simp at hl; omega
      rw [List.all_append] at ha
      simp only [Bool.and_eq_true, List.all_cons, List.all_nil, Bool.and_true] at ha
      have hhm : hdIs m 48 48 = false := by
        rcases hh with h | h
        · rw [List.length_append, hm] at h; simp at h
        · match m, hm with
          | x :: _, _ => exact h
      have ih := dcanon n m hm ha.1 (Or.inr hhm)
      have h1 : dval 0 m ≠ 0 := by
        intro h0
        rw [h0, decDigits_one (by decide)] at ih
        rw [← ih] at hhm
        cases hhm
      obtain ⟨e1, e2⟩ := ofNat_isD c ha.2
      rw [dval_snoc, decDigits_ten (by omega), show (dval 0 m * 10 + (c.toNat - 48)) / 10 = dval 0 m by omega, show (dval 0 m * 10 + (c.toNat - 48)) % 10 = c.toNat - 48 by omega, ih, e1]
theorem parseM_ok (M : Nat) (hM : M ≤ 18446744073709551615) : ∀ (l : List UInt8) (a : Nat), l.all isD = true → dval a l ≤ M → parseUintM M a l = .ok (dval a l)
  | [], _, _, _ => rfl
  | c :: l, a, ha, h => by
    simp only [List.all_cons, Bool.and_eq_true] at ha
    rw [dval_cons] at h ⊢
    have hc := isD_iff.1 ha.1
    have hg := dval_ge l (a * 10 + (c.toNat - 48))
    unfold parseUintM
    rw [if_pos hc, if_neg (by omega), if_neg (by omega)]
    exact parseM_ok M hM l _ ha.2 h
theorem parseB_dec (n : Nat) (h : n ≤ 18446744073709551615) : parseUintB 64 (decDigits n) = .ok n := by
  unfold parseUintB
  rw [if_neg (decDigits_nil n), parseM_ok _ (by decide) _ _ (dec_isD n) (by rw [dval_dec]; exact h), dval_dec]
theorem parse_itoa (v : Int) (h0 : -9223372036854775808 ≤ v) (h1 : v ≤ 9223372036854775807) : parseIntB 64 (itoa v) = .ok v := by
  unfold itoa
  by_cases hv : v < 0
  · rw [if_pos hv]
    unfold parseIntB
    have h45 : (45 : UInt8).toNat = 45 := rfl
    simp only [h45]
    rw [if_pos (Or.inr trivial : (45 : Nat) = 43 ∨ True), parseB_dec _ (by omega)]
    simp only
    rw [if_neg (by simp), if_neg (by simp; omega), if_pos trivial]
    congr 1
    omega
  · rw [if_neg hv]
    have hp := parseB_dec v.toNat (by omega)
    have ha := dec_isD v.toNat
    cases hd : decDigits v.toNat with
    | nil => exact absurd hd (decDigits_nil _)
    | cons c r =>
      rw [hd] at ha hp
      simp only [List.all_cons, Bool.and_eq_true] at ha
      have hc := isD_iff.1 ha.1
      unfold parseIntB
      simp only
      rw [if_neg (by omega), hp]
      simp only
      rw [if_neg (by omega), if_neg (by omega), if_neg (by omega)]
      congr 1
      omega
theorem parse_range {l : List UInt8} {v : Int} (h : parseIntB 64 l = .ok v) : -9223372036854775808 ≤ v ∧ v ≤ 9223372036854775807 := by
  unfold parseIntB at h
  match l, h with
  | c :: r, h =>
    simp only at h
    split at h
    · cases h
    · cases h
    · split at h
      · cases h
      · split at h
        · cases h
        · injection h with h
          split at h <;> omega
/-- What whole.Parse tells. -/
def canonInt (l : List UInt8) : Option Int := match parseIntB 64 l with
  | .ok v => if itoa v = l then some v else none
  | _ => none
theorem canonInt_iff (l : List UInt8) (v : Int) : canonInt l = some v ↔ itoa v = l ∧ -9223372036854775808 ≤ v ∧ v ≤ 9223372036854775807 := by
  constructor
  · intro h
    unfold canonInt at h
    split at h
    · rename_i u hu
      split at h
      · rename_i he
        obtain rfl := Option.some.inj h
        exact ⟨he, parse_range hu⟩
      · cases h
    · cases h
  · rintro ⟨rfl, h0, h1⟩
    unfold canonInt
    rw [parse_itoa v h0 h1]
    simp
/-- What the reference's number tells. -/
def refNum (l : List UInt8) (most : Nat) : Option Nat := if l ≠ [] ∧ l.length ≤ 20 ∧ (l.length = 1 ∨ hdIs l 48 48 = false) ∧ l.all isD = true ∧ dval 0 l ≤ most then some (dval 0 l) else none
theorem refNum_iff (l : List UInt8) (most n : Nat) (hm : most ≤ 9223372036854775808) : refNum l most = some n ↔ decDigits n = l ∧ n ≤ most := by
  unfold refNum
  constructor
  · intro h
    split at h
    · rename_i hc
      obtain ⟨h1, h2, h3, h4, h5⟩ := hc
      obtain rfl := Option.some.inj h
      have hl : l.length ≠ 0 := fun h => h1 (List.eq_nil_of_length_eq_zero h)
      exact ⟨dcanon (l.length - 1) l (by omega) h4 h3, h5⟩
    · cases h
  · rintro ⟨rfl, h⟩
    have hl : (decDigits n).length ≤ 20 := by rw [decDigits_length]; exact nDigits_of_lt 20 n (by decide) (by omega)
    rw [if_pos ⟨decDigits_nil n, hl, dec_hd n, dec_isD n, by rw [dval_dec]; exact h⟩, dval_dec]
def refInt (l : List UInt8) : Option Int :=
  if hdIs l 45 45 then (match refNum l.tail 9223372036854775808 with | some v => if v = 0 then none else some (-(v : Int)) | none => none)
  else (match refNum l 9223372036854775807 with | some v => some (v : Int) | none => none)
theorem refInt_iff (l : List UInt8) (v : Int) : refInt l = some v ↔ itoa v = l ∧ -9223372036854775808 ≤ v ∧ v ≤ 9223372036854775807 := by
  unfold refInt
  constructor
  · intro h
    split at h
    · rename_i hs
      obtain ⟨m, rfl, _⟩ := lexOf_sign hs
      split at h
      · rename_i u hu
        split at h
        · cases h
        · obtain rfl := Option.some.inj h
          obtain ⟨h1, h2⟩ := (refNum_iff _ _ _ (by decide)).1 hu
          refine ⟨?_, by omega, by omega⟩
          unfold itoa
          rw [if_pos (by omega), show (-(u : Int)).natAbs = u by omega, h1]; rfl
      · cases h
    · split at h
      · rename_i u hu
        obtain rfl := Option.some.inj h
        obtain ⟨h1, h2⟩ := (refNum_iff _ _ _ (by decide)).1 hu
        refine ⟨?_, by omega, by omega⟩
        unfold itoa
        rw [if_neg (by omega), show ((u : Int)).toNat = u by omega, h1]
      · cases h
  · rintro ⟨rfl, h0, h1⟩
    unfold itoa
    by_cases hv : v < 0
    · rw [if_pos hv, if_pos (show hdIs (45 :: decDigits v.natAbs) 45 45 = true from rfl)]
      have hn := (refNum_iff (decDigits v.natAbs) 9223372036854775808 v.natAbs (by decide)).2 ⟨rfl, by omega⟩
      show (match refNum (decDigits v.natAbs) 9223372036854775808 with | some v => if v = 0 then none else some (-(v : Int)) | none => none) = some v
      rw [hn]
      simp only
      rw [if_neg (by omega)]
      congr 1
      omega
    · have hs : hdIs (decDigits v.toNat) 45 45 = false := by
        have := digit_no_sign (r := []) (dec_isD v.toNat) (decDigits_nil _)
        rw [List.append_nil] at this
        exact this
      have hn := (refNum_iff (decDigits v.toNat) 9223372036854775807 v.toNat (by decide)).2 ⟨rfl, by omega⟩
      rw [if_neg hv, hs, hn]
      simp only [Bool.false_eq_true, if_false]
      congr 1
      omega
theorem canon_ref (l : List UInt8) : canonInt l = refInt l := by
  apply Option.ext
  intro v
  rw [canonInt_iff, refInt_iff]
theorem canon_itoa (v : Int) (h0 : -9223372036854775808 ≤ v) (h1 : v ≤ 9223372036854775807) : canonInt (itoa v) = some v := (canonInt_iff _ _).2 ⟨rfl, h0, h1⟩
theorem itoa_inj (v w : Int) (h0 : -9223372036854775808 ≤ v) (h1 : v ≤ 9223372036854775807) (h : itoa v = itoa w) : v = w := by
  have a := canon_itoa v h0 h1
  unfold canonInt at a
  have b := parse_itoa v h0 h1
  rw [b] at a
  have hd := (fun (x : Int) => dval_dec x.toNat)
  unfold itoa at h
  split at h <;> split at h
  · have h' := (List.cons.inj h).2
    have := congrArg (dval 0) h'
    rw [dval_dec, dval_dec] at this
    omega
  · have ha := dec_isD w.toNat
    rw [← h] at ha
    simp only [List.all_cons, Bool.and_eq_true] at ha
    exact absurd ha.1 (by decide)
  · have ha := dec_isD v.toNat
    rw [h] at ha
    simp only [List.all_cons, Bool.and_eq_true] at ha
    exact absurd ha.1 (by decide)
  · have := congrArg (dval 0) h
    rw [dval_dec, dval_dec] at this
    omega
end Go.Proofs.YtdfpknomhambcaaDoor
