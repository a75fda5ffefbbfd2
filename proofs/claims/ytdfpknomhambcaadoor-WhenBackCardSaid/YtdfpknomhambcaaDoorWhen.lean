/- Plain laws of times as texts: the text of a time, the time of a text, there and back. No program. -/
import Derived.Test.YtdfpknomhambcaaDoorCal
import Derived.Test.YtdfpknomhambcaaDoorPin
namespace Go.Proofs.YtdfpknomhambcaaDoor
open Go.Lib
set_option linter.unusedSimpArgs false
set_option linter.unusedVariables false

def cdg (x : Nat) : UInt8 := UInt8.ofNat (48 + x % 10)
theorem cdg_val (x : Nat) : (cdg x).toNat - 48 = x % 10 := by unfold cdg; rw [UInt8.toNat_ofNat']; omega
theorem cdg_isD (x : Nat) : isD (cdg x) = true := by rw [isD_iff]; unfold cdg; rw [UInt8.toNat_ofNat']; omega
theorem pad2 (n : Nat) : padK 2 n = [cdg (n / 10), cdg n] := rfl
theorem pad3 (n : Nat) : padK 3 n = [cdg (n / 10 / 10), cdg (n / 10), cdg n] := rfl
theorem pad4 (n : Nat) : padK 4 n = [cdg (n / 10 / 10 / 10), cdg (n / 10 / 10), cdg (n / 10), cdg n] := rfl
def whenTxt (y m d h i s f : Nat) : List UInt8 :=
  padK 4 y ++ (45 :: (padK 2 m ++ (45 :: (padK 2 d ++ (84 :: (padK 2 h ++ (58 :: (padK 2 i ++ (58 :: (padK 2 s ++ (if f = 0 then [90] else 46 :: (padK 3 f ++ [90]))))))))))))
/-- The number of the digits from a place to another; -1: they are none. -/
def numOf (l : List UInt8) : Int := if l.all isD = true then (dval 0 l : Int) else -1
def fld (l : List UInt8) (a b : Nat) : Int := numOf ((l.drop a).take (b - a))
def whenOk (y m d h i s f : Int) : Prop := 1970 ≤ y ∧ 1 ≤ m ∧ m ≤ 12 ∧ 1 ≤ d ∧ d ≤ mlen y m ∧ 0 ≤ h ∧ h ≤ 23 ∧ 0 ≤ i ∧ i ≤ 59 ∧ 0 ≤ s ∧ s ≤ 59 ∧ 0 ≤ f
instance (y m d h i s f : Int) : Decidable (whenOk y m d h i s f) := by unfold whenOk; infer_instance
def whenShape (l : List UInt8) : Prop := ((l.length = 24 ∧ l[19]? = some 46 ∧ l[23]? = some 90) ∨ (l.length = 20 ∧ l[19]? = some 90)) ∧ l[4]? = some 45 ∧ l[7]? = some 45 ∧ l[10]? = some 84 ∧ l[13]? = some 58 ∧ l[16]? = some 58
instance (l : List UInt8) : Decidable (whenShape l) := by unfold whenShape; infer_instance
def whenVal (y m d h i s f : Int) : Int := ((((ahd y + cumd y m + (d - 1)) * 24 + h) * 60 + i) * 60 + s) * 1000 + f
def whenP (l : List UInt8) : Option Int :=
  if whenShape l ∧ whenOk (fld l 0 4) (fld l 5 7) (fld l 8 10) (fld l 11 13) (fld l 14 16) (fld l 17 19) (if l.length = 24 then fld l 20 23 else 0)
  then some (whenVal (fld l 0 4) (fld l 5 7) (fld l 8 10) (fld l 11 13) (fld l 14 16) (fld l 17 19) (if l.length = 24 then fld l 20 23 else 0)) else none
theorem num2 (a b : Nat) : numOf [cdg a, cdg b] = ((a % 10 * 10 + b % 10 : Nat) : Int) := by
  unfold numOf
  rw [if_pos (by simp only [List.all_cons, List.all_nil, cdg_isD]; rfl)]
  unfold dval
  simp only [List.foldl_cons, List.foldl_nil, cdg_val]
  omega
theorem num3 (a b c : Nat) : numOf [cdg a, cdg b, cdg c] = ((a % 10 * 100 + b % 10 * 10 + c % 10 : Nat) : Int) := by
  unfold numOf
  rw [if_pos (by simp only [List.all_cons, List.all_nil, cdg_isD]; rfl)]
  unfold dval
  simp only [List.foldl_cons, List.foldl_nil, cdg_val]
  omega
theorem num4 (a b c d : Nat) : numOf [cdg a, cdg b, cdg c, cdg d] = ((a % 10 * 1000 + b % 10 * 100 + c % 10 * 10 + d % 10 : Nat) : Int) := by
  unfold numOf
  rw [if_pos (by simp only [List.all_cons, List.all_nil, cdg_isD]; rfl)]
  unfold dval
  simp only [List.foldl_cons, List.foldl_nil, cdg_val]
  omega
theorem txt20 (y m d h i s : Nat) : whenTxt y m d h i s 0 = [cdg (y / 10 / 10 / 10), cdg (y / 10 / 10), cdg (y / 10), cdg y, 45, cdg (m / 10), cdg m, 45, cdg (d / 10), cdg d, 84, cdg (h / 10), cdg h, 58, cdg (i / 10), cdg i, 58, cdg (s / 10), cdg s, 90] := rfl
theorem txt24 (y m d h i s f : Nat) (hf : f ≠ 0) : whenTxt y m d h i s f = [cdg (y / 10 / 10 / 10), cdg (y / 10 / 10), cdg (y / 10), cdg y, 45, cdg (m / 10), cdg m, 45, cdg (d / 10), cdg d, 84, cdg (h / 10), cdg h, 58, cdg (i / 10), cdg i, 58, cdg (s / 10), cdg s, 46, cdg (f / 10 / 10), cdg (f / 10), cdg f, 90] := by
  unfold whenTxt; rw [if_neg hf]; rfl
theorem when_back (y m d h i s f : Nat) (hy : y < 10000) (hm : m < 100) (hd : d < 100) (hh : h < 100) (hi : i < 100) (hs : s < 100) (hf : f < 1000) (ok : whenOk y m d h i s f) : whenP (whenTxt y m d h i s f) = some (whenVal y m d h i s f) := by
  by_cases h0 : f = 0
  · subst h0
    rw [txt20]
    generalize hl : [cdg (y / 10 / 10 / 10), cdg (y / 10 / 10), cdg (y / 10), cdg y, 45, cdg (m / 10), cdg m, 45, cdg (d / 10), cdg d, 84, cdg (h / 10), cdg h, 58, cdg (i / 10), cdg i, 58, cdg (s / 10), cdg s, (90 : UInt8)] = l
    have e1 : fld l 0 4 = y := by rw [← hl]; show numOf [_, _, _, _] = _; rw [num4]; omega
    have e2 : fld l 5 7 = m := by rw [← hl]; show numOf [_, _] = _; rw [num2]; omega
    have e3 : fld l 8 10 = d := by rw [← hl]; show numOf [_, _] = _; rw [num2]; omega
    have e4 : fld l 11 13 = h := by rw [← hl]; show numOf [_, _] = _; rw [num2]; omega
    have e5 : fld l 14 16 = i := by rw [← hl]; show numOf [_, _] = _; rw [num2]; omega
    have e6 : fld l 17 19 = s := by rw [← hl]; show numOf [_, _] = _; rw [num2]; omega
    have e7 : l.length = 20 := by rw [← hl]; rfl
    have hsh : whenShape l := ⟨Or.inr ⟨e7, by rw [← hl]; rfl⟩, by rw [← hl]; rfl, by rw [← hl]; rfl, by rw [← hl]; rfl, by rw [← hl]; rfl, by rw [← hl]; rfl⟩
    unfold whenP
    rw [e1, e2, e3, e4, e5, e6, e7]
    exact if_pos ⟨hsh, ok⟩
  · rw [txt24 y m d h i s f h0]
    generalize hl : [cdg (y / 10 / 10 / 10), cdg (y / 10 / 10), cdg (y / 10), cdg y, 45, cdg (m / 10), cdg m, 45, cdg (d / 10), cdg d, 84, cdg (h / 10), cdg h, 58, cdg (i / 10), cdg i, 58, cdg (s / 10), cdg s, 46, cdg (f / 10 / 10), cdg (f / 10), cdg f, (90 : UInt8)] = l
    have e1 : fld l 0 4 = y := by rw [← hl]; show numOf [_, _, _, _] = _; rw [num4]; omega
    have e2 : fld l 5 7 = m := by rw [← hl]; show numOf [_, _] = _; rw [num2]; omega
    have e3 : fld l 8 10 = d := by rw [← hl]; show numOf [_, _] = _; rw [num2]; omega
    have e4 : fld l 11 13 = h := by rw [← hl]; show numOf [_, _] = _; rw [num2]; omega
    have e5 : fld l 14 16 = i := by rw [← hl]; show numOf [_, _] = _; rw [num2]; omega
    have e6 : fld l 17 19 = s := by rw [← hl]; show numOf [_, _] = _; rw [num2]; omega
    have e8 : fld l 20 23 = f := by rw [← hl]; show numOf [_, _, _] = _; rw [num3]; omega
    have e7 : l.length = 24 := by rw [← hl]; rfl
    have hsh : whenShape l := ⟨Or.inl ⟨e7, by rw [← hl]; rfl, by rw [← hl]; rfl⟩, by rw [← hl]; rfl, by rw [← hl]; rfl, by rw [← hl]; rfl, by rw [← hl]; rfl, by rw [← hl]; rfl⟩
    unfold whenP
    rw [e1, e2, e3, e4, e5, e6, e7, e8]
    exact if_pos ⟨hsh, ok⟩
end Go.Proofs.YtdfpknomhambcaaDoor
