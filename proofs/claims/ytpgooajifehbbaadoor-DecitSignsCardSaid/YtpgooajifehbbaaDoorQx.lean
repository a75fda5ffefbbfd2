/- Laws of numerals and of joined decimals that law 15 wants. No program. -/
import Derived.Test.YtpgooajifehbbaaDoorQ5
import Derived.Test.YtpgooajifehbbaaDoorPar
import Derived.Test.YtpgooajifehbbaaDoorDec8
namespace Go.Proofs.YtpgooajifehbbaaDoor
open Go.RowKit Go.Lib
set_option linter.unusedSimpArgs false
set_option linter.unusedVariables false
theorem dec_all15 (n : Nat) : (decDigits n).all isDg = true := by
  induction n using Nat.strongRecOn with
  | _ n ih =>
    by_cases h : n < 10
    · rw [decDigits_one h]
      rw [List.all_cons, ofDg n h]; rfl
    · rw [decDigits_ten h, List.all_append, ih (n / 10) (by omega)]
      rw [List.all_cons, ofDg (n % 10) (by omega)]; rfl
where ofDg (n : Nat) (h : n < 10) : isDg (UInt8.ofNat (48 + n)) = true := by
        unfold isDg
        rw [UInt8.toNat_ofNat']
        simp
        omega
theorem decVal_dec15 (n : Nat) : decVal (decDigits n) = n := by
  induction n using Nat.strongRecOn with
  | _ n ih =>
    by_cases h : n < 10
    · rw [decDigits_one h]
      show 0 * 10 + ((UInt8.ofNat (48 + n)).toNat - 48) = n
      rw [UInt8.toNat_ofNat']
      omega
    · rw [decDigits_ten h, decVal_snoc, ih (n / 10) (by omega), UInt8.toNat_ofNat']
      omega
theorem parseOf_dec15 (n : Nat) (h : n < 340282366920938463463374607431768211456) : parseOf (decDigits n) = some n := by
  unfold parseOf
  rw [if_pos ⟨dec_len39 n h, dec_all15 n, by rw [decVal_dec15]; exact h, by rw [decVal_dec15]⟩, decVal_dec15]
theorem back_kind15 (n : Bool) (h l x : Int) (h0 : 0 ≤ h) (l0 : 0 ≤ l) (e : jOk h l x = true) :
    sKind (jHigh n h l x) = 1 ∧ sNeg (jHigh n h l x) = n ∧ sHigh (jHigh n h l x) (jLow h l x) = h ∧ sLow (jHigh n h l x) (jLow h l x) = l ∧ sExp (jHigh n h l x) = x ∧ 0 ≤ jHigh n h l x ∧ jHigh n h l x ≤ 18446744073709551615 ∧ jLow h l x = l := by
  obtain ⟨b0, b1, b2⟩ := jOk_small h l x h0 l0 e
  have hlow : jLow h l x = l := by unfold jLow; rw [if_pos e]
  have hH : jHigh n h l x = (x + 6176) * 562949953421312 + h + (if n then 9223372036854775808 else 0) := by unfold jHigh; rw [if_pos e]
  have hsm : ¬ 10000000000000000000000000000000000 ≤ wV h l := by
    unfold jOk at e
    simp at e
    omega
  obtain ⟨s, hs, hs2⟩ : ∃ s : Int, (if n then (9223372036854775808 : Int) else 0) = s ∧ ((n = true ∧ s = 9223372036854775808) ∨ (n = false ∧ s = 0)) := by
    cases n
    · exact ⟨_, rfl, .inr ⟨rfl, rfl⟩⟩
    · exact ⟨_, rfl, .inl ⟨rfl, rfl⟩⟩
  rw [hs] at hH
  generalize jHigh n h l x = H at *
  have c1 : ¬ H / 288230376151711744 % 32 = 31 := by omega
  have c2 : ¬ H / 288230376151711744 % 32 = 30 := by omega
  have c3 : ¬ H / 2305843009213693952 % 4 = 3 := by omega
  have c4 : H % 562949953421312 = h := by omega
  have c5 : ¬ 30 ≤ H / 288230376151711744 % 32 := by omega
  rw [hlow]
  refine ⟨?_, ?_, ?_, ?_, ?_, by omega, by omega, rfl⟩
  · unfold sKind; rw [if_neg c1, if_neg c2]
  · unfold sNeg
    rcases hs2 with ⟨rfl, hs3⟩ | ⟨rfl, hs3⟩
    · exact beq_t (by omega)
    · exact beq_f (by omega)
  · unfold sHigh; rw [if_neg c3, c4, if_neg hsm]
  · unfold sLow; rw [if_neg c3, c4, if_neg hsm]
  · unfold sExp; rw [if_neg c5, if_neg c3]; omega
theorem back_plain15 (n : Bool) (h l x : Int) (h0 : 0 ≤ h) (l0 : 0 ≤ l) (e : jOk h l x = true) : pPlain (jHigh n h l x) (jLow h l x) = true := by
  obtain ⟨k1, k2, k3, k4, k5, _, _, k6⟩ := back_kind15 n h l x h0 l0 e
  unfold pPlain
  rw [k1, k2, k3, k4, k5, e]
  simp
end Go.Proofs.YtpgooajifehbbaaDoor
