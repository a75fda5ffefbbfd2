/- Plain laws of JSON's numbers as texts: what follows a number's text. No program. -/
import Derived.Test.YthaphecoalepgaaDoorLex
import Derived.Test.YthaphecoalepgaaDoorNum
namespace Go.Proofs.YthaphecoalepgaaDoor
open Go.Lib
set_option linter.unusedSimpArgs false
set_option linter.unusedVariables false

theorem hdIs_cons (x : UInt8) (l : List UInt8) (c d : Int) : hdIs (x :: l) c d = ((x.toNat : Int) == c || (x.toNat : Int) == d) := rfl
theorem dec_isD (n : Nat) : (decDigits n).all isD = true := by
  induction n using Nat.strongRecOn with
  | _ n ih =>
    by_cases h : n < 10
    · rw [decDigits_one h, List.all_cons, dg n h]; rfl
    · rw [decDigits_ten h, List.all_append, ih (n / 10) (by omega), List.all_cons, dg (n % 10) (by omega)]; rfl
where dg (n : Nat) (h : n < 10) : isD (UInt8.ofNat (48 + n)) = true := by
        unfold isD
        rw [UInt8.toNat_ofNat']
        simp
        omega
theorem dec_hd (n : Nat) : (decDigits n).length = 1 ∨ hdIs (decDigits n) 48 48 = false := by
  rcases Nat.eq_zero_or_pos n with rfl | h
  · exact Or.inl (by rw [decDigits_one (by decide)]; rfl)
  · obtain ⟨c, m, e, hc⟩ := decDigits_head n h
    refine Or.inr ?_
    rw [e, hdIs_cons, Bool.or_self, beq_eq_false_iff_ne]
    intro hx
    apply hc
    apply UInt8.toNat_inj.1
    have : (48 : UInt8).toNat = 48 := rfl
    omega
end Go.Proofs.YthaphecoalepgaaDoor
