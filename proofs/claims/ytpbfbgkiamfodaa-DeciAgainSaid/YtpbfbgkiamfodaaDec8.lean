/- The plain law of decimals: what is joined is told by its parts, and of what is finite the parts can be joined. No program. -/
import Derived.Test.YtpbfbgkiamfodaaDec5
namespace Go.Proofs.Ytpbfbgkiamfodaa
open Go.RowKit

def pPlain (a b : Int) : Bool :=
  if sKind a = 3 then decide (a = 8935141660703064064) && decide (b = 0)
  else if sKind a = 2 then decide (a % 9223372036854775808 = 8646911284551352320) && decide (b = 0)
  else jOk (sHigh a b) (sLow a b) (sExp a) && (decide (jHigh (sNeg a) (sHigh a b) (sLow a b) (sExp a) = a) && decide (jLow (sHigh a b) (sLow a b) (sExp a) = b))

theorem back_kind (n : Bool) (h l x : Int) (h0 : 0 ≤ h) (l0 : 0 ≤ l) (e : jOk h l x = true) :
    sKind (jHigh n h l x) = 1 ∧ sNeg (jHigh n h l x) = n ∧ sHigh (jHigh n h l x) (jLow h l x) = h ∧ sLow (jHigh n h l x) (jLow h l x) = l ∧ sExp (jHigh n h l x) = x ∧ 0 ≤ jHigh n h l x ∧ jHigh n h l x ≤ 18446744073709551615 ∧ jLow h l x = l := by
  obtain ⟨b0, b1, b2⟩ := jOk_small h l x h0 l0 e
  have hlow : jLow h l x = l := by unfold jLow; rw [if_pos e]
  have hH : jHigh n h l x = (x + 6176) * 562949953421312 + h + (if n then 9223372036854775808 else 0) := by unfold jHigh; rw [if_pos e]
  have hsm : ¬ 10000000000000000000000000000000000 ≤ wV h l := by
    unfold jOk at e
    simp at e
    omega
  obtain ⟨s, hs, hs2⟩ : ∃ s : Int, (if n then (9223372036854775808 : Int) else 0) = s ∧ ((n = true ∧ s = 9223372036854775808) ∨ (n = false ∧ s = 0)) := by
    cases n
    · exact ⟨_, rfl, .inr ⟨rfl, rfl⟩⟩
    · exact ⟨_, rfl, .inl ⟨rfl, rfl⟩⟩
  rw [hs] at hH
  generalize jHigh n h l x = H at *
  have c1 : ¬ H / 288230376151711744 % 32 = 31 := by omega
  have c2 : ¬ H / 288230376151711744 % 32 = 30 := by omega
  have c3 : ¬ H / 2305843009213693952 % 4 = 3 := by omega
  have c4 : H % 562949953421312 = h := by omega
  have c5 : ¬ 30 ≤ H / 288230376151711744 % 32 := by omega
  rw [hlow]
  refine ⟨?_, ?_, ?_, ?_, ?_, by omega, by omega, rfl⟩
  · unfold sKind; rw [if_neg c1, if_neg c2]
  · unfold sNeg
    rcases hs2 with ⟨rfl, hs3⟩ | ⟨rfl, hs3⟩
    · exact beq_t (by omega)
    · exact beq_f (by omega)
  · unfold sHigh; rw [if_neg c3, c4, if_neg hsm]
  · unfold sLow; rw [if_neg c3, c4, if_neg hsm]
  · unfold sExp; rw [if_neg c5, if_neg c3]; omega

theorem back_plain (n : Bool) (h l x : Int) (h0 : 0 ≤ h) (l0 : 0 ≤ l) (e : jOk h l x = true) : pPlain (jHigh n h l x) (jLow h l x) = true := by
  obtain ⟨k1, k2, k3, k4, k5, _, _, k6⟩ := back_kind n h l x h0 l0 e
  unfold pPlain
  rw [k1, k2, k3, k4, k5, e]
  simp

theorem split_bounds (a b : Int) (b0 : 0 ≤ b) (b1 : b ≤ 18446744073709551615) :
    0 ≤ sHigh a b ∧ sHigh a b ≤ 18446744073709551615 ∧ 0 ≤ sLow a b ∧ sLow a b ≤ 18446744073709551615 ∧ -9223372036854775808 ≤ sExp a ∧ sExp a ≤ 9223372036854775807 := by
  unfold sHigh sLow sExp
  refine ⟨?_, ?_, ?_, ?_, ?_, ?_⟩ <;> (repeat' split) <;> omega

theorem again_fin (a b : Int) (k : sKind a = 1) : jOk (sHigh a b) (sLow a b) (sExp a) = true := by
  have c : ¬ 30 ≤ a / 288230376151711744 % 32 := by
    unfold sKind at k
    split at k
    · omega
    · split at k <;> omega
  have hx : -6176 ≤ sExp a ∧ sExp a ≤ 6111 := by
    unfold sExp
    rw [if_neg c]
    split <;> omega
  have hc : wV (sHigh a b) (sLow a b) < 10000000000000000000000000000000000 := by
    unfold sHigh sLow
    split
    · decide
    · split
      · decide
      · omega
  unfold jOk
  simp
  omega

theorem again_not (a b : Int) (k : ¬ sKind a = 1) : sHigh a b = 0 ∧ sLow a b = 0 ∧ sExp a = 0 := by
  have c : 30 ≤ a / 288230376151711744 % 32 := by
    unfold sKind at k
    split at k
    · omega
    · split at k <;> omega
  have c3 : a / 2305843009213693952 % 4 = 3 := by omega
  unfold sHigh sLow sExp
  rw [if_pos c3, if_pos c3, if_pos c]
  exact ⟨rfl, rfl, rfl⟩

theorem plain_fin (a b : Int) (k : sKind a = 1) :
    pPlain a b = (decide (jHigh (sNeg a) (sHigh a b) (sLow a b) (sExp a) = a) && decide (jLow (sHigh a b) (sLow a b) (sExp a) = b)) := by
  unfold pPlain
  rw [again_fin a b k, k]
  simp
end Go.Proofs.Ytpbfbgkiamfodaa
