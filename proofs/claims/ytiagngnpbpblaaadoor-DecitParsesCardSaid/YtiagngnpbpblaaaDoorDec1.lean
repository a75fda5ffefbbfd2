/- Contracts of decimals: ten34 and Join, the program's and the reference's. No condition. -/
import Derived.Test.YtiagngnpbpblaaaDoorRParse
namespace Go.Proofs.YtiagngnpbpblaaaDoor
open Go.RowKit
set_option linter.unusedSimpArgs false
set_option linter.unusedVariables false

theorem dec_pow (k : Nat) : Lib.decDigits (10 ^ k) = 49 :: List.replicate k 48 := by
  induction k with
  | zero => exact Lib.decDigits_one (by decide)
  | succ k ih =>
    have h1 : ¬ 10 ^ (k + 1) < 10 := by
      have : 0 < 10 ^ k := Nat.pow_pos (by decide)
      rw [Nat.pow_succ]; omega
    rw [dec_big h1]
    have h2 : 10 ^ (k + 1) / 10 = 10 ^ k := by rw [Nat.pow_succ]; exact Nat.mul_div_cancel _ (by decide)
    have h3 : 10 ^ (k + 1) % 10 = 0 := by rw [Nat.pow_succ]; exact Nat.mul_mod_left _ _
    rw [h2, h3, ih]
    show (49 :: List.replicate k 48) ++ [48] = _
    rw [List.cons_append, ← List.replicate_succ']
theorem ten_parse : parseOf (⟨#[49, 48, 48, 48, 48, 48, 48, 48, 48, 48, 48, 48, 48, 48, 48, 48, 48, 48, 48, 48, 48, 48, 48, 48, 48, 48, 48, 48, 48, 48, 48, 48, 48, 48, 48]⟩ : ByteArray).data.toList = some 10000000000000000000000000000000000 := by
  have hv : decVal [49, 48, 48, 48, 48, 48, 48, 48, 48, 48, 48, 48, 48, 48, 48, 48, 48, 48, 48, 48, 48, 48, 48, 48, 48, 48, 48, 48, 48, 48, 48, 48, 48, 48, 48] = 10000000000000000000000000000000000 := by decide
  have h := parseOf_some (l := [49, 48, 48, 48, 48, 48, 48, 48, 48, 48, 48, 48, 48, 48, 48, 48, 48, 48, 48, 48, 48, 48, 48, 48, 48, 48, 48, 48, 48, 48, 48, 48, 48, 48, 48]) (by decide) (by decide) (by rw [hv]; decide) (by rw [hv]; exact dec_pow 34)
  rw [hv] at h
  exact h

theorem refParse_ten (w : World) :
    Calls Tryd.prog 15 #[.string ⟨#[49, 48, 48, 48, 48, 48, 48, 48, 48, 48, 48, 48, 48, 48, 48, 48, 48, 48, 48, 48, 48, 48, 48, 48, 48, 48, 48, 48, 48, 48, 48, 48, 48, 48, 48]⟩] w fun e w' =>
      e = .returned (.tuple #[.agg #[.int .u64 542101086242752, .int .u64 4003012203950112768], .bool true]) ∧ Below w.heap.size w w' := by
  have h := refParse_any ⟨#[49, 48, 48, 48, 48, 48, 48, 48, 48, 48, 48, 48, 48, 48, 48, 48, 48, 48, 48, 48, 48, 48, 48, 48, 48, 48, 48, 48, 48, 48, 48, 48, 48, 48, 48]⟩ (by decide) w
  rw [ten_parse] at h
  have e1 : pV (some 10000000000000000000000000000000000) / 18446744073709551616 = 542101086242752 := by decide
  have e2 : pV (some 10000000000000000000000000000000000) % 18446744073709551616 = 4003012203950112768 := by decide
  rw [e1, e2] at h
  exact h

set_option maxRecDepth 100000 in
set_option maxHeartbeats 400000 in
theorem refTen34_any (w : World) :
    Calls Tryd.prog 47 #[] w fun e w' => e = .returned (.agg #[.int .u64 542101086242752, .int .u64 4003012203950112768]) ∧ Below w.heap.size w w' := by
  go_enter Tryd.func47, Tryd.ntmps47
  go_wp2_with fail
  with_reducible refine (refParse_ten _).mono ?_
  rintro e w' ⟨rfl, hb⟩
  obtain ⟨c0, c1, f0, f1, hz, hb1⟩ := kept2 hb
  clear hb
  go_wp2_with fail
  refine bodyPost_ret (v := .agg #[.int .u64 542101086242752, .int .u64 4003012203950112768]) (by simp (maxDischargeDepth := 3) [results, Tryd.results47, go_sem, c0, c1, hz]) rfl ?_
  exact ⟨rfl, by repeat' (first | (with_reducible assumption) | (with_reducible exact Below.refl _ _) | (with_reducible refine below_drewN ?_ _) | (with_reducible refine Below.drew ?_) | (with_reducible refine Below.setCell ?_ ?_ _) | (with_reducible refine Below.alloc ?_ ?_ _) | omega | (simp; done) | (simp; omega))⟩

/-- A number of 128 bits against 10^34, as Cmp tells it. -/
theorem cmp_ten (h l : Int) (h0 : 0 ≤ h) (l0 : 0 ≤ l) (l1 : l ≤ 18446744073709551615) : 0 ≤ wCmp h l 542101086242752 4003012203950112768 ↔ 10000000000000000000000000000000000 ≤ wV h l := by
  unfold wCmp wV
  (repeat' split) <;> omega

theorem keep4 {w W w2 : World} {a b : Value} (hb2 : Below W.heap.size W w2) (h0 : W.cell? ⟨w.heap.size, 0, none⟩ = some a) (h1 : W.cell? ⟨w.heap.size, 1, none⟩ = some b) (hl : w.heap.size < W.heap.size) (hB : Below w.heap.size w W) :
    w2.cell? ⟨w.heap.size, 0, none⟩ = some a ∧ w2.cell? ⟨w.heap.size, 1, none⟩ = some b ∧ w.heap.size < w2.heap.size ∧ Below w.heap.size w w2 :=
  ⟨(hb2.cell (p := ⟨w.heap.size, 0, none⟩) hl).trans h0, (hb2.cell (p := ⟨w.heap.size, 1, none⟩) hl).trans h1, Nat.lt_of_lt_of_le hl hb2.size, hB.trans (hb2.mono (Nat.le_of_lt hl))⟩
def jOk (h l x : Int) : Bool := decide (wV h l < 10000000000000000000000000000000000) && decide (-6176 ≤ x) && decide (x ≤ 6111)
def jHigh (n : Bool) (h l x : Int) : Int := if jOk h l x then (x + 6176) * 562949953421312 + h + (if n then 9223372036854775808 else 0) else 0
def jLow (h l x : Int) : Int := if jOk h l x then l else 0
theorem ret_j {a b c d : Int} {p q : Bool} (h1 : a = c) (h2 : b = d) (h3 : p = q) : Ending.returned (.tuple #[.int .u64 a, .int .u64 b, .bool p]) = .returned (.tuple #[.int .u64 c, .int .u64 d, .bool q]) := by rw [h1, h2, h3]
theorem jOk_false (h l x : Int) (hb : 10000000000000000000000000000000000 ≤ wV h l ∨ x < -6176 ∨ 6111 < x) : jOk h l x = false := by
  unfold jOk
  rw [Bool.and_eq_false_iff, Bool.and_eq_false_iff, decide_eq_false_iff_not, decide_eq_false_iff_not, decide_eq_false_iff_not]
  omega
theorem jOk_true (h l x : Int) (h1 : ¬ 10000000000000000000000000000000000 ≤ wV h l) (h2 : ¬ x < -6176) (h3 : ¬ 6111 < x) : jOk h l x = true := by
  unfold jOk
  simp
  omega

end Go.Proofs.YtiagngnpbpblaaaDoor
