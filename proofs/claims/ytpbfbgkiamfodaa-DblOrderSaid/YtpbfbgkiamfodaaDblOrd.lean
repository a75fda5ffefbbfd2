/- The walk of DblOrder: of three patterns what is below what is below is below. No condition. -/
import Derived.Test.YtpbfbgkiamfodaaDblCmp2
namespace Go.Proofs.Ytpbfbgkiamfodaa
open Go.RowKit

theorem cmpI_three (x y : Int) : (x < y ∧ cmpI x y = -1) ∨ (x = y ∧ cmpI x y = 0) ∨ (y < x ∧ cmpI x y = 1) := by
  unfold cmpI
  (repeat' split) <;> omega

/-- What the three comparisons tell, together. -/
theorem ord_facts (a b c : Int) (h1 : dOk a b = true) (h2 : dOk b c = true) :
    dOk a c = true ∧ ((dCmp a b = -1 ∧ dCmp b c = -1 ∧ dCmp a c = -1) ∨ (dCmp a b = -1 ∧ dCmp b c = 0 ∧ dCmp a c = -1) ∨ (dCmp a b = -1 ∧ dCmp b c = 1) ∨
      (dCmp a b = 0 ∧ dCmp b c = -1 ∧ dCmp a c = -1) ∨ (dCmp a b = 0 ∧ dCmp b c = 0 ∧ dCmp a c = 0) ∨ (dCmp a b = 0 ∧ dCmp b c = 1) ∨ dCmp a b = 1) := by
  have h3 : dOk a c = true := by
    unfold dOk at *
    simp only [Bool.and_eq_true] at *
    exact ⟨h1.1, h2.2⟩
  refine ⟨h3, ?_⟩
  unfold dCmp
  rw [h1, h2, h3]
  simp only [if_true]
  rcases cmpI_three (dOrd a) (dOrd b) with ⟨p, e⟩ | ⟨p, e⟩ | ⟨p, e⟩ <;> rcases cmpI_three (dOrd b) (dOrd c) with ⟨q, f⟩ | ⟨q, f⟩ | ⟨q, f⟩ <;> rcases cmpI_three (dOrd a) (dOrd c) with ⟨r, g⟩ | ⟨r, g⟩ | ⟨r, g⟩ <;> rw [e, f, g] <;> omega

/-- Of patterns without a sign: they stand as numbers. -/
theorem ord_last (a b : Int) (h : dOk a b = true) : (9223372036854775808 ≤ a) ∨ (9223372036854775808 ≤ b) ∨ (dCmp a b < 0 ↔ a < b) := by
  by_cases ha : 9223372036854775808 ≤ a
  · exact .inl ha
  by_cases hb : 9223372036854775808 ≤ b
  · exact .inr (.inl hb)
  refine .inr (.inr ?_)
  unfold dCmp
  rw [if_pos h]
  unfold dOrd
  rw [if_neg ha, if_neg hb]
  unfold cmpI
  (repeat' split) <;> omega

set_option maxHeartbeats 4000000 in
theorem dblOrder_walk (a b c : Int) (ha0 : 0 ≤ a) (ha1 : a ≤ 18446744073709551615) (hb0 : 0 ≤ b) (hb1 : b ≤ 18446744073709551615) (hc0 : 0 ≤ c) (hc1 : c ≤ 18446744073709551615) (w : World) :
    Calls Try.prog 5 #[.int .u64 a, .int .u64 b, .int .u64 c] w fun e w' => e = .returned (.bool true) ∧ w = w' := by
  go_enter Try.func5, Try.ntmps5
  go_wp2_with fail
  refine (awake11 _).mono ?_
  rintro e w' ⟨rfl, rfl⟩
  go_wp2_with fail
  refine (dblCmp_any a b ha0 ha1 hb0 hb1 _).mono ?_
  rintro e w' ⟨rfl, rfl⟩
  go_wp2_with fail
  refine (dblCmp_any b c hb0 hb1 hc0 hc1 _).mono ?_
  rintro e w' ⟨rfl, rfl⟩
  go_wp2_with fail
  refine (dblCmp_any a c ha0 ha1 hc0 hc1 _).mono ?_
  rintro e w' ⟨rfl, rfl⟩
  have hf := fun h1 h2 => ord_facts a b c h1 h2
  have hl := fun h1 => ord_last a b h1
  generalize dOk a b = ok at *
  generalize dOk b c = is at *
  generalize dOk a c = on at *
  generalize dCmp a b = x at *
  generalize dCmp b c = y at *
  generalize dCmp a c = z at *
  cases ok
  · clear hf hl
    go_wp2_with fail
    go_ret
    exact ⟨by simp, rfl⟩
  · have hl2 := hl rfl
    have hx : (x < 0 ∧ a < b) ∨ (¬ x < 0 ∧ ¬ a < b) ∨ 9223372036854775808 ≤ a ∨ (¬ 9223372036854775808 ≤ a ∧ 9223372036854775808 ≤ b) := by omega
    clear hl hl2
    cases is
    · clear hf
      rcases hx with ⟨u, v⟩ | ⟨u, v⟩ | u | ⟨u, v⟩ <;> go_wp2_with fail
      all_goals go_ret
      all_goals exact ⟨by simp <;> omega, rfl⟩
    · obtain ⟨rfl, hf2⟩ := hf rfl rfl
      clear hf
      rcases hf2 with ⟨rfl, rfl, rfl⟩ | ⟨rfl, rfl, rfl⟩ | ⟨rfl, rfl⟩ | ⟨rfl, rfl, rfl⟩ | ⟨rfl, rfl, rfl⟩ | ⟨rfl, rfl⟩ | rfl <;> rcases hx with ⟨u, v⟩ | ⟨u, v⟩ | u | ⟨u, v⟩
      all_goals first | (exfalso; omega) | skip
      all_goals go_wp2_with fail
      all_goals go_ret
      all_goals exact ⟨by simp <;> omega, rfl⟩
end Go.Proofs.Ytpbfbgkiamfodaa
