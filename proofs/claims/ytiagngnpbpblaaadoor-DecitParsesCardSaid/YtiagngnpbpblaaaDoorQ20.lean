/- Plain laws for the reference's reading of a decimal's text. -/
import Derived.Test.YtiagngnpbpblaaaDoorQ18
import Derived.Test.YtiagngnpbpblaaaDoorQ10
namespace Go.Proofs.YtiagngnpbpblaaaDoor
open Go.Lib
set_option linter.unusedSimpArgs false
set_option linter.unusedVariables false

theorem litBeh_le (t : List UInt8) : litBeh t ≤ t.length := by
  have h1 : litBeh t ≤ (t.drop (runL t)).length := by
    unfold litBeh litB
    split
    · rw [List.length_take, List.length_tail]; omega
    · exact Nat.zero_le _
  rw [List.length_drop] at h1
  omega
theorem litCore_le (t : List UInt8) : (litCore t).length ≤ t.length := by
  have h1 : litCore t = litCore t := rfl
  unfold litCore
  rw [List.length_append, List.length_take]
  have h2 : (litB (t.drop (runL t))).length ≤ (t.drop (runL t)).length := by
    unfold litB
    split
    · rw [List.length_take, List.length_tail]; omega
    · exact Nat.zero_le _
  rw [List.length_drop] at h2
  omega
theorem num_lit (l : List UInt8) : numOk l = litOk (stripS l) := by
  unfold numOk
  exact (lit_num (stripS l)).1
/-- The decimal of a text, by the reference's reading. -/
theorem fin_lit {l : List UInt8} (hok : litOk (stripS l) = true) (hl : l.length ≤ 400) : finR (hdIs l 45 45) (qOf l) (dOf l) = finR (hdIs l 45 45) (litE (litT (stripS l)) - litBeh (stripS l)) (trimLeftB (litCore (stripS l)) 48) := by
  obtain ⟨h1, h2, h3, h4, h5⟩ := (lit_num (stripS l)).2 hok
  have hs := stripS_le l
  have hb := litBeh_le (stripS l)
  have hc := litCore_le (stripS l)
  have ht := trimL_le (litCore (stripS l)) 48
  unfold qOf dOf
  rw [h1, h2]
  exact fin_clamp h3 (by omega) _ _ (by omega)
theorem trimL_stop {l : List UInt8} (h : hdIs l 48 48 = false) : trimLeftB l 48 = l := by
  cases l with
  | nil => rfl
  | cons x l =>
    have hx : (x == 48) = false := by
      rw [beq_eq_false_iff_ne]
      rintro rfl
      have h2 : ((((48 : UInt8).toNat : Int)) == 48 || (((48 : UInt8).toNat : Int)) == 48) = false := h
      exact absurd h2 (by decide)
    unfold trimLeftB
    rw [List.dropWhile_cons, hx]; rfl
theorem trimR_stop {y : List UInt8} (z : Nat) (h : y = [] ∨ ∃ a c, y = a ++ [c] ∧ c ≠ 48) : trimRightB (y ++ List.replicate z 48) 48 = y := by
  unfold trimRightB
  rw [List.reverse_append, List.reverse_replicate]
  have e : ∀ (z : Nat) (m : List UInt8), (List.replicate z (48 : UInt8) ++ m).dropWhile (· == 48) = m.dropWhile (· == 48) := fun z m => by
    induction z with
    | zero => rfl
    | succ n ih => rw [List.replicate_succ, List.cons_append, List.dropWhile_cons]; exact ih
  rw [e]
  rcases h with rfl | ⟨a, c, rfl, hc⟩
  · rfl
  · rw [List.reverse_append]
    have hx : (c == 48) = false := beq_eq_false_iff_ne.2 hc
    show (List.dropWhile (· == 48) (c :: a.reverse)).reverse = _
    rw [List.dropWhile_cons, hx]
    simp
theorem coef_some {D core : List UInt8} (hD : D.all isDg = true) (hc : trimRightB (trimLeftB D 48) 48 = core) (h0 : core ≠ []) {z : Nat} (hl : core.length + z ≤ 34) : ∃ v : Nat, parseOf (core ++ List.replicate z 48) = some v ∧ v < 10000000000000000000000000000000000 := by
  obtain ⟨k, hk⟩ := trimR_split (trimLeftB D 48)
  rw [hc] at hk
  have hLD : (trimLeftB D 48).all isDg = true := by
    rw [List.all_eq_true] at hD ⊢
    exact fun x hx => hD x ((List.dropWhile_sublist _).subset hx)
  have hcD : core.all isDg = true := by
    rw [hk, List.all_append, Bool.and_eq_true] at hLD
    exact hLD.1
  have hhd : core.head? ≠ some 48 := by
    intro he
    have h2 : (trimLeftB D 48).head? = some 48 := by
      rw [hk]
      cases core with
      | nil => exact absurd rfl h0
      | cons x r => exact he
    unfold trimLeftB at h2
    have h3 := List.head?_dropWhile_not (fun x => x == (48 : UInt8)) D
    rw [h2] at h3
    simp at h3
  obtain ⟨x, r, rfl⟩ : ∃ x r, core = x :: r := by
    cases core with
    | nil => exact absurd rfl h0
    | cons x r => exact ⟨x, r, rfl⟩
  have hall : ((x :: r) ++ List.replicate z 48).all isDg = true := by
    rw [List.all_append, hcD, Bool.true_and, List.all_eq_true]
    intro y hy
    rw [List.eq_of_mem_replicate hy]; decide
  have hlen : ((x :: r) ++ List.replicate z 48).length ≤ 34 := by rw [List.length_append, List.length_replicate]; exact hl
  have hlt := decVal_lt _ _ rfl hall
  have h34 : (10 : Nat) ^ ((x :: r) ++ List.replicate z 48).length ≤ 10 ^ 34 := Nat.pow_le_pow_right (by decide) hlen
  have h3 : (10 : Nat) ^ 34 = 10000000000000000000000000000000000 := by decide
  rw [h3] at h34
  have hcan : decDigits (decVal ((x :: r) ++ List.replicate z 48)) = (x :: r) ++ List.replicate z 48 :=
    canon (r ++ List.replicate z 48).length _ (by rw [List.cons_append, List.length_cons]) hall (Or.inr (by
      rw [List.cons_append]
      exact hhd))
  exact ⟨_, parseOf_some (by omega) hall (by omega) hcan, by omega⟩
end Go.Proofs.YtiagngnpbpblaaaDoor
