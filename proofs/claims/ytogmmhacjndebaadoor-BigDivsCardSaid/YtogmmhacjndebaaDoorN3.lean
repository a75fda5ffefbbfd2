/- Plain laws: the product of two rows of digits as Fold adds it up, and what carrying makes of it. No program. -/
import Derived.Test.YtogmmhacjndebaaDoorN1
import Derived.Test.YtogmmhacjndebaaDoorFo2
namespace Go.Proofs.YtogmmhacjndebaaDoor
open Go.RowKit
set_option linter.unusedSimpArgs false
set_option linter.unusedVariables false
def gi (l : List Nat) (i : Nat) : Int := ((l.getD i 0 : Nat) : Int)
theorem gi_bd {l : List Nat} (h : DigL l) (i : Nat) : 0 ≤ gi l i ∧ gi l i ≤ 65535 := by have := h.getD i; unfold gi; omega
theorem gi_zero {l : List Nat} {i : Nat} : gi l i = 0 ↔ l.getD i 0 = 0 := by unfold gi; omega
theorem gi_take {l : List Nat} {k i : Nat} (h : i < k) : gi (l.take k) i = gi l i := by
  unfold gi
  rw [List.getD_eq_getElem?_getD, List.getD_eq_getElem?_getD, List.getElem?_take_of_lt h]
/-- The value of the first N numbers. -/
def PV (h : Nat → Int) : Nat → Int
  | 0 => 0
  | n + 1 => PV h n + 65536 ^ n * h n
theorem PV_congr {f g : Nat → Int} : ∀ {n : Nat}, (∀ i, i < n → f i = g i) → PV f n = PV g n
  | 0, _ => rfl
  | n + 1, h => by rw [PV, PV, PV_congr (fun i hi => h i (by omega)), h n (by omega)]
theorem PV_gi (l : List Nat) : ∀ k, k ≤ l.length → PV (gi l) k = ((valL (l.take k) : Nat) : Int)
  | 0, _ => rfl
  | k + 1, h => by
    rw [PV, PV_gi l k (by omega), val_take_succ l k (by omega), Int.natCast_add, Int.natCast_mul, Int.natCast_pow]
    rfl
theorem PV_all (l : List Nat) : PV (gi l) l.length = ((valL l : Nat) : Int) := by
  rw [PV_gi l _ (Nat.le_refl _), List.take_length]
theorem PV_zero : ∀ n, PV (fun _ => 0) n = 0
  | 0 => rfl
  | n + 1 => by rw [PV, PV_zero n]; simp
theorem PV_addAt (a : Nat → Int) (p : Nat) (c : Int) : ∀ n, PV (addAt a p c) n = PV a n + if p < n then 65536 ^ p * c else 0
  | 0 => by simp [PV]
  | n + 1 => by
    rw [PV, PV, PV_addAt a p c n, addAt_eq]
    by_cases h : n = p
    · subst h
      rw [if_pos rfl, if_neg (by omega), if_pos (by omega), Int.mul_add]
      omega
    · rw [if_neg h, Int.add_zero]
      by_cases h2 : p < n
      · rw [if_pos h2, if_pos (by omega)]; omega
      · rw [if_neg h2, if_neg (by omega)]; omega
theorem PV_wJ (f g a : Nat → Int) (u N : Nat) : ∀ v, u + v ≤ N → PV (wJ f g a u v) N = PV a N + 65536 ^ u * f u * PV g v
  | 0, _ => by rw [wJ, PV]; simp
  | v + 1, h => by
    rw [wJ, PV_addAt, PV_wJ f g a u N v (by omega), if_pos (by omega), PV, Int.pow_add]
    rw [Int.mul_add, show (65536 : Int) ^ u * 65536 ^ v * (f u * g v) = 65536 ^ u * f u * (65536 ^ v * g v) by
      rw [Int.mul_assoc, Int.mul_assoc, ← Int.mul_assoc (65536 ^ v) (f u) (g v), Int.mul_comm (65536 ^ v) (f u), Int.mul_assoc (f u)]]
    omega
theorem PV_wI (f g : Nat → Int) (m N : Nat) (hm : 1 ≤ m) : ∀ u, u + m ≤ N + 1 → PV (wI f g m u) N = PV f u * PV g m
  | 0, _ => by rw [wI, PV_zero, PV]; simp
  | u + 1, h => by
    rw [wI, PV_wJ f g _ u N m (by omega), PV_wI f g m N hm u (by omega), PV, Int.add_mul]
/-- The product, place by place, as a value. -/
theorem PV_prod (a b : List Nat) (ha : 1 ≤ a.length) (hb : 1 ≤ b.length) : PV (wI (fz (gi a) a.length) (fz (gi b) b.length) b.length a.length) (a.length + b.length - 1) = ((valL a * valL b : Nat) : Int) := by
  rw [PV_wI _ _ _ _ hb _ (by omega), PV_congr (g := gi a) (fun i hi => by unfold fz; rw [if_pos hi]), PV_congr (f := fz (gi b) b.length) (g := gi b) (fun i hi => by unfold fz; rw [if_pos hi]), PV_all, PV_all, Int.natCast_mul]
/-- Digits told, and what is carried: together the value so far. -/
def Car (h : Nat → Int) (k : Nat) (p : List Nat) (c : Int) : Prop := p.length = k ∧ DigL p ∧ 0 ≤ c ∧ PV h k = ((valL p : Nat) : Int) + 65536 ^ k * c
theorem Car.start (h : Nat → Int) : Car h 0 [] 0 := ⟨rfl, DigL.nil, Int.le_refl _, by simp [PV, valL]⟩
theorem Car.step {h : Nat → Int} {k : Nat} {p : List Nat} {c : Int} (H : Car h k p c) (hk : 0 ≤ h k) : Car h (k + 1) (p ++ [((c + h k) % 65536).toNat]) ((c + h k) / 65536) := by
  obtain ⟨h1, h2, h3, h4⟩ := H
  refine ⟨by simp [h1], h2.app (DigL.nil.cons (by omega)), by omega, ?_⟩
  rw [PV, h4, val_snoc, h1, Int.natCast_add, Int.natCast_mul, Int.natCast_pow, Int.toNat_of_nonneg (by omega), Int.pow_succ, Int.mul_assoc]
  have e : c + h k = 65536 * ((c + h k) / 65536) + (c + h k) % 65536 := by omega
  have e2 : (65536 : Int) ^ k * (c + h k) = 65536 ^ k * (65536 * ((c + h k) / 65536)) + 65536 ^ k * ((c + h k) % 65536) := by rw [← Int.mul_add, ← e]
  rw [Int.mul_add] at e2
  have e3 : ((65536 : Nat) : Int) = 65536 := rfl
  rw [e3]
  omega
/-- The rest of what is carried. -/
def Cad (V : Nat) (p : List Nat) (c : Int) : Prop := DigL p ∧ 0 ≤ c ∧ (V : Int) = ((valL p : Nat) : Int) + 65536 ^ p.length * c
theorem Car.end {h : Nat → Int} {k V : Nat} {p : List Nat} {c : Int} (H : Car h k p c) (e : PV h k = (V : Int)) : Cad V p c := by
  obtain ⟨h1, h2, h3, h4⟩ := H
  exact ⟨h2, h3, by rw [← e, h4, h1]⟩
theorem Cad.step {V : Nat} {p : List Nat} {c : Int} (H : Cad V p c) : Cad V (p ++ [(c % 65536).toNat]) (c / 65536) := by
  obtain ⟨h2, h3, h4⟩ := H
  refine ⟨h2.app (DigL.nil.cons (by omega)), by omega, ?_⟩
  rw [h4, val_snoc, List.length_append, List.length_singleton, Int.natCast_add, Int.natCast_mul, Int.natCast_pow, Int.toNat_of_nonneg (by omega), Int.pow_succ, Int.mul_assoc]
  have e : c = 65536 * (c / 65536) + c % 65536 := by omega
  have e2 : (65536 : Int) ^ p.length * c = 65536 ^ p.length * (65536 * (c / 65536)) + 65536 ^ p.length * (c % 65536) := by rw [← Int.mul_add, ← e]
  have e3 : ((65536 : Nat) : Int) = 65536 := rfl
  rw [e3]
  omega
theorem Cad.done {V : Nat} {p : List Nat} (H : Cad V p 0) : DigL p ∧ valL p = V := by
  obtain ⟨h2, _, h4⟩ := H
  rw [Int.mul_zero, Int.add_zero] at h4
  exact ⟨h2, by omega⟩
end Go.Proofs.YtogmmhacjndebaaDoor
