/- Law 8: WaveFold. No condition. -/
import Derived.Test.YtogmmhacjndebaaDoorWv8
import Derived.Test.YtogmmhacjndebaaDoorPol
import Derived.Test.YtogmmhacjndebaaDoorBack
import Derived.BigRegion
namespace Go.Proofs.YtogmmhacjndebaaDoor
open Go.RowKit
set_option linter.unusedSimpArgs false
set_option linter.unusedVariables false
attribute [local irreducible] Fl.K
theorem wJ_bound (F G a : Nat → Int) (hF : ∀ u, 0 ≤ F u ∧ F u ≤ 65535) (hG : ∀ u, 0 ≤ G u ∧ G u ≤ 65535) (u t : Nat) (B : Int) (h : 0 ≤ a t ∧ a t ≤ B) : ∀ v : Nat, 0 ≤ wJ F G a u v t ∧ wJ F G a u v t ≤ B + v * 4294836225 := by
  intro v
  induction v with
  | zero => rw [wJ]; omega
  | succ v ih =>
    rw [wJ, addAt_eq]
    have h1 := hF u
    have h2 := hG v
    have h3 : 0 ≤ F u * G v := Int.mul_nonneg h1.1 h2.1
    have h4 : F u * G v ≤ 65535 * 65535 := Int.mul_le_mul h1.2 h2.2 h2.1 (by decide)
    split <;> omega
theorem wI_bound (F G : Nat → Int) (hF : ∀ u, 0 ≤ F u ∧ F u ≤ 65535) (hG : ∀ u, 0 ≤ G u ∧ G u ≤ 65535) (m : Nat) (hm : m ≤ 256) (t : Nat) : ∀ u : Nat, 0 ≤ wI F G m u t ∧ wI F G m u t ≤ u * 1099478073600 := by
  intro u
  induction u with
  | zero => simp [wI]
  | succ u ih =>
    rw [wI]
    have := wJ_bound F G (wI F G m u) hF hG u t _ ih m
    omega
end Go.Proofs.YtogmmhacjndebaaDoor
