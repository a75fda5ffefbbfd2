/- Small aids of the walks: hiding, four results, bits of 64-bit numbers. No condition. -/
import Derived.WalkKit
import Derived.WalkSpells
import Derived.WalkLawsBesides
import Derived.Lib.Hide
import Derived.KernelRfl
import Derived.Deep.QuietTactic
import Derived.BigQuiet
import Derived.Handy
import Derived.Deep.RegionWith
import Derived.Deep.DeepFit
import Derived.Deep.RegionHeld3
import Derived.Deep.DeepCutAuto
import Derived.Deep.CutBlock
import Derived.Deep.LoopGhost
namespace Go.Proofs.YtogmmhacjndebaaDoor
open Go.RowKit
set_option linter.unusedSimpArgs false
set_option linter.unusedVariables false

/-- '&' of a u64 with 2^k - 1. -/
theorem and_mask (k : Nat) (hk : k < 64) (z : Int) (h0 : 0 ≤ z) (h1 : z < 18446744073709551616) (c : Int) (hc : c = 2 ^ k - 1) : bits .and .u64 z c = z % 2 ^ k := by
  subst hc
  obtain ⟨n, rfl⟩ := Int.eq_ofNat_of_zero_le h0
  have hp : (2 : Nat) ^ k ≤ 2 ^ 63 := Nat.pow_le_pow_right (by decide) (by omega)
  have hp0 : 0 < (2 : Nat) ^ k := Nat.two_pow_pos k
  have e : ((2 : Int) ^ k - 1) = ((2 ^ k - 1 : Nat) : Int) := by
    rw [Int.ofNat_sub hp0, Int.natCast_pow]; rfl
  rw [e, u64_and_nat n (2 ^ k - 1) (by omega) (by omega), Nat.and_two_pow_sub_one_eq_mod, Int.natCast_emod, Int.natCast_pow]; rfl
theorem beq_f {a b : Int} (h : ¬ a = b) : (a == b) = false := beq_eq_false_iff_ne.2 h
theorem bne_t {a b : Int} (h : ¬ a = b) : (a != b) = true := bne_iff_ne.2 h
theorem bne_f {a b : Int} (h : a = b) : (a != b) = false := by subst h; exact bne_self_eq_false' ..
end Go.Proofs.YtogmmhacjndebaaDoor
