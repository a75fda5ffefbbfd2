/- Small aids of the walks: hiding, four results, bits of 64-bit numbers. No condition. -/
import Derived.WalkKit
import Derived.WalkSpells
import Derived.WalkLawsBesides
import Derived.Lib.Hide
import Derived.KernelRfl
import Derived.Deep.QuietTactic
import Derived.BigQuiet
import Derived.Handy
import Derived.Deep.RegionWith
import Derived.Deep.DeepFit
import Derived.Deep.RegionHeld3
import Derived.Deep.DeepCutAuto
import Derived.Deep.CutBlock
import Derived.Deep.LoopGhost
namespace Go.Proofs.YtiagngnpbpblaaaDoor
open Go.RowKit
set_option linter.unusedSimpArgs false
set_option linter.unusedVariables false

theorem hide {p : Prop} (h : p) : Hid p := h
theorem unhide {p : Prop} (h : Hid p) : p := h
/-- '&' of a u64 with 2^k - 1. -/
theorem and_mask (k : Nat) (hk : k < 64) (z : Int) (h0 : 0 ≤ z) (h1 : z < 18446744073709551616) (c : Int) (hc : c = 2 ^ k - 1) : bits .and .u64 z c = z % 2 ^ k := by
  subst hc
  obtain ⟨n, rfl⟩ := Int.eq_ofNat_of_zero_le h0
  have hp : (2 : Nat) ^ k ≤ 2 ^ 63 := Nat.pow_le_pow_right (by decide) (by omega)
  have hp0 : 0 < (2 : Nat) ^ k := Nat.two_pow_pos k
  have e : ((2 : Int) ^ k - 1) = ((2 ^ k - 1 : Nat) : Int) := by
    rw [Int.ofNat_sub hp0, Int.natCast_pow]; rfl
  rw [e, u64_and_nat n (2 ^ k - 1) (by omega) (by omega), Nat.and_two_pow_sub_one_eq_mod, Int.natCast_emod, Int.natCast_pow]; rfl
/-- '|' of two u64 whose bits do not meet is their sum. -/
theorem or_join (k : Nat) (x y : Int) (hx0 : 0 ≤ x) (hx : x % 2 ^ k = 0) (hy0 : 0 ≤ y) (hy : y < 2 ^ k) (hx1 : x < 18446744073709551616) (hy1 : y < 18446744073709551616) : bits .or .u64 x y = x + y := by
  obtain ⟨m, rfl⟩ := Int.eq_ofNat_of_zero_le hx0
  obtain ⟨n, rfl⟩ := Int.eq_ofNat_of_zero_le hy0
  have e : ((2 : Int) ^ k) = ((2 ^ k : Nat) : Int) := by rw [Int.natCast_pow]; rfl
  rw [e] at hx hy
  rw [u64_or_nat m n (by omega) (by omega), nat_join k m n (by omega) (by omega), Int.natCast_add]
theorem or_join' (k : Nat) (x y : Int) (hx0 : 0 ≤ x) (hx : x % 2 ^ k = 0) (hy0 : 0 ≤ y) (hy : y < 2 ^ k) (hx1 : x < 18446744073709551616) (hy1 : y < 18446744073709551616) : bits .or .u64 y x = y + x := by
  obtain ⟨m, rfl⟩ := Int.eq_ofNat_of_zero_le hx0
  obtain ⟨n, rfl⟩ := Int.eq_ofNat_of_zero_le hy0
  have e : ((2 : Int) ^ k) = ((2 ^ k : Nat) : Int) := by rw [Int.natCast_pow]; rfl
  rw [e] at hx hy
  rw [u64_or_nat n m (by omega) (by omega), Nat.or_comm, nat_join k m n (by omega) (by omega), Int.natCast_add, Int.add_comm]
theorem beq_t {a b : Int} (h : a = b) : (a == b) = true := beq_iff_eq.2 h
theorem beq_f {a b : Int} (h : ¬ a = b) : (a == b) = false := beq_eq_false_iff_ne.2 h
theorem bne_t {a b : Int} (h : ¬ a = b) : (a != b) = true := bne_iff_ne.2 h
theorem bne_f {a b : Int} (h : a = b) : (a != b) = false := by subst h; exact bne_self_eq_false' ..
/-- Behind a call that left all that was there as it was: the block of two cells laid just ahead of it. -/
theorem kept2 {w w' : World} {a b : Value} {T : TypeId} (hb : Below (w.alloc (.cells #[a, b] T)).heap.size (w.alloc (.cells #[a, b] T)) w') :
    w'.cell? ⟨w.heap.size, 0, none⟩ = some a ∧ w'.cell? ⟨w.heap.size, 1, none⟩ = some b ∧ w'.frozen? ⟨w.heap.size, 0, none⟩ = false ∧ w'.frozen? ⟨w.heap.size, 1, none⟩ = false ∧ w.heap.size < w'.heap.size ∧ Below w.heap.size w w' := by
  refine ⟨(hb.cell (p := ⟨w.heap.size, 0, none⟩) (by simp)).trans (by simp [go_sem]), (hb.cell (p := ⟨w.heap.size, 1, none⟩) (by simp)).trans (by simp [go_sem]),
    (hb.frozen (p := ⟨w.heap.size, 0, none⟩) (by simp)).trans (by simp [go_sem]), (hb.frozen (p := ⟨w.heap.size, 1, none⟩) (by simp)).trans (by simp [go_sem]), ?_, ?_⟩
  · have := hb.size; simp at this; omega
  · exact ((Below.refl _ _).alloc (Nat.le_refl _) _).trans (hb.mono (by simp))
/-- The same behind two blocks of two cells: the elder one is read, the younger one is written. -/
theorem kept22 {w w' : World} {a b c d : Value} {T U : TypeId} (hb : Below ((w.alloc (.cells #[a, b] T)).alloc (.cells #[c, d] U)).heap.size ((w.alloc (.cells #[a, b] T)).alloc (.cells #[c, d] U)) w') :
    w'.cell? ⟨w.heap.size, 0, none⟩ = some a ∧ w'.cell? ⟨w.heap.size, 1, none⟩ = some b ∧ w'.cell? ⟨w.heap.size + 1, 0, none⟩ = some c ∧ w'.cell? ⟨w.heap.size + 1, 1, none⟩ = some d ∧
    w'.frozen? ⟨w.heap.size + 1, 0, none⟩ = false ∧ w'.frozen? ⟨w.heap.size + 1, 1, none⟩ = false ∧ w.heap.size + 1 < w'.heap.size ∧ Below w.heap.size w w' := by
  refine ⟨(hb.cell (p := ⟨w.heap.size, 0, none⟩) (by simp; omega)).trans (by simp [go_sem]), (hb.cell (p := ⟨w.heap.size, 1, none⟩) (by simp; omega)).trans (by simp [go_sem]),
    (hb.cell (p := ⟨w.heap.size + 1, 0, none⟩) (by simp)).trans (by simp [go_sem]), (hb.cell (p := ⟨w.heap.size + 1, 1, none⟩) (by simp)).trans (by simp [go_sem]),
    (hb.frozen (p := ⟨w.heap.size + 1, 0, none⟩) (by simp)).trans (by simp [go_sem]), (hb.frozen (p := ⟨w.heap.size + 1, 1, none⟩) (by simp)).trans (by simp [go_sem]), ?_, ?_⟩
  · have := hb.size; simp at this; omega
  · exact (((Below.refl _ _).alloc (Nat.le_refl _) _).alloc (by simp) _).trans (hb.mono (by simp; omega))
end Go.Proofs.YtiagngnpbpblaaaDoor
