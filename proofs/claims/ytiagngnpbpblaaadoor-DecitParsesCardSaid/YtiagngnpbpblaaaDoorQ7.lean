/- What the text of a decimal is read as: plain laws. No program. -/
import Derived.Test.YtiagngnpbpblaaaDoorQ2
import Derived.Test.YtiagngnpbpblaaaDoorQ5
import Derived.Test.YtiagngnpbpblaaaDoorPar
import Derived.Test.YtiagngnpbpblaaaDoorDec8
namespace Go.Proofs.YtiagngnpbpblaaaDoor
open Go.Lib
set_option linter.unusedSimpArgs false
set_option linter.unusedVariables false

theorem dig_ne {c : UInt8} (h : isD c = true) : 48 ≤ c.toNat ∧ c.toNat ≤ 57 := by
  unfold isD at h
  rw [Bool.and_eq_true, decide_eq_true_eq, decide_eq_true_eq] at h
  exact h
/-- Nothing of a text's head is an exponent's letter. -/
def NoE (l : List UInt8) : Prop := ∀ c ∈ l, ([101, 69] : List UInt8).contains c = false
theorem noE_dig {l : List UInt8} (h : l.all isD = true) : NoE l := fun c hc => by
  obtain ⟨h1, h2⟩ := dig_ne (List.all_eq_true.1 h c hc)
  cases hq : ([101, 69] : List UInt8).contains c with
  | false => rfl
  | true =>
    simp at hq
    rcases hq with rfl | rfl
    · simp at h2
    · simp at h2
theorem noE_app {l m : List UInt8} (h : NoE l) (h2 : NoE m) : NoE (l ++ m) := fun c hc => (List.mem_append.1 hc).elim (h c) (h2 c)
theorem noE_pt : NoE [46] := fun c hc => by rw [List.mem_singleton.1 hc]; decide
theorem idx46_miss : ∀ l : List UInt8, (46 : UInt8) ∉ l → index l [46] = -1
  | [], _ => rfl
  | b :: l, h => by
    have hb : ((46 : UInt8) == b) = false := beq_eq_false_iff_ne.2 (fun e => h (e ▸ List.mem_cons_self))
    have hp : [(46 : UInt8)].isPrefixOf (b :: l) = false := by simp only [List.isPrefixOf, hb, Bool.false_and]
    rw [index, hp, idx46_miss l (fun e => h (List.mem_cons_of_mem _ e))]; rfl
theorem idx46_hit (r : List UInt8) : ∀ a : List UInt8, (46 : UInt8) ∉ a → index (a ++ 46 :: r) [46] = (a.length : Int)
  | [], _ => by
    have hp : [(46 : UInt8)].isPrefixOf (46 :: r) = true := by simp [List.isPrefixOf]
    rw [List.nil_append, index, hp]; rfl
  | b :: a, h => by
    have hb : ((46 : UInt8) == b) = false := beq_eq_false_iff_ne.2 (fun e => h (e ▸ List.mem_cons_self))
    have hp : [(46 : UInt8)].isPrefixOf (b :: (a ++ 46 :: r)) = false := by simp only [List.isPrefixOf, hb, Bool.false_and]
    rw [List.cons_append, index, hp, idx46_hit r a (fun e => h (List.mem_cons_of_mem _ e))]
    have hn : ((a.length : Int) == -1) = false := beq_eq_false_iff_ne.2 (by omega)
    rw [hn]; simp
theorem dig_no46 {l : List UInt8} (h : l.all isD = true) : (46 : UInt8) ∉ l := fun hm => by
  have := dig_ne (List.all_eq_true.1 h _ hm)
  simp at this
end Go.Proofs.YtiagngnpbpblaaaDoor
