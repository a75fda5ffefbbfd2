/- Contracts of law 8: awake. Conditions: none. -/
import Derived.Test.YtogmmhacjndebaaDoorFo3
namespace Go.Proofs.YtogmmhacjndebaaDoor
open Go.RowKit
set_option linter.unusedSimpArgs false
set_option linter.unusedVariables false
attribute [local irreducible] Fl.K
/-- A product came back: a row of its own. -/
def RetJ (h : Nat → Int) (L : Nat) (w : World) (e : Ending) (w' : World) : Prop := ∃ g c, e = .returned (.tuple #[.slice (some ⟨g, 0, none⟩) L c, .bool true]) ∧ L ≤ c ∧ Row w' g L (oi h) ∧ Below w.heap.size w w'
theorem retJ_of {h : Nat → Int} {L : Nat} {w : World} {e : Ending} {w' : World} (hL : 1 ≤ L) (r : RetI h L w e w') : RetJ h L w e w' := by
  obtain ⟨v, rfl, ho, hb⟩ := r
  obtain ⟨g, c, rfl, hg, hc, rr⟩ := owns_row ho hL (oi h) (fun t ht => by
    rw [Nat.mul_one] at ht
    rw [List.getElem?_map, List.getElem?_range ht]
    rfl)
  rw [Nat.mul_one] at rr
  exact ⟨g, c, rfl, hc, rr, hb⟩
theorem fold_ret (ad bd : Option Addr) (n c m d : Nat) (f g : Nat → Int) (w : World) (hS : Sl .i64 w ad n f) (hT : Sl .i64 w bd m g) (hn : n ≤ 256) (hm : m ≤ 256) (hn0 : 1 ≤ n) (hm0 : 1 ≤ m) (hf : Dig n f) (hg : Dig m g) :
    Calls Tryd.prog 24 #[.slice ad n c, .slice bd m d] w (RetJ (wI (fz f n) (fz g m) m n) (n + m - 1) w) :=
  (fold_yes ad bd n c m d f g w hS hT hn hm hn0 hm0 hf hg).mono fun _ _ h => retJ_of (by omega) h
theorem bits1 : floatOfInt .f64 1 = 4607182418800017408 := by decide +kernel
theorem rep1 : Fl.Rep 4607182418800017408 1 := by rw [← bits1]; exact Fl.rep_ofInt 1 (by decide)
attribute [local go_sem] run_store_complex
end Go.Proofs.YtogmmhacjndebaaDoor
