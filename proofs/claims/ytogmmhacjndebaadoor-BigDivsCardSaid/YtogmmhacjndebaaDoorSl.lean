/- Slices of integers that came in: what stands in them, and that it stays. No program. -/
import Derived.WalkKit
import Derived.Lib.Hide
import Derived.Deep.QuietTactic
namespace Go.Proofs.YtogmmhacjndebaaDoor
open Go.RowKit
set_option linter.unusedSimpArgs false
set_option linter.unusedVariables false

/-- The slice at ad holds n integers f 0 .. f (n - 1) of kind k. -/
def Sl (k : IntKind) (w : World) (ad : Option Addr) (n : Nat) (f : Nat → Int) : Prop := ∀ i, i < n → ∃ a, ad = some a ∧ a.block < w.heap.size ∧ w.cell? (a.add i) = some (.int k (f i))
theorem Sl.beyond {k : IntKind} {w w' : World} {ad : Option Addr} {n : Nat} {f : Nat → Int} (h : Sl k w ad n f) (hb : Below w.heap.size w w') : Sl k w' ad n f := fun i hi => by
  obtain ⟨a, ha, hl, hc⟩ := h i hi
  refine ⟨a, ha, Nat.lt_of_lt_of_le hl hb.size, ?_⟩
  rw [hb.cell (p := a.add i) (by unfold Addr.add; split <;> exact hl)]
  exact hc
theorem Sl.below {k : IntKind} {w w' : World} {B : Nat} {ad : Option Addr} {n : Nat} {f : Nat → Int} (h : Sl k w ad n f) (hB : B ≤ w.heap.size) (hlt : ∀ a, ad = some a → a.block < B) (hb : Below B w w') : Sl k w' ad n f := fun i hi => by
  obtain ⟨a, ha, hl, hc⟩ := h i hi
  refine ⟨a, ha, Nat.lt_of_lt_of_le hl hb.size, ?_⟩
  rw [hb.cell (p := a.add i) (by unfold Addr.add; split <;> exact hlt a ha)]
  exact hc
theorem Sl.drewN {k : IntKind} {w : World} {ad : Option Addr} {n : Nat} {f : Nat → Int} (h : Sl k w ad n f) (m : Nat) : Sl k (w.drewN m) ad n f := h
theorem Sl.alloc {k : IntKind} {w : World} {ad : Option Addr} {n : Nat} {f : Nat → Int} (h : Sl k w ad n f) (o : Obj) : Sl k (w.alloc o) ad n f :=
  h.beyond ((Below.refl w.heap.size w).alloc (Nat.le_refl _) o)
theorem Sl.none (k : IntKind) (w : World) (ad : Option Addr) (f : Nat → Int) : Sl k w ad 0 f := fun i hi => by omega
theorem Sl.congr {k : IntKind} {w : World} {ad : Option Addr} {n : Nat} {f g : Nat → Int} (h : Sl k w ad n f) (e : ∀ i, i < n → f i = g i) : Sl k w ad n g := fun i hi => by
  obtain ⟨a, ha, hl, hc⟩ := h i hi
  exact ⟨a, ha, hl, by rw [hc, e i hi]⟩
end Go.Proofs.YtogmmhacjndebaaDoor
