/- Rows of cells in a block: what a store, a draw, a new block, a call that leaves older blocks alone do to them. No program. -/
import Derived.WalkKit
import Derived.Lib.Hide
import Derived.Deep.QuietTactic
namespace Go.Proofs.YtogmmhacjndebaaDoor
open Go.RowKit
set_option linter.unusedSimpArgs false
set_option linter.unusedVariables false

/-- Block b holds the cells g 0 .. g (n - 1), which may be written. -/
def Row (w : World) (b n : Nat) (g : Nat → Value) : Prop := (∀ i, i < n → w.cell? ⟨b, i, none⟩ = some (g i)) ∧ (∀ i, i < n → w.frozen? ⟨b, i, none⟩ = false) ∧ b < w.heap.size
def upd (g : Nat → Value) (k : Nat) (v : Value) : Nat → Value := fun i => if i = k then v else g i
theorem upd_same (g : Nat → Value) (k : Nat) (v : Value) : upd g k v k = v := by unfold upd; rw [if_pos rfl]
theorem upd_other (g : Nat → Value) {k i : Nat} (v : Value) (h : ¬ i = k) : upd g k v i = g i := by unfold upd; rw [if_neg h]
theorem upd_upd (g : Nat → Value) (k : Nat) (u v : Value) : upd (upd g k u) k v = upd g k v := by
  funext i; unfold upd; split <;> rfl
theorem upd_self (g : Nat → Value) (k : Nat) : upd g k (g k) = g := by
  funext i; unfold upd; split
  · rename_i h; rw [h]
  · rfl
theorem Row.at {w : World} {b n : Nat} {g : Nat → Value} (h : Row w b n g) (i : Nat) (hi : i < n) : w.cell? ⟨b, i, none⟩ = some (g i) := h.1 i hi
theorem Row.free {w : World} {b n : Nat} {g : Nat → Value} (h : Row w b n g) (i : Nat) (hi : i < n) : w.frozen? ⟨b, i, none⟩ = false := h.2.1 i hi
theorem Row.lt {w : World} {b n : Nat} {g : Nat → Value} (h : Row w b n g) : b < w.heap.size := h.2.2
theorem Row.congr {w : World} {b n : Nat} {g g' : Nat → Value} (h : Row w b n g) (e : ∀ i, i < n → g i = g' i) : Row w b n g' :=
  ⟨fun i hi => by rw [h.1 i hi, e i hi], h.2.1, h.2.2⟩
theorem Row.below {B : Nat} {w w' : World} {b n : Nat} {g : Nat → Value} (h : Row w b n g) (hb : Below B w w') (hlt : b < B) : Row w' b n g :=
  ⟨fun i hi => (hb.cell (p := ⟨b, i, none⟩) hlt).trans (h.1 i hi), fun i hi => (hb.frozen (p := ⟨b, i, none⟩) hlt).trans (h.2.1 i hi), Nat.lt_of_lt_of_le h.2.2 hb.size⟩
theorem Row.beyond {w w' : World} {b n : Nat} {g : Nat → Value} (h : Row w b n g) (hb : Below w.heap.size w w') : Row w' b n g := h.below hb h.2.2
theorem Row.drew {w : World} {b n : Nat} {g : Nat → Value} (h : Row w b n g) : Row w.drew b n g := h
theorem Row.drewN {w : World} {b n : Nat} {g : Nat → Value} (h : Row w b n g) (m : Nat) : Row (w.drewN m) b n g := h
theorem Row.alloc {w : World} {b n : Nat} {g : Nat → Value} (h : Row w b n g) (o : Obj) : Row (w.alloc o) b n g :=
  h.below ((Below.refl w.heap.size w).alloc (Nat.le_refl _) o) h.2.2
theorem Row.set {w : World} {b n : Nat} {g : Nat → Value} (h : Row w b n g) (k : Nat) (hk : k < n) (v : Value) : Row (w.setCell ⟨b, k, none⟩ v) b n (upd g k v) := by
  refine ⟨fun i hi => ?_, fun i hi => by rw [World.frozen?_setCell]; exact h.2.1 i hi, by rw [World.size_setCell]; exact h.2.2⟩
  by_cases hik : i = k
  · subst hik
    rw [World.cell?_setCell_same _ _ _ (h.1 i hi), upd_same]
  · rw [World.cell?_setCell_other _ _ _ _ (by intro e; injection e with _ e _; exact hik e.symm), upd_other _ _ hik]
    exact h.1 i hi
theorem Row.setOther {w : World} {b n : Nat} {g : Nat → Value} (h : Row w b n g) (p : Addr) (hp : p.block ≠ b) (v : Value) : Row (w.setCell p v) b n g := by
  refine ⟨fun i hi => ?_, fun i hi => by rw [World.frozen?_setCell]; exact h.2.1 i hi, by rw [World.size_setCell]; exact h.2.2⟩
  rw [World.cell?_setCell_other _ _ _ _ (by intro e; rw [e] at hp; exact hp rfl)]
  exact h.1 i hi
theorem row_new (w : World) (c : Array Value) (t : TypeId) (g : Nat → Value) (n : Nat) (h : ∀ i, i < n → c[i]? = some (g i)) : Row (w.alloc (.cells c t)) w.heap.size n g :=
  ⟨fun i hi => by rw [World.cell?_alloc_new]; exact h i hi, fun i _ => World.frozen?_alloc_new w c t i, by simp⟩
theorem list_four {f : Nat → Value} (i : Nat) (h : i < 4) : (#[f 0, f 1, f 2, f 3] : Array Value)[i]? = some (f i) := by
  match i, h with
  | 0, _ => rfl
  | 1, _ => rfl
  | 2, _ => rfl
  | 3, _ => rfl
end Go.Proofs.YtogmmhacjndebaaDoor
