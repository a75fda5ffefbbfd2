/- Plain words for rows of digits that come back; sums, differences, and which rows are numbers. Conditions: as each says. -/
import Derived.Test.YthlpimdpgmknoaaDoorN14
namespace Go.Proofs.YthlpimdpgmknoaaDoor
open Go.RowKit
set_option linter.unusedSimpArgs false
set_option linter.unusedVariables false
/-- A row of L digits came back, those of P. -/
def MemU (P : List Nat) (L : Nat) (w : World) (e : Ending) (w' : World) : Prop := ∃ x cx, e = .returned (.slice x L cx) ∧ Sl .u16 w' x L (gi P) ∧ Below w.heap.size w w'
theorem memU_of {P : List Nat} {L : Nat} {w : World} {e : Ending} {w' : World} (h : RetU P w e w') (hL : P.length = L) : MemU P L w e w' := by
  obtain ⟨x, cx, rfl, _, s, hb⟩ := h
  subst hL
  exact ⟨x, cx, rfl, s, hb⟩
theorem sum_len {a b : List Nat} {n m : Nat} (da : DigL a) (db : DigL b) (ha : a.length ≤ n) (hb : b.length ≤ n) : (dg (valL a + valL b)).length ≤ n + 1 := by
  refine dg_len_le ?_
  have h1 := val_lt da
  have h2 := val_lt db
  have h3 := Nat.pow_le_pow_right (n := 65536) (by decide) ha
  have h4 := Nat.pow_le_pow_right (n := 65536) (by decide) hb
  rw [Nat.pow_succ]
  omega
theorem sub_len {a : List Nat} (b : Nat) (da : DigL a) : (dg (valL a - b)).length ≤ a.length := by
  refine dg_len_le ?_
  have h1 := val_lt da
  omega
theorem isB_dg {v k : Nat} (h : (dg v).length ≤ k) (hk : k ≤ 256) : isB (dg v) = true := isB_iff.2 ⟨by omega, topn_dg v⟩
theorem same_self {P : List Nat} {L : Nat} (hL : P.length = L) (hz : L ≤ 100000) (x y : Option Addr) (cx cy : Nat) (w : World) (h : Sl .u16 w x L (gi P)) (g : Sl .u16 w y L (gi P)) :
    Calls Tryd.prog 12 #[.slice x L cx, .slice y L cy] w fun e w' => e = .returned (.bool true) ∧ ∃ q, w' = w.drewN q := by
  have := same_any x y L cx L cy P P hL hL hz hz w h g
  rw [decide_eq_true rfl] at this
  exact this
end Go.Proofs.YthlpimdpgmknoaaDoor
