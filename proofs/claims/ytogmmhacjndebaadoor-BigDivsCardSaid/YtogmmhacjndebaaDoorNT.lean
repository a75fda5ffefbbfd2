/- Plain laws of numerals: their values, their letters. No program. The contract of big.Parse. Condition: a text of at most 1400 bytes. The contract of the reference's Parse. Condition: a text of at most 1400 bytes. append(out, xs...) where xs is of another slice type than out, out the call's own: as laws for the walk. No program. Rows of letters of the call's own; the reference's text, letter by letter. The contract of the reference's Text. Condition: a number (P9.1). The law BigTexts. Conditions: the table of powers of 10 is laid. -/
import Derived.Lib.ItoaNum
import Derived.Test.YtogmmhacjndebaaDoorNum
import Derived.Lib.ParseIntB
import Derived.Test.YtogmmhacjndebaaDoorTab
import Derived.Test.YtogmmhacjndebaaDoorNS
import Derived.Outline
import Derived.Laws.OwnMore
import Derived.Laws.AppendOwn
import Derived.Tactics
import Derived.WalkKit
import Derived.BigRegion
import Derived.Laws.BytesArg
namespace Go.Proofs.YtogmmhacjndebaaDoor
section
open Go.Lib
set_option linter.unusedSimpArgs false
set_option linter.unusedVariables false
end
section
open Go.RowKit
set_option linter.unusedSimpArgs false
set_option linter.unusedVariables false
attribute [local irreducible] Fl.K
end
section
open Go.RowKit
set_option linter.unusedSimpArgs false
set_option linter.unusedVariables false
attribute [local irreducible] Fl.K
end
section
open Go
set_option linter.unusedSimpArgs false
set_option linter.unusedVariables false
end
section
open Go.RowKit
set_option linter.unusedSimpArgs false
set_option linter.unusedVariables false
def OwnY (w : World) (base : Nat) (v : Value) (l : List Nat) : Prop := w.ownsRow base 5 1 v l.length (l.map fun d : Nat => Value.int .u8 (d : Int))
theorem OwnY.nil (w : World) (base : Nat) : OwnY w base (.slice none 0 0) [] := World.ownsRow_nil _ _ _ _
def OwnB (w : World) (base g cap n : Nat) (l : List Nat) : Prop := l.length = n ∧ w.ownsRow base 5 1 (.slice (some ⟨g, 0, none⟩) n cap) n (l.map fun d : Nat => Value.int .u8 (d : Int))
theorem OwnB.lt {w : World} {base g cap n : Nat} {l : List Nat} (h : OwnB w base g cap n l) : base ≤ g ∧ g < w.heap.size := World.ownsRow.lt h.2 g rfl
theorem OwnB.at {w : World} {base g cap n : Nat} {l : List Nat} (h : OwnB w base g cap n l) (i : Nat) (hi : i < n) : w.cell? ⟨g, i, none⟩ = some (.int .u8 (gi l i)) := by
  have e := World.ownsRow.cellAt h.2 i (by omega)
  have hl := h.1
  rw [e, List.getElem?_map, List.getElem?_eq_getElem (by omega)]
  show some _ = some _
  congr 2
  rw [List.getD_eq_getElem?_getD, List.getElem?_eq_getElem (by omega)]; rfl
theorem OwnB.free {w : World} {base g cap n : Nat} {l : List Nat} (h : OwnB w base g cap n l) (i : Nat) : w.frozen? ⟨g, i, none⟩ = false := World.ownsRow.frozenAt h.2 i
theorem OwnB.set {w : World} {base g cap n : Nat} {l : List Nat} (h : OwnB w base g cap n l) (K d : Nat) (v : Int) (hv : v = (d : Int)) : OwnB (w.setCell ⟨g, K, none⟩ (.int .u8 v)) base g cap n (l.set K d) := by
  refine ⟨by rw [List.length_set]; exact h.1, ?_⟩
  have s := (World.ownsRow.stored h.2 K (.int .u8 v)).1
  rw [List.map_set, ← hv]
  exact s
theorem OwnB.congr {w : World} {base g cap n : Nat} {l m : List Nat} (h : OwnB w base g cap n l) (e : l = m) : OwnB w base g cap n m := e ▸ h
/-- The head of an owned row is owned. -/
theorem own_take {w : World} {base : Nat} {ad : Option Addr} {c : Nat} {l : List Nat} {L k : Nat} (h : OwnU w base (.slice ad L c) l) (hL : l.length = L) (hk : k ≤ L) : OwnU w base (.slice ad k c) (l.take k) := by
  have hl : (l.take k).length = k := by rw [List.length_take]; omega
  refine ⟨by rw [List.length_map, hl, Nat.mul_one], ?_⟩
  rcases h.2 with ⟨h1, h0⟩ | ⟨g, cap, cur, h1, hb, hgg, hnc, hcm, hcs, htake⟩
  · injection h1 with e1 e2 e3
    subst e1 e3
    exact .inl ⟨by rw [show k = 0 by omega], by omega⟩
  · injection h1 with e1 e2 e3
    subst e1 e3
    refine .inr ⟨g, c, cur, by rw [hl], hb, hgg, by omega, hcm, hcs, ?_⟩
    rw [hl, Nat.mul_one, List.map_take, ← htake, List.take_take, hL]
    congr 1
    omega
theorem dec_split (n : Nat) : Lib.decDigits n = (if n / 10 = 0 then [] else Lib.decDigits (n / 10)) ++ [UInt8.ofNat (48 + n % 10)] := by
  by_cases h : n < 10
  · rw [Lib.decDigits_one h, if_pos (by omega), Nat.mod_eq_of_lt h]; rfl
  · rw [decDigits_ten h, if_neg (by omega)]
/-- The letters that the reference has written, the last digit first. -/
def TextB (V N : Nat) (bs : List Nat) : Prop := (V = 0 ∧ N = 0 ∧ bs = []) ∨ (V ≠ 0 ∧ Lib.decDigits V = (if N = 0 then [] else Lib.decDigits N) ++ bs.reverse.map UInt8.ofNat)
theorem TextB.start (V : Nat) : TextB V V [] := by
  by_cases h : V = 0
  · exact Or.inl ⟨h, h, rfl⟩
  · exact Or.inr ⟨h, by rw [if_neg h]; simp⟩
theorem TextB.step {V N : Nat} {bs : List Nat} (H : TextB V N bs) (h : N ≠ 0) : TextB V (N / 10) (bs ++ [48 + N % 10]) := by
  rcases H with ⟨_, h2, _⟩ | ⟨h1, h2⟩
  · exact absurd h2 h
  · refine Or.inr ⟨h1, ?_⟩
    rw [h2, if_neg h, dec_split N]
    simp
theorem TextB.zero {V : Nat} {bs : List Nat} (H : TextB V 0 bs) (h : bs.length = 0) : V = 0 := by
  rcases H with ⟨h1, _, _⟩ | ⟨h1, h2⟩
  · exact h1
  · rw [if_pos rfl, List.eq_nil_of_length_eq_zero h] at h2
    have := Lib.decDigits_length V
    have := Lib.nDigits_pos V
    rw [h2] at *
    simp at *
    omega
theorem TextB.done {V : Nat} {bs : List Nat} (H : TextB V 0 bs) (h : bs.length ≠ 0) : bs.reverse.map UInt8.ofNat = Lib.decDigits V := by
  rcases H with ⟨_, _, h3⟩ | ⟨_, h2⟩
  · rw [h3] at h; exact absurd rfl h
  · rw [h2, if_pos rfl]; rfl
end
section
open Go.RowKit
set_option linter.unusedSimpArgs false
set_option linter.unusedVariables false
attribute [local irreducible] Fl.K
end
section
open Go.RowKit
set_option linter.unusedSimpArgs false
set_option linter.unusedVariables false
attribute [local irreducible] Fl.K
end
end Go.Proofs.YtogmmhacjndebaaDoor
