/- Plain laws of a number's decimal digits, four at a time. No program. -/
import Derived.Test.YtogmmhacjndebaaDoorNum
import Derived.Test.YtogmmhacjndebaaDoorN1
import Derived.Lib.Repeat
import Derived.Lib.Join
namespace Go.Proofs.YtogmmhacjndebaaDoor
open Go.Lib
set_option linter.unusedSimpArgs false
set_option linter.unusedVariables false
/-- The digits still to come, and those told, the last ones first. -/
def TextSo (V N : Nat) (xs : List (List UInt8)) : Prop := decDigits V = (if N = 0 then [] else decDigits N) ++ xs.reverse.flatten
theorem TextSo.start {V : Nat} (h : V ≠ 0) : TextSo V V [] := by unfold TextSo; rw [if_neg h]; simp
def piece (N : Nat) : List UInt8 := if N / 10000 = 0 then decDigits (N % 10000) else padK 4 (N % 10000)
theorem TextSo.step {V N : Nat} {xs : List (List UInt8)} (H : TextSo V N xs) (h : N ≠ 0) : TextSo V (N / 10000) (xs ++ [piece N]) := by
  unfold TextSo at *
  rw [H, if_neg h, List.reverse_append, List.reverse_singleton, List.singleton_append, List.flatten_cons, ← List.append_assoc]
  congr 1
  unfold piece
  by_cases hq : N / 10000 = 0
  · rw [if_pos hq, if_pos hq, show N % 10000 = N by omega]; rfl
  · rw [if_neg hq, if_neg hq, ← dec_cut 4 (N / 10000) (N % 10000) (by omega) (by show _ < 10000; omega)]
    congr 1
    show N = N / 10000 * 10000 + N % 10000
    omega
theorem TextSo.done {V : Nat} {xs : List (List UInt8)} (H : TextSo V 0 xs) : xs.reverse.flatten = decDigits V := by
  unfold TextSo at H
  rw [if_pos rfl, List.nil_append] at H
  exact H.symm
theorem repeat_48 : ∀ c, repeatL [48] c = List.replicate c 48
  | 0 => rfl
  | c + 1 => by rw [repeatL, repeat_48 c]; rfl
theorem join_flat : ∀ xs : List (List UInt8), join xs [] = xs.flatten
  | [] => rfl
  | [x] => by rw [join_one]; simp
  | x :: y :: xs => by
    have h := join_flat (y :: xs)
    unfold join at *
    rw [List.intercalate_cons_cons, h]
    simp
theorem flat_len : ∀ (xs : List (List UInt8)), (∀ x ∈ xs, x.length ≤ 4) → xs.flatten.length ≤ 4 * xs.length
  | [], _ => by simp
  | x :: xs, h => by
    have := flat_len xs (fun y hy => h y (List.mem_cons_of_mem _ hy))
    have := h x (List.mem_cons_self ..)
    rw [List.flatten_cons, List.length_append, List.length_cons]
    omega
theorem piece_len (N : Nat) : (piece N).length ≤ 4 := by
  unfold piece
  split
  · rw [decDigits_length]; exact nDigits_of_lt 4 _ (by decide) (by show _ < 10000; omega)
  · rw [padK_length]; exact Nat.le_refl _
/-- The digits of a number of k digits of 2^16. -/
theorem piece_pad {N t : Nat} (h : ¬ N / 10000 = 0) (ht : t = nDigits (N % 10000)) : List.replicate (4 - t) 48 ++ decDigits (N % 10000) = piece N := by
  unfold piece
  rw [if_neg h, padK_eq 4 _ (by decide) (by show _ < 10000; omega), ht]
theorem nDigits4 (N : Nat) : 1 ≤ nDigits (N % 10000) ∧ nDigits (N % 10000) ≤ 4 := ⟨nDigits_pos _, nDigits_of_lt 4 _ (by decide) (by show _ < 10000; omega)⟩
end Go.Proofs.YtogmmhacjndebaaDoor
