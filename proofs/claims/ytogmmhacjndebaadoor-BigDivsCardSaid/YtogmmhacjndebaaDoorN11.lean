/- Plain laws of sums and differences of rows of digits, as the code reckons them. No program. -/
import Derived.Test.YtogmmhacjndebaaDoorN1
namespace Go.Proofs.YtogmmhacjndebaaDoor
set_option linter.unusedSimpArgs false
set_option linter.unusedVariables false
theorem val_take_succ' (l : List Nat) (k : Nat) : valL (l.take (k + 1)) = valL (l.take k) + 65536 ^ k * l.getD k 0 := by
  by_cases hk : k < l.length
  · exact val_take_succ l k hk
  · rw [take_all (l := l) (k := k + 1) (by omega), take_all (l := l) (k := k) (by omega), getD_out (by omega)]; simp
def adC (a b : List Nat) : Nat → Nat
  | 0 => 0
  | i + 1 => (adC a b i + a.getD i 0 + b.getD i 0) / 65536
def adD (a b : List Nat) (i : Nat) : Nat := (adC a b i + a.getD i 0 + b.getD i 0) % 65536
theorem adC_le {a b : List Nat} (ha : DigL a) (hb : DigL b) : ∀ i, adC a b i ≤ 1
  | 0 => Nat.zero_le _
  | i + 1 => by
    have := adC_le ha hb i
    have := ha.getD i
    have := hb.getD i
    rw [adC]; omega
theorem range_succ_map (f : Nat → Nat) (k : Nat) : (List.range (k + 1)).map f = (List.range k).map f ++ [f k] := by
  rw [List.range_succ, List.map_append, List.map_singleton]
theorem ad_val (a b : List Nat) : ∀ k, valL ((List.range k).map (adD a b)) + 65536 ^ k * adC a b k = valL (a.take k) + valL (b.take k)
  | 0 => by simp [adC, valL]
  | k + 1 => by
    have ih := ad_val a b k
    rw [range_succ_map, val_snoc, List.length_map, List.length_range, val_take_succ', val_take_succ', adC, Nat.pow_succ, Nat.mul_assoc]
    have e : 65536 ^ k * (adC a b k + a.getD k 0 + b.getD k 0) = 65536 ^ k * adD a b k + 65536 ^ k * (65536 * ((adC a b k + a.getD k 0 + b.getD k 0) / 65536)) := by
      rw [← Nat.mul_add]; congr 1; unfold adD; omega
    rw [Nat.mul_add, Nat.mul_add] at e
    omega
def addL (n : Nat) (a b : List Nat) : List Nat := (List.range n).map (adD a b) ++ if adC a b n = 0 then [] else [adC a b n]
theorem addL_val {n : Nat} {a b : List Nat} (ha : a.length ≤ n) (hb : b.length ≤ n) : valL (addL n a b) = valL a + valL b := by
  have h := ad_val a b n
  rw [take_all ha, take_all hb] at h
  unfold addL
  rw [val_app, List.length_map, List.length_range]
  split
  · next hc => rw [hc] at h; simp [valL] at *; omega
  · rw [val_one]; exact h
theorem addL_dig {n : Nat} {a b : List Nat} (ha : DigL a) (hb : DigL b) : DigL (addL n a b) := by
  have := adC_le ha hb n
  unfold addL
  refine (DigL.map n _ (fun i _ => by unfold adD; omega)).app ?_
  split
  · exact DigL.nil
  · exact DigL.nil.cons (by omega)
theorem addL_can {n : Nat} {a b : List Nat} (ha : Can a) (hb : Can b) (hn : max a.length b.length = n) : addL n a b = dg (valL a + valL b) := by
  have hv := addL_val (n := n) (a := a) (b := b) (by omega) (by omega)
  rw [← hv]
  refine (dg_val (can_of_ge (addL_dig ha.1 hb.1) ?_)).symm
  by_cases hc : adC a b n = 0
  · have hl : (addL n a b).length = n := by unfold addL; rw [if_pos hc]; simp
    rw [hl]
    by_cases h0 : n = 0
    · exact Or.inl h0
    · right
      rw [hv]
      by_cases hab : a.length = n
      · have := ha.ge (by omega)
        rw [hab] at this; omega
      · have hbn : b.length = n := by omega
        have := hb.ge (by omega)
        rw [hbn] at this; omega
  · right
    have hl : (addL n a b).length = n + 1 := by unfold addL; rw [if_neg hc]; simp
    rw [hl]
    unfold addL
    rw [if_neg hc, val_snoc, List.length_map, List.length_range, Nat.add_sub_cancel]
    have := Nat.mul_le_mul_left (65536 ^ n) (show 1 ≤ adC a b n by omega)
    omega
end Go.Proofs.YtogmmhacjndebaaDoor
