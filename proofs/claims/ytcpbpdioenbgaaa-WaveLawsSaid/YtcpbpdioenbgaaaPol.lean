/- Products of lists: the order does not matter; sums; values at a place. No program. -/
import Derived.Test.YtcpbpdioenbgaaaFo1
namespace Go.Proofs.Ytcpbpdioenbgaaa
open Go.RowKit
set_option linter.unusedSimpArgs false
set_option linter.unusedVariables false
/-- Horner's rule from the end: what has come together of the last j numbers of n. -/
def hv (f : Nat → Int) (x : Int) (n : Nat) : Nat → Int
  | 0 => 0
  | j + 1 => (hv f x n j * x + f (n - 1 - j)) % 18446744073709551616
/-- A double sum, row by row. -/
def ss (d : Nat → Nat → Int) : Nat → Nat → Int
  | 0, _ => 0
  | n + 1, m => ss d n m + ss1 (d n) m
where ss1 (e : Nat → Int) : Nat → Int
  | 0 => 0
  | m + 1 => ss1 e m + e m
theorem ss1_add (e e' : Nat → Int) : ∀ m, ss.ss1 (fun v => e v + e' v) m = ss.ss1 e m + ss.ss1 e' m := by
  intro m
  induction m with
  | zero => rfl
  | succ m ih => simp only [ss.ss1, ih]; omega
theorem ss_add (d d' : Nat → Nat → Int) (m : Nat) : ∀ n, ss (fun u v => d u v + d' u v) n m = ss d n m + ss d' n m := by
  intro n
  induction n with
  | zero => rfl
  | succ n ih => rw [ss, ss, ss, ih, ss1_add]; omega
theorem ss_col (d : Nat → Nat → Int) (m : Nat) : ∀ n, ss d n (m + 1) = ss d n m + ss.ss1 (fun u => d u m) n := by
  intro n
  induction n with
  | zero => rfl
  | succ n ih => rw [ss, ss, ih]; simp only [ss.ss1]; omega
theorem ss_zero (d : Nat → Nat → Int) : ∀ n, ss d n 0 = 0 := by
  intro n
  induction n with
  | zero => rfl
  | succ n ih => rw [ss, ih]; simp only [ss.ss1]; omega
theorem ss_swap (d : Nat → Nat → Int) (n : Nat) : ∀ m, ss d n m = ss (fun u v => d v u) m n := by
  intro m
  induction m with
  | zero => rw [ss_zero]; rfl
  | succ m ih => rw [ss_col, ih, ss]
theorem ss1_congr {e e' : Nat → Int} : ∀ {m}, (∀ v, v < m → e v = e' v) → ss.ss1 e m = ss.ss1 e' m := by
  intro m
  induction m with
  | zero => intro _; rfl
  | succ m ih => intro h; simp only [ss.ss1]; rw [ih (fun v hv => h v (by omega)), h m (by omega)]
theorem ss_congr {d d' : Nat → Nat → Int} {m : Nat} : ∀ {n}, (∀ u v, u < n → v < m → d u v = d' u v) → ss d n m = ss d' n m := by
  intro n
  induction n with
  | zero => intro _; rfl
  | succ n ih => intro h; rw [ss, ss, ih (fun u v hu hv => h u v (by omega) hv), ss1_congr (fun v hv => h n v (by omega) hv)]
theorem sV_ss (F G : Nat → Int) (t u : Nat) : ∀ v, sV F G t u v = ss.ss1 (dl F G t u) v := by
  intro v
  induction v with
  | zero => rfl
  | succ v ih => simp only [sV, ss.ss1, ih]
theorem wI_ss (F G : Nat → Int) (m t : Nat) : ∀ u, wI F G m u t = ss (dl F G t) u m := by
  intro u
  rw [wI_eq]
  induction u with
  | zero => rfl
  | succ u ih => rw [sU, ss, ih, sV_ss]
theorem dl_swap (F G : Nat → Int) (t u v : Nat) : dl F G t u v = dl G F t v u := by
  unfold dl
  rw [Nat.add_comm u v, Int.mul_comm]
theorem wI_swap (F G : Nat → Int) (n m t : Nat) : wI F G m n t = wI G F n m t := by
  rw [wI_ss, wI_ss, ss_swap]
  exact ss_congr fun u v _ _ => dl_swap F G t v u
theorem dl_add (F G H : Nat → Int) (t u v : Nat) : dl F G t u v + dl F H t u v = dl F (fun i => G i + H i) t u v := by
  unfold dl
  split
  · rw [← Int.mul_add]
  · rfl
theorem wI_add (F G H : Nat → Int) (n m t : Nat) : wI F G m n t + wI F H m n t = wI F (fun i => G i + H i) m n t := by
  rw [wI_ss, wI_ss, wI_ss, ← ss_add]
  exact ss_congr fun u v _ _ => dl_add F G H t u v
theorem wI_congr {F F' G G' : Nat → Int} {n m : Nat} (hF : ∀ u, u < n → F u = F' u) (hG : ∀ v, v < m → G v = G' v) (t : Nat) : wI F G m n t = wI F' G' m n t := by
  rw [wI_ss, wI_ss]
  refine ss_congr fun u v hu hv => ?_
  unfold dl
  rw [hF u hu, hG v hv]

/-- A list's value at x. -/
def pv (a : Nat → Int) (x : Int) : Nat → Int
  | 0 => 0
  | n + 1 => pv a x n + a n * x ^ n
/-- What Horner's rule has after j steps. -/
def hz (f : Nat → Int) (x : Int) (n : Nat) : Nat → Int
  | 0 => 0
  | j + 1 => hz f x n j * x + f (n - 1 - j)
end Go.Proofs.Ytcpbpdioenbgaaa
