/- The product of two lists, number by number, in the order in which Fold adds it up; the values at four places. No program. -/
import Derived.WalkKit
import Derived.Lib.Hide
namespace Go.Proofs.YtogmmhacjndebaaDoor
open Go.RowKit
set_option linter.unusedSimpArgs false
set_option linter.unusedVariables false

/-- c is added at place p. -/
def addAt (a : Nat → Int) (p : Nat) (c : Int) : Nat → Int := fun t => if t = p then a t + c else a t
theorem addAt_eq (a : Nat → Int) (p : Nat) (c : Int) (t : Nat) : addAt a p c t = a t + if t = p then c else 0 := by
  unfold addAt; split <;> simp
/-- The number of a pair's product at place k. -/
def cc (f g : Nat → Int) (i j k : Nat) : Int :=
  if k = 0 then f (2 * i) * g (2 * j) else if k = 1 then f (2 * i) * g (2 * j + 1) + f (2 * i + 1) * g (2 * j) else f (2 * i + 1) * g (2 * j + 1)
/-- a with k of the three numbers of the pairs i, j added. -/
def accK (f g : Nat → Int) (a : Nat → Int) (i j : Nat) : Nat → Nat → Int
  | 0 => a
  | k + 1 => addAt (accK f g a i j k) (2 * i + 2 * j + k) (cc f g i j k)
def accJ (f g : Nat → Int) (a : Nat → Int) (i : Nat) : Nat → Nat → Int
  | 0 => a
  | j + 1 => accK f g (accJ f g a i j) i j 3
def accI (f g : Nat → Int) (M : Nat) : Nat → Nat → Int
  | 0 => fun _ => 0
  | i + 1 => accJ f g (accI f g M i) i M

/-- One by one: row u of the product. -/
def wJ (f g : Nat → Int) (a : Nat → Int) (u : Nat) : Nat → Nat → Int
  | 0 => a
  | v + 1 => addAt (wJ f g a u v) (u + v) (f u * g v)
def wI (f g : Nat → Int) (m : Nat) : Nat → Nat → Int
  | 0 => fun _ => 0
  | u + 1 => wJ f g (wI f g m u) u m

def dl (f g : Nat → Int) (t u v : Nat) : Int := if t = u + v then f u * g v else 0
def sV (f g : Nat → Int) (t u : Nat) : Nat → Int
  | 0 => 0
  | v + 1 => sV f g t u v + dl f g t u v
def sU (f g : Nat → Int) (t m : Nat) : Nat → Int
  | 0 => 0
  | u + 1 => sU f g t m u + sV f g t u m

theorem wJ_eq (f g a : Nat → Int) (u t : Nat) : ∀ v, wJ f g a u v t = a t + sV f g t u v := by
  intro v
  induction v with
  | zero => simp [wJ, sV]
  | succ v ih => rw [wJ, addAt_eq, ih, sV, dl]; omega
theorem wI_eq (f g : Nat → Int) (m t : Nat) : ∀ u, wI f g m u t = sU f g t m u := by
  intro u
  induction u with
  | zero => rfl
  | succ u ih => rw [wI, wJ_eq, ih, sU]
/-- The three numbers of a pair, as they stand at t. -/
def d3 (f g : Nat → Int) (t i j : Nat) : Int := (if t = 2 * i + 2 * j then cc f g i j 0 else 0) + (if t = 2 * i + 2 * j + 1 then cc f g i j 1 else 0) + (if t = 2 * i + 2 * j + 2 then cc f g i j 2 else 0)
theorem accK_three (f g a : Nat → Int) (i j t : Nat) : accK f g a i j 3 t = a t + d3 f g t i j := by
  rw [accK, addAt_eq, accK, addAt_eq, accK, addAt_eq, accK, d3]
  omega
def s3 (f g : Nat → Int) (t i : Nat) : Nat → Int
  | 0 => 0
  | j + 1 => s3 f g t i j + d3 f g t i j
theorem accJ_eq (f g a : Nat → Int) (i t : Nat) : ∀ j, accJ f g a i j t = a t + s3 f g t i j := by
  intro j
  induction j with
  | zero => simp [accJ, s3]
  | succ j ih => rw [accJ, accK_three, ih, s3]; omega
theorem d3_eq (f g : Nat → Int) (t i j : Nat) : d3 f g t i j = dl f g t (2 * i) (2 * j) + dl f g t (2 * i) (2 * j + 1) + (dl f g t (2 * i + 1) (2 * j) + dl f g t (2 * i + 1) (2 * j + 1)) := by
  have e0 : cc f g i j 0 = f (2 * i) * g (2 * j) := rfl
  have e1 : cc f g i j 1 = f (2 * i) * g (2 * j + 1) + f (2 * i + 1) * g (2 * j) := rfl
  have e2 : cc f g i j 2 = f (2 * i + 1) * g (2 * j + 1) := rfl
  unfold d3 dl
  rw [e0, e1, e2]
  generalize f (2 * i) * g (2 * j) = A
  generalize f (2 * i) * g (2 * j + 1) = B
  generalize f (2 * i + 1) * g (2 * j) = C
  generalize f (2 * i + 1) * g (2 * j + 1) = D
  by_cases h0 : t = 2 * i + 2 * j
  · rw [if_pos h0, if_neg (by omega), if_neg (by omega), if_neg (by omega), if_neg (by omega), if_neg (by omega)]; omega
  · by_cases h1 : t = 2 * i + 2 * j + 1
    · rw [if_neg h0, if_pos h1, if_neg (by omega), if_pos (by omega), if_pos (by omega), if_neg (by omega)]; omega
    · by_cases h2 : t = 2 * i + 2 * j + 2
      · rw [if_neg h0, if_neg h1, if_pos h2, if_neg (by omega), if_neg (by omega), if_pos (by omega)]; omega
      · rw [if_neg h0, if_neg h1, if_neg h2, if_neg (by omega), if_neg (by omega), if_neg (by omega)]; omega
theorem s3_eq (f g : Nat → Int) (t i : Nat) : ∀ j, s3 f g t i j = sV f g t (2 * i) (2 * j) + sV f g t (2 * i + 1) (2 * j) := by
  intro j
  induction j with
  | zero => rfl
  | succ j ih =>
    rw [s3, ih, d3_eq, show 2 * (j + 1) = 2 * j + 1 + 1 from by omega, sV, sV, sV, sV]
    omega
theorem accI_eq (f g : Nat → Int) (M t : Nat) : ∀ i, accI f g M i t = sU f g t (2 * M) (2 * i) := by
  intro i
  induction i with
  | zero => rfl
  | succ i ih =>
    rw [accI, accJ_eq, ih, s3_eq, show 2 * (i + 1) = 2 * i + 1 + 1 from by omega, sU, sU]
    omega
/-- Beyond the ends there is nothing to add. -/
theorem sV_end (f g : Nat → Int) (t u m : Nat) (hg : ∀ v, m ≤ v → g v = 0) : ∀ v, m ≤ v → sV f g t u v = sV f g t u m := by
  intro v hv
  induction v with
  | zero => obtain rfl : m = 0 := by omega
            rfl
  | succ v ih =>
    by_cases hm : m = v + 1
    · rw [hm]
    · rw [sV, ih (by omega), dl, hg v (by omega), Int.mul_zero]
      split <;> omega
theorem sV_none (f g : Nat → Int) (t u : Nat) (hf : f u = 0) : ∀ v, sV f g t u v = 0 := by
  intro v
  induction v with
  | zero => rfl
  | succ v ih => rw [sV, ih, dl, hf, Int.zero_mul]; split <;> rfl
theorem sU_end (f g : Nat → Int) (t n m M : Nat) (hf : ∀ u, n ≤ u → f u = 0) (hg : ∀ v, m ≤ v → g v = 0) (hM : m ≤ M) : ∀ u, n ≤ u → sU f g t M u = sU f g t m n := by
  intro u hu
  have e : ∀ u, sU f g t M u = sU f g t m u := by
    intro u
    induction u with
    | zero => rfl
    | succ u ih => rw [sU, sU, ih, sV_end f g t u m hg M hM]
  rw [e]
  induction u with
  | zero => obtain rfl : n = 0 := by omega
            rfl
  | succ u ih =>
    by_cases hm : n = u + 1
    · rw [hm]
    · rw [sU, ih (by omega), sV_none f g t u (hf u (by omega))]; omega
theorem accI_conv (f g : Nat → Int) (t n m : Nat) (hf : ∀ u, n ≤ u → f u = 0) (hg : ∀ v, m ≤ v → g v = 0) : accI f g ((m + 1) / 2) ((n + 1) / 2) t = wI f g m n t := by
  rw [accI_eq, wI_eq]
  exact sU_end f g t n m _ hf hg (by omega) _ (by omega)

theorem cc_bound (f g : Nat → Int) (hf : ∀ u, 0 ≤ f u ∧ f u ≤ 65535) (hg : ∀ u, 0 ≤ g u ∧ g u ≤ 65535) (i j k : Nat) : 0 ≤ cc f g i j k ∧ cc f g i j k ≤ 17179869184 := by
  have key : ∀ u v, 0 ≤ f u * g v ∧ f u * g v ≤ 4294836225 := by
    intro u v
    obtain ⟨a1, a2⟩ := hf u
    obtain ⟨b1, b2⟩ := hg v
    exact ⟨Int.mul_nonneg a1 b1, by have := Int.mul_le_mul a2 b2 b1 (by omega); omega⟩
  unfold cc
  have k1 := key (2 * i) (2 * j)
  have k2 := key (2 * i) (2 * j + 1)
  have k3 := key (2 * i + 1) (2 * j)
  have k4 := key (2 * i + 1) (2 * j + 1)
  (repeat' split) <;> omega
theorem accK_bound (f g a : Nat → Int) (hf : ∀ u, 0 ≤ f u ∧ f u ≤ 65535) (hg : ∀ u, 0 ≤ g u ∧ g u ≤ 65535) (i j t : Nat) (B : Int) (h : 0 ≤ a t ∧ a t ≤ B) : ∀ k, 0 ≤ accK f g a i j k t ∧ accK f g a i j k t ≤ B + k * 17179869184 := by
  intro k
  induction k with
  | zero => simpa [accK] using h
  | succ k ih =>
    have hc := cc_bound f g hf hg i j k
    rw [accK, addAt_eq, Int.natCast_add, Int.add_mul]
    split <;> omega
theorem accJ_bound (f g a : Nat → Int) (hf : ∀ u, 0 ≤ f u ∧ f u ≤ 65535) (hg : ∀ u, 0 ≤ g u ∧ g u ≤ 65535) (i t : Nat) (B : Int) (h : 0 ≤ a t ∧ a t ≤ B) : ∀ j, 0 ≤ accJ f g a i j t ∧ accJ f g a i j t ≤ B + j * 51539607552 := by
  intro j
  induction j with
  | zero => simpa [accJ] using h
  | succ j ih =>
    have hc := accK_bound f g (accJ f g a i j) hf hg i j t _ ih 3
    rw [accJ, Int.natCast_add, Int.add_mul]
    omega
theorem accI_bound (f g : Nat → Int) (hf : ∀ u, 0 ≤ f u ∧ f u ≤ 65535) (hg : ∀ u, 0 ≤ g u ∧ g u ≤ 65535) (M : Nat) (hM : M ≤ 128) (t : Nat) : ∀ i, 0 ≤ accI f g M i t ∧ accI f g M i t ≤ i * 6597069766656 := by
  intro i
  induction i with
  | zero => simp [accI]
  | succ i ih =>
    have hc := accJ_bound f g (accI f g M i) hf hg i t _ ih M
    rw [accI, Int.natCast_add, Int.add_mul]
    omega
end Go.Proofs.YtogmmhacjndebaaDoor
