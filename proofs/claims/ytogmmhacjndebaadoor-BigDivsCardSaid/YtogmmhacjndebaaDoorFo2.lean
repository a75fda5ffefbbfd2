/- What Fold reckons of two pairs: the values at four places, multiplied, and back. No program's run. -/
import Derived.Test.YtogmmhacjndebaaDoorWav5
import Derived.Test.YtogmmhacjndebaaDoorFo1
namespace Go.Proofs.YtogmmhacjndebaaDoor
open Go.RowKit
set_option linter.unusedSimpArgs false
set_option linter.unusedVariables false

theorem pRe_val (f : Nat → Int) (n i : Nat) : pRe f n i 0 = fz f n (2 * i) + fz f n (2 * i + 1) ∧ pRe f n i 1 = fz f n (2 * i) ∧ pRe f n i 2 = fz f n (2 * i) - fz f n (2 * i + 1) ∧ pRe f n i 3 = fz f n (2 * i) := by
  unfold pRe
  generalize fz f n (2 * i) = p
  generalize fz f n (2 * i + 1) = q
  refine ⟨?_, ?_, ?_, ?_⟩ <;> simp [sre, qre, pa] <;> omega
theorem pIm_val (f : Nat → Int) (n i : Nat) : pIm f n i 0 = 0 ∧ pIm f n i 1 = fz f n (2 * i + 1) ∧ pIm f n i 2 = 0 ∧ pIm f n i 3 = -fz f n (2 * i + 1) := by
  unfold pIm
  generalize fz f n (2 * i) = p
  generalize fz f n (2 * i + 1) = q
  refine ⟨?_, ?_, ?_, ?_⟩ <;> simp [sim, qim, pa]
theorem fz_bound {f : Nat → Int} {n : Nat} (hf : Dig n f) (i : Nat) : 0 ≤ fz f n i ∧ fz f n i ≤ 65535 := by
  unfold fz
  split
  · rename_i h; exact hf i h
  · omega
theorem fz_end (f : Nat → Int) (n i : Nat) (h : n ≤ i) : fz f n i = 0 := by unfold fz; rw [if_neg (by omega)]
theorem p_bound {f : Nat → Int} {n : Nat} (hf : Dig n f) (i k : Nat) (hk : k < 4) : -131070 ≤ pRe f n i k ∧ pRe f n i k ≤ 131070 ∧ -131070 ≤ pIm f n i k ∧ pIm f n i k ≤ 131070 := by
  have b1 := fz_bound hf (2 * i)
  have b2 := fz_bound hf (2 * i + 1)
  obtain ⟨r0, r1, r2, r3⟩ := pRe_val f n i
  obtain ⟨i0, i1, i2, i3⟩ := pIm_val f n i
  rcases four_cases hk with rfl | rfl | rfl | rfl <;> omega

/-- The parts of the product at place k. -/
def zRe (f g : Nat → Int) (n m i j k : Nat) : Int := pRe f n i k * pRe g m j k - pIm f n i k * pIm g m j k
def zIm (f g : Nat → Int) (n m i j k : Nat) : Int := pRe f n i k * pIm g m j k + pIm f n i k * pRe g m j k
theorem m_bound {a b : Int} (a0 : -131070 ≤ a) (a1 : a ≤ 131070) (b0 : -131070 ≤ b) (b1 : b ≤ 131070) : -17179344900 ≤ a * b ∧ a * b ≤ 17179344900 := by
  have h := Fl.mul_bound (A := 131070) (B := 131070) (a := a) (b := b) (by omega) (by omega)
  omega
theorem z_fit {f g : Nat → Int} {n m : Nat} (hf : Dig n f) (hg : Dig m g) (i j : Nat) : Fit (zRe f g n m i j) (zIm f g n m i j) := fun k hk => by
  obtain ⟨a0, a1, a2, a3⟩ := p_bound hf i k hk
  obtain ⟨b0, b1, b2, b3⟩ := p_bound hg j k hk
  have m1 := m_bound a0 a1 b0 b1
  have m2 := m_bound a2 a3 b2 b3
  have m3 := m_bound a0 a1 b2 b3
  have m4 := m_bound a2 a3 b0 b1
  unfold zRe zIm
  omega
/-- Four times the three numbers, and 0. -/
def cf (f g : Nat → Int) (n m i j k : Nat) : Int := if k = 3 then 0 else cc (fz f n) (fz g m) i j k
theorem z_back (f g : Nat → Int) (n m i j k : Nat) (hk : k < 4) : sre (zRe f g n m i j) (zIm f g n m i j) (-1) k 4 = 4 * cf f g n m i j k ∧ sim (zRe f g n m i j) (zIm f g n m i j) (-1) k 4 = 0 := by
  obtain ⟨r0, r1, r2, r3⟩ := pRe_val f n i
  obtain ⟨i0, i1, i2, i3⟩ := pIm_val f n i
  obtain ⟨s0, s1, s2, s3⟩ := pRe_val g m j
  obtain ⟨j0, j1, j2, j3⟩ := pIm_val g m j
  rcases four_cases hk with rfl | rfl | rfl | rfl <;>
    simp [sre, sim, qre, qim, zRe, zIm, r0, r1, r2, r3, i0, i1, i2, i3, s0, s1, s2, s3, j0, j1, j2, j3, cf, cc] <;> grind
theorem tm4 (c : Int) : (4 * c).tmod 4 = 0 ∧ (4 * c).tdiv 4 = c := ⟨Int.mul_tmod_right 4 c, Int.mul_tdiv_cancel_left c (by decide)⟩
end Go.Proofs.YtogmmhacjndebaaDoor
