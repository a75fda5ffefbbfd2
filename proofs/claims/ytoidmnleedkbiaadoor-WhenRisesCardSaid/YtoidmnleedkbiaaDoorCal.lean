/- Plain laws of the calendar: days, years, months. No program. -/
import Derived.Lib.ItoaNum
namespace Go.Proofs.YtoidmnleedkbiaaDoor
set_option linter.unusedSimpArgs false
set_option linter.unusedVariables false

def lp (y : Int) : Int := if y % 4 = 0 ∧ (y % 100 ≠ 0 ∨ y % 400 = 0) then 1 else 0
theorem lp_01 (y : Int) : 0 ≤ lp y ∧ lp y ≤ 1 := by unfold lp; split <;> omega
def mlen (y m : Int) : Int := if m = 2 then 28 + lp y else if m = 4 ∨ m = 6 ∨ m = 9 ∨ m = 11 then 30 else 31
/-- Days ahead of a year, from 1970 on. -/
def ahd (y : Int) : Int := (y - 1) * 365 + (y - 1) / 4 - (y - 1) / 100 + (y - 1) / 400 - 719162
theorem ahd_succ (y : Int) : ahd (y + 1) = ahd y + 365 + lp y := by unfold ahd lp; split <;> omega
theorem ahd_mono {y z : Int} (h : y < z) : ahd (y + 1) ≤ ahd z := by unfold ahd; omega
theorem ahd_1970 : ahd 1970 = 0 := rfl
/-- Days ahead of a month in its year. -/
def cumd (y m : Int) : Int :=
  if m ≤ 1 then 0 else if m = 2 then 31 else
  (if m = 3 then 59 else if m = 4 then 90 else if m = 5 then 120 else if m = 6 then 151 else if m = 7 then 181 else if m = 8 then 212 else if m = 9 then 243 else if m = 10 then 273 else if m = 11 then 304 else if m = 12 then 334 else 365) + lp y
theorem cumd_one (y : Int) : cumd y 1 = 0 := by unfold cumd; simp
theorem cumd_succ (y m : Int) (h1 : 1 ≤ m) (h2 : m ≤ 12) : cumd y (m + 1) = cumd y m + mlen y m := by
  have hl := lp_01 y
  unfold cumd mlen
  generalize lp y = p at *
  (repeat' split) <;> omega
theorem cumd_end (y : Int) : cumd y 13 = 365 + lp y := by unfold cumd; simp
theorem cumd_ge (y m : Int) : 0 ≤ cumd y m := by
  have hl := lp_01 y
  unfold cumd
  (repeat' split) <;> omega
theorem mlen_bd (y m : Int) : 28 ≤ mlen y m ∧ mlen y m ≤ 31 := by
  have hl := lp_01 y
  unfold mlen
  (repeat' split) <;> omega
theorem cumd_up (y m : Int) (h1 : 1 ≤ m) : ∀ n : Nat, m + n ≤ 13 → cumd y m ≤ cumd y (m + n)
  | 0, _ => by simp
  | n + 1, h => by
    have a := cumd_up y m h1 n (by omega)
    have b := cumd_succ y (m + n) (by omega) (by omega)
    have c := mlen_bd y (m + n)
    rw [show m + ((n + 1 : Nat) : Int) = m + n + 1 by omega]
    omega
theorem cumd_step (y m k : Int) (h : m < k) (h1 : 1 ≤ m) (h2 : k ≤ 13) : cumd y (m + 1) ≤ cumd y k := by
  have a := cumd_up y (m + 1) (by omega) (k - (m + 1)).toNat (by omega)
  rw [show m + 1 + ((k - (m + 1)).toNat : Int) = k by omega] at a
  exact a
/-- The day is the d-th (from 0 on) of that month of that year. -/
def Ymd (days y m d : Int) : Prop := 1970 ≤ y ∧ y ≤ 9999 ∧ 1 ≤ m ∧ m ≤ 12 ∧ 0 ≤ d ∧ d < mlen y m ∧ days = ahd y + cumd y m + d
theorem Ymd.in_year {days y m d : Int} (h : Ymd days y m d) : ahd y ≤ days ∧ days < ahd (y + 1) := by
  obtain ⟨_, _, h3, h4, h5, h6, h7⟩ := h
  have := cumd_ge y m
  have h8 := cumd_succ y m h3 h4
  have h9 := ahd_succ y
  have h10 := cumd_end y
  have h11 : cumd y (m + 1) ≤ cumd y 13 := by
    rcases (show m + 1 = 13 ∨ m + 1 < 13 by omega) with e | e
    · rw [e]; exact Int.le_refl _
    · have := cumd_step y (m + 1) 13 e (by omega) (by decide)
      have := cumd_succ y (m + 1) (by omega) (by omega)
      have := mlen_bd y (m + 1)
      omega
  omega
theorem Ymd.unique {days y m d z k e : Int} (h : Ymd days y m d) (g : Ymd days z k e) : y = z ∧ m = k ∧ d = e := by
  have hy : y = z := by
    have a := h.in_year
    have b := g.in_year
    rcases Int.lt_trichotomy y z with c | c | c
    · have := ahd_mono c; omega
    · exact c
    · have := ahd_mono c; omega
  subst hy
  obtain ⟨_, _, h3, h4, h5, h6, h7⟩ := h
  obtain ⟨_, _, g3, g4, g5, g6, g7⟩ := g
  have hs := cumd_succ y m h3 h4
  have gs := cumd_succ y k g3 g4
  have hm : m = k := by
    rcases Int.lt_trichotomy m k with c | c | c
    · have := cumd_step y m k c h3 (by omega); omega
    · exact c
    · have := cumd_step y k m c g3 (by omega); omega
  subst hm
  exact ⟨rfl, rfl, by omega⟩
/-- The first guess of a year is not beyond it. -/
theorem guess (days : Int) (h0 : 0 ≤ days) (h1 : days ≤ 2932896) : ahd (1970 + days / 366) ≤ days ∧ 1970 + days / 366 ≤ 9999 := by
  unfold ahd; omega
theorem last_day : ahd 10000 = 2932897 := rfl
end Go.Proofs.YtoidmnleedkbiaaDoor
