/- Doubles that are whole: what the comparisons with two bounds and with the truncated number tell. Plain arithmetic over the kit's Ieee core; no program in sight. No condition. -/
import Derived.Test.YtogmmhacjndebaaDoorFl
namespace Go.Proofs.YtogmmhacjndebaaDoor.Fl
open Ieee

theorem read_bounds {x : Nat} {s : Bool} {m : Nat} {i : Int} (h : double.read x = .number s m i) : -1074 ≤ i ∧ i ≤ 971 := by
  unfold Format.read at h
  simp only [sw, bin, lp, infr] at h
  split at h
  · injection h with _ _ h; omega
  · split at h
    · injection h with _ _ h; omega
    · split at h <;> cases h

/-- The double x is the number v, in units of 2^-K. -/
def Val (x : Nat) (v : Int) : Prop := ∃ s m e, double.read x = .number s m e ∧ -1074 ≤ e ∧ e ≤ 971 ∧ sg s (sc m e) = v
theorem val_of_rep {x : Nat} {n : Int} (h : Rep x n) : Val x (n * 2 ^ K) := h
theorem rep_of_val {x : Nat} {n : Int} (h : Val x (n * 2 ^ K)) : Rep x n := h
theorem val_number {x : Nat} {s : Bool} {m : Nat} {i : Int} (h : double.read x = .number s m i) : Val x (sg s (sc m i)) := by
  obtain ⟨h1, h2⟩ := read_bounds h
  exact ⟨s, m, i, h, h1, h2, rfl⟩

theorem order_val {x y : Nat} {a b : Int} (hx : Val x a) (hy : Val y b) : double.order x y = some (compare a b) := by
  obtain ⟨s, m, i, hr, h1, h2, h3⟩ := hx
  obtain ⟨t, k, j, hr', h1', h2', h3'⟩ := hy
  unfold Format.order
  rw [hr, hr']
  show some _ = _
  have e1 := signed_sc s m i (min i j) (by omega) (by omega)
  have e2 := signed_sc t k j (min i j) (by omega) (by omega)
  generalize signed s m (i - min i j).toNat = P at *
  generalize signed t k (j - min i j).toNat = Q at *
  have hz : (0 : Int) < 2 ^ (min i j + K).toNat := Int.pow_pos (by decide)
  rw [h3] at e1
  rw [h3'] at e2
  generalize (2 : Int) ^ (min i j + K).toNat = u at *
  congr 1
  have hlt : P < Q ↔ a < b := by
    constructor
    · intro h
      have := Int.mul_lt_mul_of_pos_right h hz
      rwa [e1, e2] at this
    · intro h
      rw [← e1, ← e2] at h
      exact Int.lt_of_mul_lt_mul_right h (Int.le_of_lt hz)
  have heq : P = Q ↔ a = b := by
    constructor
    · intro h
      rw [h, e2] at e1
      exact e1.symm
    · intro h
      rw [← e1, ← e2] at h
      exact Int.eq_of_mul_eq_mul_right (Int.ne_of_gt hz) h
  show compareOfLessAndEq P Q = compareOfLessAndEq a b
  unfold compareOfLessAndEq
  simp only [hlt, heq]

theorem cmp_gt {a b : Int} : (compare a b = .gt ∨ compare a b = .eq) ↔ b ≤ a := by
  show (compareOfLessAndEq a b = .gt ∨ compareOfLessAndEq a b = .eq) ↔ _
  unfold compareOfLessAndEq
  split
  · simp; omega
  · split
    · simp; omega
    · simp; omega
theorem cmp_lt {a b : Int} : (compare a b = .lt ∨ compare a b = .eq) ↔ a ≤ b := by
  show (compareOfLessAndEq a b = .lt ∨ compareOfLessAndEq a b = .eq) ↔ _
  unfold compareOfLessAndEq
  split
  · simp; omega
  · split
    · simp; omega
    · simp; omega
theorem cmp_eq {a b : Int} : compare a b = .eq ↔ a = b := by
  show compareOfLessAndEq a b = .eq ↔ _
  unfold compareOfLessAndEq
  split
  · simp; omega
  · split
    · simp; omega
    · simp; omega

/-- x is at least lo; x is at most hi. -/
def geB (x lo : Nat) : Bool := double.order x lo == some .gt || double.order x lo == some .eq
def leB (x hi : Nat) : Bool := double.order x hi == some .lt || double.order x hi == some .eq
def truncBits (x : Nat) : Nat := double.write ((double.read x).integral .zero)
def eqB (x y : Nat) : Bool := double.order x y == some .eq

theorem val_within {x lo hi : Nat} {a b : Int} (hl : Rep lo a) (hh : Rep hi b) (h1 : geB x lo = true) (h2 : leB x hi = true) : ∃ v, Val x v := by
  obtain ⟨s, m, i, hr, _, _, _⟩ := hl
  obtain ⟨t, k, j, hr', _, _, _⟩ := hh
  unfold geB Format.order at h1
  unfold leB Format.order at h2
  rw [hr] at h1
  rw [hr'] at h2
  cases hx : double.read x with
  | number s m i => exact ⟨_, val_number hx⟩
  | infinity s =>
    rw [hx] at h1 h2
    cases s
    · simp [Datum.order] at h2
    · simp [Datum.order] at h1
  | nan s t =>
    rw [hx] at h1
    simp [Datum.order] at h1

theorem geB_val {x lo : Nat} {v a : Int} (hx : Val x v) (hl : Rep lo a) : geB x lo = true ↔ a * 2 ^ K ≤ v := by
  unfold geB
  rw [order_val hx (val_of_rep hl)]
  rw [← cmp_gt]
  simp
theorem leB_val {x hi : Nat} {v a : Int} (hx : Val x v) (hl : Rep hi a) : leB x hi = true ↔ v ≤ a * 2 ^ K := by
  unfold leB
  rw [order_val hx (val_of_rep hl)]
  rw [← cmp_lt]
  simp
theorem eqB_val {x y : Nat} {v u : Int} (hx : Val x v) (hy : Val y u) : eqB x y = true ↔ v = u := by
  unfold eqB
  rw [order_val hx hy]
  rw [← cmp_eq]
  simp

theorem cut_zero_div (neg : Bool) (m d : Nat) : Toward.zero.cut neg m d = m / 2 ^ d := by
  unfold Toward.cut
  simp only [Nat.one_shiftLeft]
  by_cases hd : d ≤ m.log2 + 2
  · rw [Nat.min_eq_left hd]; simp
  · rw [Nat.min_eq_right (by omega)]
    have h1 : m < 2 ^ (m.log2 + 1) := Nat.lt_log2_self
    have h2 : 2 ^ (m.log2 + 1) ≤ 2 ^ (m.log2 + 2) := Nat.pow_le_pow_right (by decide) (by omega)
    have h3 : 2 ^ (m.log2 + 1) ≤ 2 ^ d := Nat.pow_le_pow_right (by decide) (by omega)
    rw [Nat.div_eq_of_lt (by omega), Nat.div_eq_of_lt (by omega)]
    simp

theorem cut_sc (neg : Bool) (m : Nat) (i : Int) (h1 : -1074 ≤ i) :
    Toward.zero.cut neg (m <<< i.toNat) (-i).toNat * 2 ^ K ≤ sc m i ∧ sc m i < (Toward.zero.cut neg (m <<< i.toNat) (-i).toNat + 1) * 2 ^ K := by
  have hK := K_is
  rw [cut_zero_div]
  unfold sc
  by_cases hi : 0 ≤ i
  · have e1 : (-i).toNat = 0 := by omega
    have e2 : (i + K).toNat = i.toNat + K := by omega
    rw [e1, e2, Nat.shiftLeft_eq, Nat.pow_zero, Nat.div_one, Nat.pow_add, ← Nat.mul_assoc]
    have := Nat.two_pow_pos K
    refine ⟨Nat.le_refl _, ?_⟩
    exact Nat.mul_lt_mul_of_pos_right (Nat.lt_succ_self _) this
  · have e1 : i.toNat = 0 := by omega
    rw [e1, Nat.shiftLeft_zero]
    obtain ⟨d, hd⟩ : ∃ d : Nat, (-i).toNat = d := ⟨_, rfl⟩
    obtain ⟨r, hr⟩ : ∃ r : Nat, (i + K).toNat = r := ⟨_, rfl⟩
    have e3 : K = d + r := by omega
    rw [hd, hr, e3, Nat.pow_add, ← Nat.mul_assoc, ← Nat.mul_assoc]
    have hr0 := Nat.two_pow_pos r
    constructor
    · exact Nat.mul_le_mul_right _ (Nat.div_mul_le_self _ _)
    · refine Nat.mul_lt_mul_of_pos_right ?_ hr0
      have := Nat.lt_div_mul_add (a := m) (Nat.two_pow_pos d)
      rw [Nat.add_mul, Nat.one_mul]
      exact this

theorem trunc_val {x : Nat} {v : Int} (hx : Val x v) (hb : v.natAbs ≤ 4503599627370496 * 2 ^ K) :
    ∃ s Q X, Rep (truncBits x) (sg s Q) ∧ v = sg s X ∧ Q * 2 ^ K ≤ X ∧ X < (Q + 1) * 2 ^ K := by
  obtain ⟨s, m, i, hr, h1, h2, h3⟩ := hx
  have hc := cut_sc s m i h1
  refine ⟨s, Toward.zero.cut s (m <<< i.toNat) (-i).toNat, sc m i, ?_, h3.symm, hc.1, hc.2⟩
  unfold truncBits
  rw [hr]
  show Rep (double.write (.number s (Toward.zero.cut s (m <<< i.toNat) (-i).toNat) 0)) _
  generalize Toward.zero.cut s (m <<< i.toNat) (-i).toNat = Q at *
  have hq : Q ≤ 4503599627370496 := by
    have h4 : v.natAbs = sc m i := by rw [← h3, sg_abs]
    rw [h4] at hb
    exact Nat.le_of_mul_le_mul_right (Nat.le_trans hc.1 hb) (Nat.two_pow_pos K)
  refine rep_write s Q 0 (sg s Q) (by omega) (by rw [sg_abs]; omega) ?_
  have : sc Q 0 = Q * 2 ^ K := by unfold sc; rw [toNat_K]
  rw [this]
  unfold sg
  split
  · rw [Int.natCast_mul, Int.natCast_pow, Int.neg_mul]; rfl
  · rw [Int.natCast_mul, Int.natCast_pow]; rfl

theorem sg_cast (s : Bool) (Q k : Nat) : sg s (Q * 2 ^ k) = sg s Q * 2 ^ k := by
  unfold sg
  split
  · rw [Int.natCast_mul, Int.natCast_pow, Int.neg_mul]; rfl
  · rw [Int.natCast_mul, Int.natCast_pow]; rfl
/-- Just the whole numbers within the bounds pass the three comparisons. -/
theorem whole_iff {x lo hi : Nat} {M : Int} (h0 : 0 ≤ M) (h1 : M ≤ 4503599627370496) (hl : Rep lo (-M)) (hh : Rep hi M) :
    (geB x lo && leB x hi && eqB x (truncBits x)) = true ↔ ∃ n, Rep x n ∧ -M ≤ n ∧ n ≤ M := by
  have hp := two_pos
  rw [Bool.and_eq_true, Bool.and_eq_true]
  constructor
  · rintro ⟨⟨g1, g2⟩, g3⟩
    obtain ⟨v, hv⟩ := val_within hl hh g1 g2
    have k1 := (geB_val hv hl).1 g1
    have k2 := (leB_val hv hh).1 g2
    have hb : v.natAbs ≤ 4503599627370496 * 2 ^ K := by
      have k3 : M * 2 ^ K ≤ 4503599627370496 * 2 ^ K := Int.mul_le_mul_of_nonneg_right h1 (Int.le_of_lt hp)
      rw [Int.neg_mul] at k1
      have k4 : (4503599627370496 * 2 ^ K : Int) = ((4503599627370496 * 2 ^ K : Nat) : Int) := by rw [Int.natCast_mul, Int.natCast_pow]; rfl
      omega
    obtain ⟨s, Q, X, r1, r2, r3, r4⟩ := trunc_val hv hb
    have e := (eqB_val hv (val_of_rep r1)).1 g3
    refine ⟨sg s Q, rep_of_val (by rw [← e]; exact hv), ?_, ?_⟩
    · rw [e] at k1
      exact Int.le_of_mul_le_mul_right k1 hp
    · rw [e] at k2
      exact Int.le_of_mul_le_mul_right k2 hp
  · rintro ⟨n, hn, n1, n2⟩
    have hv := val_of_rep hn
    have hb : (n * 2 ^ K).natAbs ≤ 4503599627370496 * 2 ^ K := by
      rw [natAbs_mul_pow]
      exact Nat.mul_le_mul_right _ (by omega)
    refine ⟨⟨(geB_val hv hl).2 (Int.mul_le_mul_of_nonneg_right n1 (Int.le_of_lt hp)), (leB_val hv hh).2 (Int.mul_le_mul_of_nonneg_right n2 (Int.le_of_lt hp))⟩, ?_⟩
    obtain ⟨s, Q, X, r1, r2, r3, r4⟩ := trunc_val hv hb
    refine (eqB_val hv (val_of_rep r1)).2 ?_
    have ha : X = n.natAbs * 2 ^ K := by rw [← natAbs_mul_pow, r2, sg_abs]
    rw [ha] at r3 r4
    have hq : Q = n.natAbs := by
      have q1 := Nat.le_of_mul_le_mul_right r3 (Nat.two_pow_pos K)
      have q2 := Nat.lt_of_mul_lt_mul_right r4
      omega
    rw [r2, ha, ← hq, sg_cast]
end Go.Proofs.YtogmmhacjndebaaDoor.Fl
