/- Doubles that are whole numbers: sums, differences, products, comparisons and conversions of such doubles are exact. Plain arithmetic over the kit's Ieee core; no program in sight. No condition. -/
import Ieee.Arith
import Derived.Laws.FloatArith
import Derived.Laws.ComplexArith
namespace Go.Proofs.YtogmmhacjndebaaDoor.Fl
open Ieee

theorem sw : double.signWeight = 9223372036854775808 := by decide
theorem bin : double.binade = 4503599627370496 := by decide
theorem infr : double.infRung = 9218868437227405312 := by decide
theorem lp : double.leastPlace = -1074 := by decide

/-- A bound below all places that come up. -/
def K : Nat := 2200
theorem K_is : (K : Int) = 2200 := rfl
attribute [local irreducible] K
/-- m * 2^e, in units of 2^-K. -/
def sc (m : Nat) (e : Int) : Nat := m * 2 ^ (e + K).toNat
def sg (s : Bool) (x : Nat) : Int := if s then -(x : Int) else (x : Int)

theorem read_low (neg : Bool) (rung : Nat) (h : rung < 4503599627370496) : double.read (double.word neg rung) = .number neg rung (-1074) := by
  unfold Format.read Format.word
  simp only [sw, bin, lp]
  cases neg
  · have h1 : rung / 9223372036854775808 % 2 = 0 := by omega
    have h2 : rung % 9223372036854775808 = rung := by omega
    simp [h1, h2, h]
  · have h1 : (9223372036854775808 + rung) / 9223372036854775808 % 2 = 1 := by omega
    have h2 : (9223372036854775808 + rung) % 9223372036854775808 = rung := by omega
    simp only [if_true, h1, h2, if_pos h]
    rfl

theorem read_high (neg : Bool) (rung : Nat) (h : 4503599627370496 ≤ rung) (h' : rung < 9218868437227405312) :
    double.read (double.word neg rung) = .number neg (4503599627370496 + rung % 4503599627370496) (-1074 + (rung / 4503599627370496 - 1 : Nat)) := by
  unfold Format.read Format.word
  simp only [sw, bin, lp, infr]
  have hn : ¬ rung < 4503599627370496 := by omega
  cases neg
  · have h1 : rung / 9223372036854775808 % 2 = 0 := by omega
    have h2 : rung % 9223372036854775808 = rung := by omega
    simp only [h1, h2, Bool.false_eq_true, if_false, if_neg hn, if_pos h']
    rfl
  · have h1 : (9223372036854775808 + rung) / 9223372036854775808 % 2 = 1 := by omega
    have h2 : (9223372036854775808 + rung) % 9223372036854775808 = rung := by omega
    simp only [if_true, h1, h2, if_neg hn, if_pos h']
    rfl

theorem cut_even_exact (neg : Bool) (q d : Nat) (hq : 0 < q) : Toward.even.cut neg (q * 2 ^ d) d = q := by
  unfold Toward.cut
  have hp : 0 < 2 ^ d := Nat.two_pow_pos d
  have hd : d ≤ (q * 2 ^ d).log2 := (Nat.le_log2 (by exact Nat.ne_of_gt (Nat.mul_pos hq hp))).2 (by exact Nat.le_mul_of_pos_left _ hq)
  have hm : min d ((q * 2 ^ d).log2 + 2) = d := by omega
  simp only [hm, Nat.one_shiftLeft]
  rw [Nat.mul_div_cancel _ hp, Nat.mul_mod_left]
  have h1 : ¬ (2 ^ d < 2 * 0) := by omega
  simp [h1]

theorem cut_zero_exact (neg : Bool) (q d : Nat) : Toward.zero.cut neg (q * 2 ^ d) d = q := by
  unfold Toward.cut
  have hp : 0 < 2 ^ d := Nat.two_pow_pos d
  by_cases hq : q = 0
  · subst hq; simp
  · have hd : d ≤ (q * 2 ^ d).log2 := (Nat.le_log2 (by exact Nat.ne_of_gt (Nat.mul_pos (Nat.pos_of_ne_zero hq) hp))).2 (by exact Nat.le_mul_of_pos_left _ (Nat.pos_of_ne_zero hq))
    have hm : min d ((q * 2 ^ d).log2 + 2) = d := by omega
    simp only [hm, Nat.one_shiftLeft]
    rw [Nat.mul_div_cancel _ hp]
    simp

theorem rung_facts (t q : Nat) (ht : t ≤ 1974) (h1 : 4503599627370496 ≤ q) (h2 : q < 9007199254740992) :
    4503599627370496 ≤ t * 4503599627370496 + q ∧ t * 4503599627370496 + q < 9218868437227405312 ∧
    4503599627370496 + (t * 4503599627370496 + q) % 4503599627370496 = q ∧ (t * 4503599627370496 + q) / 4503599627370496 - 1 = t := by
  refine ⟨by omega, by omega, ?_, ?_⟩
  · have : (t * 4503599627370496 + q) % 4503599627370496 = q % 4503599627370496 := by rw [Nat.add_comm, Nat.add_mul_mod_self_right]
    omega
  · have : (t * 4503599627370496 + q) / 4503599627370496 = q / 4503599627370496 + t := by rw [Nat.add_comm, Nat.add_mul_div_right _ _ (by decide)]
    have h3 : q / 4503599627370496 = 1 := by omega
    omega

/-- A magnitude that is k * 2^p with k below 2^53 is written as it is. -/
theorem nearest_exact (neg : Bool) (mag : Nat) (place : Int) (k : Nat) (p : Int) (hm : 0 < mag) (hk : k < 9007199254740992) (hp : -1074 ≤ p) (hp2 : p ≤ 900) (hpl : -2200 ≤ place) (hv : sc mag place = sc k p) :
    ∃ m e, double.read (double.nearest neg mag place) = .number neg m e ∧ sc m e = sc mag place ∧ -1074 ≤ e ∧ e ≤ 971 := by
  have hK := K_is
  have hl := Nat.log2_self_le (Nat.ne_of_gt hm)
  have hl2 : mag < 2 ^ (mag.log2 + 1) := Nat.lt_log2_self
  unfold Format.nearest
  rw [if_neg (Nat.ne_of_gt hm)]
  have hfb : (double.fractionBits : Int) = 52 := rfl
  simp only [lp, bin, infr, hfb]
  generalize hL : mag.log2 = L at *
  obtain ⟨A, hA⟩ : ∃ A : Nat, (A : Int) = place + K := ⟨(place + K).toNat, by omega⟩
  obtain ⟨B, hB⟩ : ∃ B : Nat, (B : Int) = p + K := ⟨(p + K).toNat, by omega⟩
  have eA : (place + K).toNat = A := by omega
  have eB : (p + K).toNat = B := by omega
  have hvv : mag * 2 ^ A = k * 2 ^ B := by
    have := hv; unfold sc at this; rw [eA, eB] at this; exact this
  generalize hlast : max (place + (L : Int) - 52) (-1074) = last
  have hlp : last ≤ p := by
    by_cases hc : last ≤ p
    · exact hc
    · exfalso
      have h1 : B + 53 ≤ A + L := by omega
      have h2 : k * 2 ^ B < 2 ^ (B + 53) := by
        rw [Nat.pow_add, Nat.mul_comm]
        exact Nat.mul_lt_mul_of_pos_left (by show k < 2 ^ 53; omega) (Nat.two_pow_pos B)
      have h3 : 2 ^ (B + 53) ≤ 2 ^ (A + L) := Nat.pow_le_pow_right (by decide) h1
      have h4 : 2 ^ (A + L) ≤ mag * 2 ^ A := by
        rw [Nat.pow_add, Nat.mul_comm]
        exact Nat.mul_le_mul_right _ hl
      omega
  obtain ⟨Z, hZ⟩ : ∃ Z : Nat, (Z : Int) = last + K := ⟨(last + K).toNat, by omega⟩
  have hZB : Z ≤ B := by omega
  obtain ⟨q, hq⟩ : ∃ q : Nat, q = k * 2 ^ (B - Z) := ⟨_, rfl⟩
  have hqz : q * 2 ^ Z = mag * 2 ^ A := by
    rw [hq, hvv, Nat.mul_assoc, ← Nat.pow_add]
    congr 2
    omega
  have hq0 : 0 < q := by
    rcases Nat.eq_zero_or_pos q with h | h
    · rw [h, Nat.zero_mul] at hqz
      have := Nat.mul_pos hm (Nat.two_pow_pos A)
      omega
    · exact h
  have hkept : Toward.even.cut neg (mag <<< (place - last).toNat) (last - place).toNat = q := by
    by_cases hc : last ≤ place
    · have e1 : (last - place).toNat = 0 := by omega
      have e2 : (place - last).toNat = A - Z := by omega
      rw [e1, e2, Nat.shiftLeft_eq]
      have e3 : mag * 2 ^ (A - Z) = q := by
        have : mag * 2 ^ (A - Z) * 2 ^ Z = q * 2 ^ Z := by
          rw [Nat.mul_assoc, ← Nat.pow_add, hqz]
          congr 2
          omega
        exact Nat.eq_of_mul_eq_mul_right (Nat.two_pow_pos Z) this
      rw [e3]
      have := cut_even_exact neg q 0 hq0
      simpa using this
    · have e1 : (last - place).toNat = Z - A := by omega
      have e2 : (place - last).toNat = 0 := by omega
      rw [e1, e2, Nat.shiftLeft_zero]
      have e3 : mag = q * 2 ^ (Z - A) := by
        have : mag * 2 ^ A = q * 2 ^ (Z - A) * 2 ^ A := by
          rw [Nat.mul_assoc, ← Nat.pow_add, ← hqz]
          congr 2
          omega
        exact Nat.eq_of_mul_eq_mul_right (Nat.two_pow_pos A) this
      rw [e3]
      exact cut_even_exact neg q _ hq0
  rw [hkept]
  have hq53 : q < 9007199254740992 := by
    have h1 : mag * 2 ^ A < 2 ^ (Z + 53) := by
      have h2 : mag * 2 ^ A < 2 ^ (L + 1 + A) := by
        rw [Nat.pow_add]
        exact Nat.mul_lt_mul_of_pos_right hl2 (Nat.two_pow_pos A)
      have h3 : 2 ^ (L + 1 + A) ≤ 2 ^ (Z + 53) := Nat.pow_le_pow_right (by decide) (by omega)
      omega
    rw [← hqz, Nat.pow_add, Nat.mul_comm] at h1
    exact Nat.lt_of_mul_lt_mul_left h1
  have hq52 : q < 4503599627370496 → last = -1074 := by
    intro hlt
    by_cases hc : last = -1074
    · exact hc
    · exfalso
      have h0 : Z + 52 ≤ A + L := by omega
      have h1 : 2 ^ (Z + 52) ≤ mag * 2 ^ A := by
        have h2 : 2 ^ (Z + 52) ≤ 2 ^ (A + L) := Nat.pow_le_pow_right (by decide) h0
        have h4 : 2 ^ (A + L) ≤ mag * 2 ^ A := by
          rw [Nat.pow_add, Nat.mul_comm]
          exact Nat.mul_le_mul_right _ hl
        omega
      rw [← hqz, Nat.pow_add, Nat.mul_comm q] at h1
      have := Nat.le_of_mul_le_mul_left h1 (Nat.two_pow_pos Z)
      omega
  have hzl : last = -1074 → (Z : Int) = -1074 + K := by omega
  by_cases hlt : q < 4503599627370496
  · have hl1 := hq52 hlt
    have e1 : (last - -1074).toNat = 0 := by omega
    rw [e1]
    have e2 : min (0 * 4503599627370496 + q) 9218868437227405312 = q := by omega
    rw [e2, read_low neg q hlt]
    refine ⟨q, -1074, rfl, ?_, by omega, by omega⟩
    unfold sc
    rw [eA, ← hqz]
    congr 2
    have := hzl hl1
    omega
  · obtain ⟨t, ht⟩ : ∃ t : Nat, (t : Int) = last + 1074 := ⟨(last + 1074).toNat, by omega⟩
    have e1 : (last - -1074).toNat = t := by omega
    have ht2 : t ≤ 1974 := by omega
    rw [e1]
    obtain ⟨hi1, hi2, e3, e4⟩ := rung_facts t q ht2 (Nat.le_of_not_lt hlt) hq53
    rw [Nat.min_eq_left (Nat.le_of_lt hi2), read_high neg (t * 4503599627370496 + q) hi1 hi2, e3, e4]
    refine ⟨q, -1074 + (t : Int), rfl, ?_, by omega, by omega⟩
    unfold sc
    rw [eA, ← hqz]
    congr 2
    omega

/-- The double w is the whole number n. -/
def Rep (w : Nat) (n : Int) : Prop := ∃ s m e, double.read w = .number s m e ∧ -1074 ≤ e ∧ e ≤ 971 ∧ sg s (sc m e) = n * 2 ^ K

theorem rep_zero (neg : Bool) : Rep (double.word neg 0) 0 := by
  refine ⟨neg, 0, -1074, read_low neg 0 (by omega), by omega, by omega, ?_⟩
  simp [sg, sc]

theorem two_pos : (0 : Int) < 2 ^ K := Int.pow_pos (by decide)
theorem toNat_K : ((0 : Int) + K).toNat = K := by omega

theorem sg_abs (s : Bool) (x : Nat) : (sg s x).natAbs = x := by
  unfold sg; split <;> omega
theorem natAbs_mul_pow (n : Int) (k : Nat) : (n * 2 ^ k).natAbs = n.natAbs * 2 ^ k := by
  rw [Int.natAbs_mul, Int.natAbs_pow]; rfl

/-- What is written of a number whose value is the whole n. -/
theorem rep_write (s : Bool) (mag : Nat) (place : Int) (n : Int) (hpl : -2200 ≤ place) (hn : n.natAbs < 9007199254740992) (hv : sg s (sc mag place) = n * 2 ^ K) :
    Rep (double.write (.number s mag place)) n := by
  have hab : sc mag place = n.natAbs * 2 ^ K := by
    rw [← natAbs_mul_pow, ← hv, sg_abs]
  by_cases hm : mag = 0
  · subst hm
    have h0 : n = 0 := by
      have : sc 0 place = 0 := by simp [sc]
      rw [this] at hab
      have h2 : n.natAbs = 0 := by
        rcases Nat.mul_eq_zero.1 hab.symm with h | h
        · exact h
        · exact absurd h (Nat.ne_of_gt (Nat.two_pow_pos _))
      omega
    subst h0
    show Rep (double.nearest s 0 place) 0
    unfold Format.nearest
    rw [if_pos rfl]
    exact rep_zero s
  · have hk : sc mag place = sc n.natAbs 0 := by rw [hab]; unfold sc; rw [toNat_K]
    obtain ⟨m, e, hr, hs, h1, h2⟩ := nearest_exact s mag place n.natAbs 0 (Nat.pos_of_ne_zero hm) hn (by omega) (by omega) hpl hk
    exact ⟨s, m, e, hr, h1, h2, by rw [hs, hv]⟩

theorem rep_ofInt (n : Int) (hn : n.natAbs < 9007199254740992) : Rep (floatOfInt .f64 n) n := by
  refine rep_write (decide (n < 0)) n.natAbs 0 n (by omega) hn ?_
  have : sc n.natAbs 0 = n.natAbs * 2 ^ K := by unfold sc; rw [toNat_K]
  rw [this]
  unfold sg
  by_cases h : n < 0
  · rw [if_pos (by simpa using h)]
    have e : (n.natAbs : Int) = -n := by omega
    rw [Int.natCast_mul, e, Int.neg_mul, Int.neg_neg, Int.natCast_pow]; rfl
  · rw [if_neg (by simpa using h)]
    have e : (n.natAbs : Int) = n := by omega
    rw [Int.natCast_mul, e, Int.natCast_pow]; rfl

theorem signed_sc (s : Bool) (m : Nat) (e base : Int) (hb : -2200 ≤ base) (he : base ≤ e) :
    signed s m (e - base).toNat * 2 ^ (base + K).toNat = sg s (sc m e) := by
  have hK := K_is
  have h : (m <<< (e - base).toNat) * 2 ^ (base + K).toNat = sc m e := by
    rw [Nat.shiftLeft_eq, Nat.mul_assoc, ← Nat.pow_add]
    unfold sc
    congr 2
    omega
  unfold signed sg
  rw [← h]
  split
  · rw [Int.neg_mul, Int.natCast_mul, Int.natCast_pow]; rfl
  · rw [Int.natCast_mul, Int.natCast_pow]; rfl

theorem sum_rep (s t : Bool) (m k : Nat) (i j a b : Int) (hi : -1074 ≤ i) (hj : -1074 ≤ j) (ha : sg s (sc m i) = a * 2 ^ K) (hb : sg t (sc k j) = b * 2 ^ K) (hn : (a + b).natAbs < 9007199254740992) :
    ∃ r, ((Datum.number s m i).sum (.number t k j)).map double.write = some r ∧ Rep r (a + b) := by
  refine ⟨_, rfl, ?_⟩
  have hb1 : -2200 ≤ min i j := by omega
  have e1 := signed_sc s m i (min i j) hb1 (by omega)
  have e2 := signed_sc t k j (min i j) hb1 (by omega)
  generalize hT : signed s m (i - min i j).toNat + signed t k (j - min i j).toNat = T
  have e3 : T * 2 ^ (min i j + K).toNat = (a + b) * 2 ^ K := by
    rw [← hT, Int.add_mul, e1, e2, ha, hb, Int.add_mul]
  by_cases h0 : T = 0
  · rw [if_pos h0]
    refine rep_write _ _ _ _ hb1 hn ?_
    rw [h0, Int.zero_mul] at e3
    rw [← e3, h0]
    simp [sg, sc]
  · rw [if_neg h0]
    refine rep_write _ _ _ _ hb1 hn ?_
    rw [← e3]
    unfold sg sc
    by_cases h : T < 0
    · rw [if_pos (by simpa using h), Int.natCast_mul, Int.natCast_pow]
      have e : (T.natAbs : Int) = -T := by omega
      rw [e, Int.neg_mul, Int.neg_neg]; rfl
    · rw [if_neg (by simpa using h), Int.natCast_mul, Int.natCast_pow]
      have e : (T.natAbs : Int) = T := by omega
      rw [e]; rfl

theorem add_rep {x y : Nat} {a b : Int} (hx : Rep x a) (hy : Rep y b) (hn : (a + b).natAbs < 9007199254740992) : ∃ r, floatBits .add .f64 x y = some r ∧ Rep r (a + b) := by
  obtain ⟨s, m, i, hr, h1, h2, h3⟩ := hx
  obtain ⟨t, k, j, hr', h1', h2', h3'⟩ := hy
  obtain ⟨r, e, hp⟩ := sum_rep s t m k i j a b h1 h1' h3 h3' hn
  exact ⟨r, by show double.add x y = some r; unfold Format.add; rw [hr, hr', e], hp⟩

theorem sub_rep {x y : Nat} {a b : Int} (hx : Rep x a) (hy : Rep y b) (hn : (a - b).natAbs < 9007199254740992) : ∃ r, floatBits .sub .f64 x y = some r ∧ Rep r (a - b) := by
  obtain ⟨s, m, i, hr, h1, h2, h3⟩ := hx
  obtain ⟨t, k, j, hr', h1', h2', h3'⟩ := hy
  have h4 : sg (!t) (sc k j) = (-b) * 2 ^ K := by
    rw [Int.neg_mul, ← h3']
    unfold sg; cases t <;> simp
  obtain ⟨r, e, hp⟩ := sum_rep s (!t) m k i j a (-b) h1 h1' h3 h4 (by omega)
  exact ⟨r, by show double.sub x y = some r; unfold Format.sub; rw [hr, hr']; exact e, by rwa [Int.sub_eq_add_neg]⟩

theorem sg_mul (s t : Bool) (x y : Nat) : sg s x * sg t y = sg (s ^^ t) (x * y) := by
  unfold sg
  cases s <;> cases t <;> simp [Int.neg_mul, Int.mul_neg]

theorem mul_rep {x y : Nat} {a b : Int} (hx : Rep x a) (hy : Rep y b) (hn : (a * b).natAbs < 9007199254740992) : ∃ r, floatBits .mul .f64 x y = some r ∧ Rep r (a * b) := by
  obtain ⟨s, m, i, hr, h1, h2, h3⟩ := hx
  obtain ⟨t, k, j, hr', h1', h2', h3'⟩ := hy
  refine ⟨double.write (.number (s ^^ t) (m * k) (i + j)), by show double.mul x y = _; unfold Format.mul; rw [hr, hr']; rfl, ?_⟩
  refine rep_write _ _ _ _ (by omega) hn ?_
  have hK := K_is
  have e : sc m i * sc k j = sc (m * k) (i + j) * 2 ^ K := by
    unfold sc
    rw [Nat.mul_mul_mul_comm, ← Nat.pow_add, Nat.mul_assoc (m * k), ← Nat.pow_add]
    congr 2
    omega
  have e2 : sg (s ^^ t) (sc (m * k) (i + j)) * 2 ^ K = (a * b * 2 ^ K) * 2 ^ K := by
    have h5 : sg (s ^^ t) (sc (m * k) (i + j) * 2 ^ K) = sg (s ^^ t) (sc (m * k) (i + j)) * 2 ^ K := by
      unfold sg
      split
      · rw [Int.natCast_mul, Int.natCast_pow, Int.neg_mul]; rfl
      · rw [Int.natCast_mul, Int.natCast_pow]; rfl
    rw [← h5, ← e, ← sg_mul, h3, h3']
    simp only [Int.mul_assoc, Int.mul_left_comm]
  exact Int.eq_of_mul_eq_mul_right (Int.ne_of_gt two_pos) e2

theorem toInt_rep {x : Nat} {a : Int} (hx : Rep x a) : (double.read x).toInt .zero = some a := by
  obtain ⟨s, m, i, hr, h1, h2, h3⟩ := hx
  rw [hr]
  unfold Datum.toInt Datum.integral
  simp only
  have hK := K_is
  have hab : sc m i = a.natAbs * 2 ^ K := by rw [← natAbs_mul_pow, ← h3, sg_abs]
  have hc : Toward.zero.cut s (m <<< i.toNat) (-i).toNat = a.natAbs := by
    by_cases hi : 0 ≤ i
    · have e1 : (-i).toNat = 0 := by omega
      have e2 : m <<< i.toNat = a.natAbs := by
        rw [Nat.shiftLeft_eq]
        unfold sc at hab
        have e3 : (i + K).toNat = i.toNat + K := by omega
        rw [e3, Nat.pow_add, ← Nat.mul_assoc] at hab
        exact Nat.eq_of_mul_eq_mul_right (Nat.two_pow_pos K) hab
      rw [e1, e2]
      have := cut_zero_exact s a.natAbs 0
      simpa using this
    · have e1 : i.toNat = 0 := by omega
      rw [e1, Nat.shiftLeft_zero]
      have e2 : m = a.natAbs * 2 ^ (-i).toNat := by
        unfold sc at hab
        have e3 : K = (-i).toNat + (i + K).toNat := by omega
        have hab' : m * 2 ^ (i + K).toNat = a.natAbs * 2 ^ ((-i).toNat + (i + K).toNat) := by
          rw [hab, ← e3]
        rw [Nat.pow_add, ← Nat.mul_assoc] at hab'
        exact Nat.eq_of_mul_eq_mul_right (Nat.two_pow_pos _) hab'
      rw [e2]
      exact cut_zero_exact s _ _
  rw [hc]
  congr 1
  unfold signed
  rw [Nat.shiftLeft_zero]
  have hv := two_pos
  unfold sg at h3
  rw [hab, Int.natCast_mul, Int.natCast_pow] at h3
  cases s
  · simp only [Bool.false_eq_true, if_false] at h3 ⊢
    exact Int.eq_of_mul_eq_mul_right (Int.ne_of_gt hv) h3
  · simp only [if_true] at h3 ⊢
    rw [← Int.neg_mul] at h3
    exact Int.eq_of_mul_eq_mul_right (Int.ne_of_gt hv) h3

theorem toIntVal_rep {x : Nat} {a : Int} (hx : Rep x a) (h1 : -9223372036854775808 ≤ a) (h2 : a ≤ 9223372036854775807) : floatToIntVal .f64 x .i64 = some a := by
  unfold floatToIntVal
  have h := toInt_rep hx
  show (match (double.read x).toInt .zero with | some n => if IntKind.i64.min ≤ n ∧ n ≤ IntKind.i64.max then some n else none | none => none) = some a
  rw [h]
  have hmin : IntKind.i64.min = -9223372036854775808 := by decide
  have hmax : IntKind.i64.max = 9223372036854775807 := by decide
  simp only [hmin, hmax, h1, h2, and_self, if_true]

end Go.Proofs.YtogmmhacjndebaaDoor.Fl
