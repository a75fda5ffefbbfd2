/- What is read of digits and an exponent: just that number. Plain laws, no program. -/
import Derived.Test.YtpgooajifehbbaaDoorQ9
namespace Go.Proofs.YtpgooajifehbbaaDoor
open Go.Lib
set_option linter.unusedSimpArgs false
set_option linter.unusedVariables false

theorem decVal_zeros (l : List UInt8) : ∀ z, decVal (l ++ List.replicate z 48) = decVal l * 10 ^ z
  | 0 => by simp
  | z + 1 => by
    rw [List.replicate_succ', ← List.append_assoc, decVal_snoc, decVal_zeros l z, Nat.pow_succ]
    show _ + (48 - 48) = _
    rw [Nat.sub_self, Nat.add_zero, Nat.mul_assoc]
theorem decVal_lt : ∀ (k : Nat) (l : List UInt8), l.length = k → l.all isDg = true → decVal l < 10 ^ k
  | 0, l, h, _ => by
    rw [List.eq_nil_of_length_eq_zero h]; decide
  | k + 1, l, h, ha => by
    rcases List.eq_nil_or_concat l with rfl | ⟨m, c, rfl⟩
    · simp at h
    · rw [List.concat_eq_append] at *
      have hm : m.length = k := by simp at h; exact h
      rw [List.all_append, Bool.and_eq_true] at ha
      have ih := decVal_lt k m hm ha.1
      have hc := ha.2
      rw [List.all_cons, Bool.and_eq_true] at hc
      have hc2 := dig_ne (show isD c = true from hc.1)
      rw [decVal_snoc, Nat.pow_succ]
      omega
theorem wV_div {V : Int} (h0 : 0 ≤ V) : wV (V / 18446744073709551616) (V % 18446744073709551616) = V := by unfold wV; omega
/-- What becomes of digits times a power of ten. -/
theorem just_fin (ng : Bool) (n : Nat) (hn : n < 340282366920938463463374607431768211456) (x : Int) (x0 : -7000 ≤ x) (x1 : x ≤ 7000) :
    (finR ng x (trimLeftB (decDigits n) 48) = (0, 0, 10) ∧ jOk ((n : Int) / 18446744073709551616) ((n : Int) % 18446744073709551616) x = false) ∨
    (∃ (V : Nat) (X : Int), finR ng x (trimLeftB (decDigits n) 48) = (jHigh ng ((V : Int) / 18446744073709551616) ((V : Int) % 18446744073709551616) X, jLow ((V : Int) / 18446744073709551616) ((V : Int) % 18446744073709551616) X, 0) ∧
      jOk ((V : Int) / 18446744073709551616) ((V : Int) % 18446744073709551616) X = true ∧ V < 10000000000000000000000000000000000 ∧ -6176 ≤ X ∧ X ≤ 6111 ∧ V * 10 ^ (X - x).toNat = n * 10 ^ (x - X).toNat ∧ n * 10 ^ (x - X).toNat < 340282366920938463463374607431768211456 ∧
      (jOk ((n : Int) / 18446744073709551616) ((n : Int) % 18446744073709551616) x = true → V = n ∧ X = x)) := by
  rcases Nat.eq_zero_or_pos n with rfl | hp
  · right
    have e : trimLeftB (decDigits 0) 48 = [] := trimL_zero 0
    rw [e, fin_zero]
    obtain ⟨X, hX⟩ : ∃ X, min (max x (-6176)) 6111 = X := ⟨_, rfl⟩
    refine ⟨0, X, by rw [hX]; rfl, ?_, by decide, by omega, by omega, by rw [Nat.zero_mul, Nat.zero_mul], by rw [Nat.zero_mul]; decide, fun h => ⟨rfl, ?_⟩⟩
    · unfold jOk
      rw [decide_eq_true (by decide), decide_eq_true (by omega), decide_eq_true (by omega)]; rfl
    · unfold jOk at h
      simp only [Bool.and_eq_true, decide_eq_true_eq] at h
      omega
  · have e : trimLeftB (decDigits n) 48 = decDigits n := trimL_dec hp 0
    rw [e]
    obtain ⟨z, hz⟩ := trimR_split (decDigits n)
    have hne := trimR_ne hp
    obtain ⟨c, hc⟩ : ∃ c, trimRightB (decDigits n) 48 = c := ⟨_, rfl⟩
    rw [hc] at hz hne
    have hl : (decDigits n).length = c.length + z := by rw [hz]; simp
    have hc0 : c.length ≠ 0 := fun h => hne (List.eq_nil_of_length_eq_zero h)
    have hall : c.all isDg = true := by
      have := dec_all15 n
      rw [hz, List.all_append, Bool.and_eq_true] at this
      exact this.1
    have hnv : n = decVal c * 10 ^ z := by rw [← decVal_zeros, ← hz, decVal_dec15]
    have hd39 : (decDigits n).length ≤ 39 := dec_len39 n hn
    have hjok : jOk ((n : Int) / 18446744073709551616) ((n : Int) % 18446744073709551616) x = true → (decDigits n).length ≤ 34 ∧ -6176 ≤ x ∧ x ≤ 6111 := fun h => by
      unfold jOk at h
      rw [wV_div (by omega)] at h
      simp only [Bool.and_eq_true, decide_eq_true_eq] at h
      refine ⟨?_, h.1.2, h.2⟩
      rw [decDigits_length]
      refine nDigits_of_lt 34 n (by decide) ?_
      have h2 : (10 : Nat) ^ 34 = 10000000000000000000000000000000000 := by decide
      rw [h2]
      omega
    cases hf : farOf x (decDigits n).length c.length
    · right
      obtain ⟨X, hX⟩ : ∃ X, expOf x (decDigits n).length c.length = X := ⟨_, rfl⟩
      obtain ⟨le, hle⟩ : ∃ v, leastOf x (decDigits n).length c.length = v := ⟨_, rfl⟩
      obtain ⟨mo, hmo⟩ : ∃ v, mostOf x (decDigits n).length c.length = v := ⟨_, rfl⟩
      have hX2 : X = min (max x le) mo := by rw [← hX, ← hle, ← hmo]; rfl
      have hle2 : le = max (-6176) (x + (decDigits n).length - c.length - (34 - c.length)) := by rw [← hle]; unfold leastOf; rw [if_neg hc0]
      have hmo2 : mo = min 6111 (x + (decDigits n).length - c.length) := by rw [← hmo]; unfold mostOf; rw [if_neg hc0]
      have hfar := hf
      unfold farOf at hfar
      rw [hle, hmo, Bool.or_eq_false_iff, decide_eq_false_iff_not, decide_eq_false_iff_not] at hfar
      obtain ⟨f1, f2⟩ := hfar
      obtain ⟨z', hz'⟩ : ∃ z' : Nat, x + ((decDigits n).length : Int) - (c.length : Int) - X = (z' : Int) := ⟨(x + ((decDigits n).length : Int) - (c.length : Int) - X).toNat, by omega⟩
      have hz2 : c.length + z' ≤ 34 := by omega
      obtain ⟨c1, m, hc1, hc2⟩ := decDigits_head n hp
      have hhead : (c ++ List.replicate z' 48).head? ≠ some 48 := by
        cases c with
        | nil => exact absurd rfl hne
        | cons y c' =>
          rw [hz] at hc1
          have : y = c1 := by
            have := congrArg List.head? hc1
            simpa using this
          intro h
          rw [List.cons_append, List.head?_cons] at h
          exact hc2 (this ▸ Option.some.inj h)
      have hallz : (c ++ List.replicate z' 48).all isDg = true := by
        rw [List.all_append, hall, Bool.true_and, List.all_eq_true]
        intro y hy
        rw [List.eq_of_mem_replicate hy]; rfl
      have hVlt : decVal (c ++ List.replicate z' 48) < 10 ^ 34 := by
        have h1 := decVal_lt _ (c ++ List.replicate z' 48) rfl hallz
        refine Nat.lt_of_lt_of_le h1 (Nat.pow_le_pow_right (by decide) ?_)
        rw [List.length_append, List.length_replicate]; exact hz2
      have h34 : (10 : Nat) ^ 34 = 10000000000000000000000000000000000 := by decide
      rw [h34] at hVlt
      have hV := parseOf_canon (l := c ++ List.replicate z' 48) (by rw [List.length_append]; omega) (by rw [List.length_append, List.length_replicate]; omega) hallz (by omega) (Or.inr hhead)
      have hVe := decVal_zeros c z'
      obtain ⟨V, hVV⟩ : ∃ V, decVal (c ++ List.replicate z' 48) = V := ⟨_, rfl⟩
      rw [hVV] at hV hVlt hVe
      have hcof : cofV c (x + ((decDigits n).length : Int) - (c.length : Int) - X) = (V : Int) := by
        unfold cofV coefL
        rw [hz', Int.toNat_natCast, if_neg hne, hV]; rfl
      have hfin := fin_ok (ng := ng) hc hf hX hcof
      have hpw : V * 10 ^ (X - x).toNat = n * 10 ^ (x - X).toNat := by
        rw [hVe, hnv, Nat.mul_assoc, Nat.mul_assoc, ← Nat.pow_add, ← Nat.pow_add]
        congr 2
        omega
      have hbig : n * 10 ^ (x - X).toNat < 340282366920938463463374607431768211456 := by
        by_cases hxx : x ≤ X
        · have : (x - X).toNat = 0 := by omega
          rw [this, Nat.pow_zero, Nat.mul_one]; exact hn
        · have : (X - x).toNat = 0 := by omega
          rw [this, Nat.pow_zero, Nat.mul_one] at hpw
          rw [← hpw]; omega
      refine ⟨V, X, hfin, ?_, hVlt, by omega, by omega, hpw, hbig, fun h => ?_⟩
      · unfold jOk
        rw [wV_div (by omega), decide_eq_true (by omega), decide_eq_true (by omega), decide_eq_true (by omega)]; rfl
      · obtain ⟨j1, j2, j3⟩ := hjok h
        have hXx : X = x := by omega
        refine ⟨?_, hXx⟩
        rw [hXx] at hpw
        have : (x - x).toNat = 0 := by omega
        rw [this, Nat.pow_zero, Nat.mul_one, Nat.mul_one] at hpw
        exact hpw
    · left
      refine ⟨fin_far (by rw [hc]; exact hf), ?_⟩
      cases hj : jOk ((n : Int) / 18446744073709551616) ((n : Int) % 18446744073709551616) x with
      | false => rfl
      | true =>
        exfalso
        obtain ⟨j1, j2, j3⟩ := hjok hj
        unfold farOf leastOf mostOf at hf
        rw [if_neg hc0, if_neg hc0, Bool.or_eq_true, decide_eq_true_eq, decide_eq_true_eq] at hf
        omega
/-- The text of digits and an exponent: what is read of it. -/
theorem just_text (ng : Bool) (n : Nat) (x : Int) (h39 : (decDigits n).length ≤ 39) (x0 : -7000 ≤ x) (x1 : x ≤ 7000) :
    decP ((if ng then [45] else []) ++ (decDigits n ++ 101 :: itoa x)) = finR ng x (trimLeftB (decDigits n) 48) ∧ ((if ng then [45] else []) ++ (decDigits n ++ 101 :: itoa x)).length ≤ 60 ∧ (∀ c ∈ (if ng then [45] else []) ++ (decDigits n ++ 101 :: itoa x), c.toNat < 128) := by
  have hsg : (if ng then [45] else [] : List UInt8) = [] ∨ (if ng then [45] else [] : List UInt8) = [45] := by cases ng <;> simp
  obtain ⟨sg, hs⟩ : ∃ sg : List UInt8, (if ng then [45] else [] : List UInt8) = sg := ⟨_, rfl⟩
  have hng : decide (sg = [45]) = ng := by rw [← hs]; cases ng <;> rfl
  rw [hs] at hsg ⊢
  have hsl : sg.length ≤ 1 := by rcases hsg with rfl | rfl <;> simp
  have hsa : ∀ c ∈ sg, c.toNat < 128 := by rcases hsg with rfl | rfl <;> decide
  obtain ⟨c, r, hcr, c1, c2⟩ := dec_head n
  have hall := dec_digs n
  obtain ⟨g1, g2⟩ := digs_one hall
  have hsm : ∀ j : Nat, j ≤ 30000 → decVal (decDigits j) ≤ 1000000 ∧ (decDigits j).length ≤ 5 := fun j hj => ⟨by rw [decVal_dec15]; omega, by rw [decDigits_length]; exact nDigits_of_lt 5 _ (by decide) (by omega)⟩
  have key : ∀ t : List UInt8, mantL t = decDigits n → expOk t = true → expV t = x → (∃ r', t = c :: r') → (t.length ≤ 59) → decP (sg ++ t) = finR ng x (trimLeftB (decDigits n) 48) := by
    intro t m1 m2 m3 hr htl
    obtain ⟨r', rfl⟩ := hr
    obtain ⟨hst, hh⟩ := strip_sg hsg (r := r') c1 c2
    obtain ⟨a1, a2, a3⟩ := num_of hst m1 m2 m3 g1 g2 hall (by rw [hcr]; simp)
    obtain ⟨n1, n2, n3⟩ := not_names hsg (r := r') c1 c2
    unfold decP
    rw [if_neg n1, if_neg n2, if_neg n3, if_neg (by rw [a1]; decide), if_neg (by rw [List.length_append]; omega), hh, hng, a2, a3]
    congr 1
    exact Int.sub_zero x
  by_cases hx : x < 0
  · have hi : itoa x = 45 :: decDigits x.natAbs := by unfold itoa; rw [if_pos hx]
    obtain ⟨v1, v2⟩ := hsm x.natAbs (by omega)
    obtain ⟨m1, m2, m3⟩ := exp_mant (x := 101) (s := 45) (noE_dig hall) (by decide) (Or.inr rfl) (dec_digs x.natAbs) (decDigits_nil _) v1
    rw [hi]
    refine ⟨key _ m1 m2 ?_ ⟨_, by rw [hcr]; rfl⟩ ?_, ?_, ?_⟩
    · rw [m3, if_pos rfl, decVal_dec15]; omega
    · simp only [List.length_append, List.length_cons]; omega
    · simp only [List.length_append, List.length_cons]; omega
    · intro y hy
      rcases List.mem_append.1 hy with h | h
      · exact hsa y h
      · rcases List.mem_append.1 h with h | h
        · exact dig_ascii hall y h
        · rcases List.mem_cons.1 h with rfl | h
          · decide
          · rcases List.mem_cons.1 h with rfl | h
            · decide
            · exact dig_ascii (dec_digs _) y h
  · have hi : itoa x = decDigits x.toNat := by unfold itoa; rw [if_neg hx]
    obtain ⟨v1, v2⟩ := hsm x.toNat (by omega)
    obtain ⟨m1, m2, m3⟩ := exp_mant0 (x := 101) (noE_dig hall) (by decide) (dec_digs x.toNat) (decDigits_nil _) v1
    rw [hi]
    refine ⟨key _ m1 m2 ?_ ⟨_, by rw [hcr]; rfl⟩ ?_, ?_, ?_⟩
    · rw [m3, decVal_dec15]; omega
    · simp only [List.length_append, List.length_cons]; omega
    · simp only [List.length_append, List.length_cons]; omega
    · intro y hy
      rcases List.mem_append.1 hy with h | h
      · exact hsa y h
      · rcases List.mem_append.1 h with h | h
        · exact dig_ascii hall y h
        · rcases List.mem_cons.1 h with rfl | h
          · decide
          · exact dig_ascii (dec_digs _) y h
end Go.Proofs.YtpgooajifehbbaaDoor
