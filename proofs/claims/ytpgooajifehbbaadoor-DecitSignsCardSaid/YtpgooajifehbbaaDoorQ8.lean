/- Digits times a power of ten, as a decimal; a decimal's text is read as the decimal. Plain laws, no program. -/
import Derived.Test.YtpgooajifehbbaaDoorQ7
namespace Go.Proofs.YtpgooajifehbbaaDoor
open Go.Lib
set_option linter.unusedSimpArgs false
set_option linter.unusedVariables false

theorem dec_digs (n : Nat) : (decDigits n).all isD = true := dec_all15 n
theorem dec_head (n : Nat) : ∃ c r, decDigits n = c :: r ∧ 48 ≤ c.toNat ∧ c.toNat ≤ 57 := by
  have h := dec_digs n
  cases hd : decDigits n with
  | nil => exact absurd hd (decDigits_nil n)
  | cons c r =>
    rw [hd] at h
    obtain ⟨h1, h2⟩ := dig_ne (List.all_eq_true.1 h c List.mem_cons_self)
    exact ⟨c, r, rfl, h1, h2⟩
theorem trimL_dec {n : Nat} (h : 0 < n) (k : Nat) : trimLeftB (List.replicate k 48 ++ decDigits n) 48 = decDigits n := by
  obtain ⟨c, m, hc, hne⟩ := decDigits_head n h
  have h2 : trimLeftB (decDigits n) 48 = decDigits n := by
    rw [hc]
    unfold trimLeftB
    rw [List.dropWhile_cons, if_neg (by simp [hne])]
  induction k with
  | zero => exact h2
  | succ k ih =>
    rw [List.replicate_succ, List.cons_append]
    unfold trimLeftB at ih ⊢
    rw [List.dropWhile_cons, if_pos (by simp)]
    exact ih
theorem trimL_zero (k : Nat) : trimLeftB (List.replicate k 48 ++ decDigits 0) 48 = [] := by
  rw [decDigits_one (by decide)]
  induction k with
  | zero => rfl
  | succ k ih =>
    rw [List.replicate_succ, List.cons_append]
    unfold trimLeftB at ih ⊢
    rw [List.dropWhile_cons, if_pos (by simp)]
    exact ih
theorem trimR_split (l : List UInt8) : ∃ z, l = trimRightB l 48 ++ List.replicate z 48 := by
  unfold trimRightB
  have h : ∀ m : List UInt8, ∃ z, m = List.replicate z 48 ++ m.dropWhile (· == 48) := by
    intro m
    induction m with
    | nil => exact ⟨0, rfl⟩
    | cons x m ih =>
      by_cases hx : (x == 48) = true
      · obtain ⟨z, hz⟩ := ih
        refine ⟨z + 1, ?_⟩
        rw [List.dropWhile_cons, if_pos hx, List.replicate_succ, List.cons_append, ← hz, beq_iff_eq.1 hx]
      · exact ⟨0, by rw [List.dropWhile_cons, if_neg hx]; rfl⟩
  obtain ⟨z, hz⟩ := h l.reverse
  refine ⟨z, ?_⟩
  have h2 := congrArg List.reverse hz
  rw [List.reverse_reverse, List.reverse_append, List.reverse_replicate] at h2
  exact h2
theorem trimR_ne {n : Nat} (h : 0 < n) : trimRightB (decDigits n) 48 ≠ [] := by
  intro e
  obtain ⟨z, hz⟩ := trimR_split (decDigits n)
  rw [e, List.nil_append] at hz
  obtain ⟨c, m, hc, hne⟩ := decDigits_head n h
  have hm : c ∈ List.replicate z (48 : UInt8) := by rw [← hz, hc]; exact List.mem_cons_self
  exact hne (List.eq_of_mem_replicate hm)
/-- A number of at most 34 digits at an exponent that there is: itself. -/
theorem fin_back {n : Nat} (hn : 0 < n) (h34 : (decDigits n).length ≤ 34) (ng : Bool) {x : Int} (x0 : -6176 ≤ x) (x1 : x ≤ 6111) :
    finR ng x (decDigits n) = (jHigh ng ((n : Int) / 18446744073709551616) ((n : Int) % 18446744073709551616) x, jLow ((n : Int) / 18446744073709551616) ((n : Int) % 18446744073709551616) x, 0) := by
  obtain ⟨z, hz⟩ := trimR_split (decDigits n)
  have hne := trimR_ne hn
  obtain ⟨c, hc⟩ : ∃ c, trimRightB (decDigits n) 48 = c := ⟨_, rfl⟩
  rw [hc] at hz hne
  have hl : (decDigits n).length = c.length + z := by rw [hz]; simp
  have hc0 : c.length ≠ 0 := fun h => hne (List.eq_nil_of_length_eq_zero h)
  have hle : leastOf x (decDigits n).length c.length ≤ x := by
    unfold leastOf
    rw [if_neg hc0]
    omega
  have hmo : x ≤ mostOf x (decDigits n).length c.length := by
    unfold mostOf
    rw [if_neg hc0]
    omega
  have hfar : farOf x (decDigits n).length c.length = false := by
    unfold farOf
    rw [decide_eq_false (by omega), decide_eq_false (by omega)]; rfl
  have hx : expOf x (decDigits n).length c.length = x := by
    unfold expOf
    omega
  have hlt : n < 340282366920938463463374607431768211456 := by
    have h1 := decVal_dec15 n
    have h2 : (decDigits n).length ≤ 38 := by omega
    rw [decDigits_length] at h2
    have h3 := lt_pow_nDigits n
    have h4 : 10 ^ nDigits n ≤ 10 ^ 38 := Nat.pow_le_pow_right (by decide) h2
    have h5 : 10 ^ 38 < 340282366920938463463374607431768211456 := by decide
    omega
  refine fin_ok hc hfar hx ?_
  unfold cofV coefL
  rw [if_neg hne]
  have e : (x + ((decDigits n).length : Int) - (c.length : Int) - x).toNat = z := by omega
  rw [e, ← hz, parseOf_dec15 n hlt]; rfl
theorem fin_zero (ng : Bool) (q : Int) : finR ng q [] = (jHigh ng 0 0 (min (max q (-6176)) 6111), jLow 0 0 (min (max q (-6176)) 6111), 0) := by
  have hV : ∀ z, cofV [] z = 0 := fun z => by unfold cofV coefL; rw [if_pos rfl, par48]; rfl
  exact fin_ok (V := 0) (core := []) rfl rfl rfl (hV _)
theorem strip_sg {sg : List UInt8} (hsg : sg = [] ∨ sg = [45]) {c : UInt8} {r : List UInt8} (h1 : 48 ≤ c.toNat) (h2 : c.toNat ≤ 57) : stripS (sg ++ c :: r) = c :: r ∧ hdIs (sg ++ c :: r) 45 45 = decide (sg = [45]) := by
  rcases hsg with rfl | rfl
  · refine ⟨?_, ?_⟩
    · show (if ((c.toNat : Int) == 43 || (c.toNat : Int) == 45) then _ else _) = _
      rw [beq_eq_false_iff_ne.2 (by omega), beq_eq_false_iff_ne.2 (by omega)]; rfl
    · show ((c.toNat : Int) == 45 || (c.toNat : Int) == 45) = _
      rw [beq_eq_false_iff_ne.2 (by omega)]; rfl
  · exact ⟨rfl, rfl⟩
theorem not_names {sg : List UInt8} (hsg : sg = [] ∨ sg = [45]) {c : UInt8} {r : List UInt8} (h1 : 48 ≤ c.toNat) (h2 : c.toNat ≤ 57) : sg ++ c :: r ≠ [78, 97, 78] ∧ sg ++ c :: r ≠ [73, 110, 102, 105, 110, 105, 116, 121] ∧ sg ++ c :: r ≠ [45, 73, 110, 102, 105, 110, 105, 116, 121] := by
  rcases hsg with rfl | rfl
  · refine ⟨fun h => ?_, fun h => ?_, fun h => ?_⟩
    · injection h with h _; subst h; simp at h2
    · injection h with h _; subst h; simp at h2
    · injection h with h3 h4; subst h3; simp at h1
  · refine ⟨fun h => ?_, fun h => ?_, fun h => ?_⟩
    · injection h with h _; cases h
    · injection h with h _; cases h
    · injection h with _ h; injection h with h _; subst h; simp at h2
theorem laid_num {sg : List UInt8} (hsg : sg = [] ∨ sg = [45]) (n : Nat) (x : Int) (h39 : (decDigits n).length ≤ 39) (x0 : -10000 ≤ x) (x1 : x ≤ 20000) :
    ∃ (c : UInt8) (r : List UInt8) (k : Nat), laidL (decDigits n) x = c :: r ∧ 48 ≤ c.toNat ∧ c.toNat ≤ 57 ∧ numOk (sg ++ laidL (decDigits n) x) = true ∧ qOf (sg ++ laidL (decDigits n) x) = x ∧ dOf (sg ++ laidL (decDigits n) x) = trimLeftB (List.replicate k 48 ++ decDigits n) 48 := by
  obtain ⟨c, r, hcr, c1, c2⟩ := dec_head n
  have hall := dec_digs n
  obtain ⟨D, hD⟩ : ∃ D, decDigits n = D := ⟨_, rfl⟩
  rw [hD] at hcr hall h39 ⊢
  by_cases hx : x = 0
  · subst hx
    have hl : laidL D 0 = D := by unfold laidL; rw [if_pos rfl]
    rw [hl]
    have hst : stripS (sg ++ D) = D := by rw [hcr]; exact (strip_sg hsg c1 c2).1
    obtain ⟨m1, m2, m3⟩ := plain_mant (noE_dig hall)
    obtain ⟨g1, g2⟩ := digs_one hall
    obtain ⟨a1, a2, a3⟩ := num_of hst m1 m2 m3 g1 g2 hall (by rw [hcr]; simp)
    exact ⟨c, r, 0, hcr, c1, c2, a1, by rw [a2]; rfl, by rw [a3]; rfl⟩
  · by_cases hc : x < 0 ∧ -6 ≤ x + D.length - 1
    · obtain ⟨k, hk⟩ : ∃ k, (1 - x - D.length).toNat = k := ⟨_, rfl⟩
      obtain ⟨P, hP⟩ : ∃ P, padL D x = P := ⟨_, rfl⟩
      have hP2 : P = List.replicate k 48 ++ D := by rw [← hP]; unfold padL; rw [hk]
      have hPl : P.length = k + D.length := by rw [hP2]; simp
      have hDl : 1 ≤ D.length := by rw [hcr]; simp
      obtain ⟨m, hm⟩ : ∃ m, ((P.length : Int) + x).toNat = m := ⟨_, rfl⟩
      have hm1 : 1 ≤ m := by omega
      have hm2 : m ≤ P.length := by omega
      have hl : laidL D x = P.take m ++ 46 :: P.drop m := by unfold laidL; rw [if_neg hx, if_pos hc, hP, hm]
      have hPa : P.all isD = true := by
        rw [hP2, List.all_append, hall, Bool.and_true, List.all_eq_true]
        intro y hy
        rw [List.eq_of_mem_replicate hy]; rfl
      have hta : (P.take m).all isD = true := List.all_eq_true.2 (fun y hy => List.all_eq_true.1 hPa y (List.mem_of_mem_take hy))
      have hda : (P.drop m).all isD = true := List.all_eq_true.2 (fun y hy => List.all_eq_true.1 hPa y (List.mem_of_mem_drop hy))
      obtain ⟨c', r', hcr'⟩ : ∃ c' r', P.take m = c' :: r' := by
        cases hq : P.take m with
        | nil =>
          have := congrArg List.length hq
          rw [List.length_take, List.length_nil] at this
          omega
        | cons c' r' => exact ⟨c', r', rfl⟩
      have hc' := dig_ne (List.all_eq_true.1 hta c' (by rw [hcr']; exact List.mem_cons_self))
      rw [hl]
      have hT : P.take m ++ 46 :: P.drop m = c' :: (r' ++ 46 :: P.drop m) := by rw [hcr']; rfl
      have hst : stripS (sg ++ (P.take m ++ 46 :: P.drop m)) = P.take m ++ 46 :: P.drop m := by rw [hT]; exact (strip_sg hsg hc'.1 hc'.2).1
      have hno : NoE (P.take m ++ 46 :: P.drop m) := noE_app (noE_dig hta) (noE_app noE_pt (noE_dig hda))
      obtain ⟨m1, m2, m3⟩ := plain_mant hno
      obtain ⟨g1, g2⟩ := digs_two (b := P.drop m) hta
      rw [List.take_append_drop] at g1
      obtain ⟨a1, a2, a3⟩ := num_of hst m1 m2 m3 g1 g2 hPa (by intro e; rw [e] at hPl; simp at hPl; omega)
      refine ⟨c', _, k, hT, hc'.1, hc'.2, a1, ?_, by rw [a3, hP2]⟩
      rw [a2, List.length_drop]
      omega
    · obtain ⟨A, hA⟩ : ∃ A : Int, x + D.length - 1 = A := ⟨_, rfl⟩
      have hl : laidL D x = (D.take 1 ++ (if 1 < D.length then 46 :: D.drop 1 else [])) ++ (if A < 0 then 69 :: 45 :: decDigits (-A).toNat else 69 :: 43 :: decDigits A.toNat) := by
        unfold laidL; rw [if_neg hx, hA, if_neg (by rw [← hA]; exact hc)]
      have hDl : D.length = r.length + 1 := by rw [hcr]; simp
      have hAb : -10000 ≤ A ∧ A ≤ 30000 := by omega
      have hca : isD c = true := List.all_eq_true.1 hall c (by rw [hcr]; exact List.mem_cons_self)
      have hra : r.all isD = true := List.all_eq_true.2 (fun y hy => List.all_eq_true.1 hall y (by rw [hcr]; exact List.mem_cons_of_mem _ hy))
      obtain ⟨M, hM⟩ : ∃ M, D.take 1 ++ (if 1 < D.length then 46 :: D.drop 1 else []) = M := ⟨_, rfl⟩
      have hMM : NoE M ∧ digL M = D ∧ behL M = r.length ∧ ∃ r'', M = c :: r'' := by
        rw [← hM, hcr]
        by_cases h1 : 1 < (c :: r).length
        · rw [if_pos h1]
          have hc1 : ([c] : List UInt8).all isD = true := by rw [List.all_cons, hca]; rfl
          obtain ⟨g1, g2⟩ := digs_two (b := r) hc1
          exact ⟨noE_app (noE_dig hc1) (noE_app noE_pt (noE_dig hra)), g1, g2, _, rfl⟩
        · rw [if_neg h1]
          have hr0 : r = [] := by
            cases r with
            | nil => rfl
            | cons => simp at h1
          subst hr0
          have hc1 : ([c] : List UInt8).all isD = true := by rw [List.all_cons, hca]; rfl
          obtain ⟨g1, g2⟩ := digs_one hc1
          exact ⟨noE_dig hc1, g1, g2, _, rfl⟩
      obtain ⟨hno, g1, g2, r'', hMc⟩ := hMM
      rw [hM] at hl
      have hsm : ∀ j : Nat, j ≤ 30000 → decVal (decDigits j) ≤ 1000000 := fun j hj => by rw [decVal_dec15]; omega
      by_cases hA0 : A < 0
      · rw [if_pos hA0] at hl
        rw [hl]
        have hst : stripS (sg ++ (M ++ 69 :: 45 :: decDigits (-A).toNat)) = M ++ 69 :: 45 :: decDigits (-A).toNat := by rw [hMc]; exact (strip_sg hsg c1 c2).1
        obtain ⟨m1, m2, m3⟩ := exp_mant (x := 69) (s := 45) hno (by decide) (Or.inr rfl) (dec_digs (-A).toNat) (decDigits_nil _) (hsm _ (by omega))
        obtain ⟨a1, a2, a3⟩ := num_of hst m1 m2 m3 g1 g2 hall (by rw [hcr]; simp)
        refine ⟨c, _, 0, by rw [hMc]; rfl, c1, c2, a1, ?_, by rw [a3]; rfl⟩
        rw [a2, if_pos rfl, decVal_dec15]
        omega
      · rw [if_neg hA0] at hl
        rw [hl]
        have hst : stripS (sg ++ (M ++ 69 :: 43 :: decDigits A.toNat)) = M ++ 69 :: 43 :: decDigits A.toNat := by rw [hMc]; exact (strip_sg hsg c1 c2).1
        obtain ⟨m1, m2, m3⟩ := exp_mant (x := 69) (s := 43) hno (by decide) (Or.inl rfl) (dec_digs A.toNat) (decDigits_nil _) (hsm _ (by omega))
        obtain ⟨a1, a2, a3⟩ := num_of hst m1 m2 m3 g1 g2 hall (by rw [hcr]; simp)
        refine ⟨c, _, 0, by rw [hMc]; rfl, c1, c2, a1, ?_, by rw [a3]; rfl⟩
        rw [a2, if_neg (by decide), decVal_dec15]
        omega
/-- A decimal's text is read as the decimal. -/
theorem decP_back (ng : Bool) (n : Nat) (x : Int) (h34 : (decDigits n).length ≤ 34) (x0 : -6176 ≤ x) (x1 : x ≤ 6111) :
    decP (decT 1 ng n x) = (jHigh ng ((n : Int) / 18446744073709551616) ((n : Int) % 18446744073709551616) x, jLow ((n : Int) / 18446744073709551616) ((n : Int) % 18446744073709551616) x, 0) := by
  have hsg : (if ng then [45] else [] : List UInt8) = [] ∨ (if ng then [45] else [] : List UInt8) = [45] := by cases ng <;> simp
  have ht : decT 1 ng n x = (if ng then [45] else []) ++ laidL (decDigits n) x := by cases ng <;> rfl
  rw [ht]
  obtain ⟨sg, hs⟩ : ∃ sg : List UInt8, (if ng then [45] else [] : List UInt8) = sg := ⟨_, rfl⟩
  have hng : decide (sg = [45]) = ng := by rw [← hs]; cases ng <;> rfl
  rw [hs] at hsg ⊢
  obtain ⟨c, r, k, h1, c1, c2, hok, hq, hd⟩ := laid_num hsg n x (by omega) (by omega) (by omega)
  have hlen := laidL_len (decDigits n) x (by
    have := decDigits_nil n
    cases hq : decDigits n with
    | nil => exact absurd hq this
    | cons => simp) (by omega) (by omega) (by omega)
  have hsl : sg.length ≤ 1 := by rcases hsg with rfl | rfl <;> simp
  obtain ⟨n1, n2, n3⟩ := not_names hsg (r := r) c1 c2
  have hh := (strip_sg hsg (r := r) c1 c2).2
  rw [← h1] at n1 n2 n3 hh
  unfold decP
  rw [if_neg n1, if_neg n2, if_neg n3, if_neg (by rw [hok]; decide), if_neg (by rw [List.length_append]; omega), hh, hng, hq, hd]
  rcases Nat.eq_zero_or_pos n with rfl | hn
  · rw [trimL_zero, fin_zero]
    have : min (max x (-6176)) 6111 = x := by omega
    rw [this]; rfl
  · rw [trimL_dec hn, fin_back hn h34 ng x0 x1]
end Go.Proofs.YtpgooajifehbbaaDoor
