/- The walk of DecitBack. Condition: the table of powers of 10 is laid; some integer stands at the library's MaxLen. -/
import Derived.Test.YtpgooajifehbbaaDoorQ6
import Derived.Test.YtpgooajifehbbaaDoorQ8
namespace Go.Proofs.YtpgooajifehbbaaDoor
open Go.RowKit
set_option linter.unusedSimpArgs false
set_option linter.unusedVariables false

theorem dig_ascii {l : List UInt8} (h : l.all isD = true) : ∀ c ∈ l, c.toNat < 128 := fun c hc => by
  have := dig_ne (List.all_eq_true.1 h c hc)
  omega
theorem laid_ascii (n : Nat) (x : Int) : ∀ c ∈ laidL (Lib.decDigits n) x, c.toNat < 128 := by
  have hd := dig_ascii (dec_digs n)
  have h48 : ∀ k, ∀ c ∈ List.replicate k (48 : UInt8), c.toNat < 128 := fun k c hc => by rw [List.eq_of_mem_replicate hc]; decide
  have hp : ∀ c ∈ padL (Lib.decDigits n) x, c.toNat < 128 := fun c hc => by
    unfold padL at hc
    exact (List.mem_append.1 hc).elim (h48 _ c) (hd c)
  intro c hc
  unfold laidL at hc
  split at hc
  · exact hd c hc
  · split at hc
    · rcases List.mem_append.1 hc with h | h
      · exact hp c (List.mem_of_mem_take h)
      · rcases List.mem_cons.1 h with rfl | h
        · decide
        · exact hp c (List.mem_of_mem_drop h)
    · rcases List.mem_append.1 hc with h | h
      · rcases List.mem_append.1 h with h | h
        · exact hd c (List.mem_of_mem_take h)
        · split at h
          · rcases List.mem_cons.1 h with rfl | h
            · decide
            · exact hd c (List.mem_of_mem_drop h)
          · cases h
      · split at h
        all_goals
          rcases List.mem_cons.1 h with rfl | h
          · decide
          · rcases List.mem_cons.1 h with rfl | h
            · decide
            · exact dig_ascii (dec_digs _) c h
theorem decT_ascii (k : Int) (ng : Bool) (n : Nat) (x : Int) : ∀ c ∈ decT k ng n x, c.toNat < 128 := by
  intro c hc
  have hN : ∀ c ∈ ([78, 97, 78] : List UInt8), c.toNat < 128 := by decide
  have hI : ∀ c ∈ ([73, 110, 102, 105, 110, 105, 116, 121] : List UInt8), c.toNat < 128 := by decide
  unfold decT at hc
  by_cases h3 : k = 3
  · rw [if_pos h3] at hc
    exact hN c hc
  · rw [if_neg h3] at hc
    rcases List.mem_append.1 hc with h | h
    · cases ng
      · cases h
      · rw [List.mem_singleton.1 h]; decide
    · by_cases h2 : k = 2
      · rw [if_pos h2] at h
        exact hI c h
      · rw [if_neg h2] at h
        exact laid_ascii n x c h
theorem decT_len (k : Int) (ng : Bool) (n : Nat) (x : Int) (h39 : (Lib.decDigits n).length ≤ 39) (x0 : -10000 ≤ x) (x1 : x ≤ 20000) : (decT k ng n x).length ≤ 81 := by
  have h1 := laidL_len (Lib.decDigits n) x (by
    cases hq : Lib.decDigits n with
    | nil => exact absurd hq (decDigits_nil n)
    | cons => simp) h39 x0 x1
  unfold decT
  by_cases h3 : k = 3
  · rw [if_pos h3]; simp
  · rw [if_neg h3, List.length_append]
    have h2 : (if ng = true then [45] else [] : List UInt8).length ≤ 1 := by cases ng <;> simp
    by_cases h4 : k = 2
    · rw [if_pos h4]; simp only [List.length_cons, List.length_nil] at *; omega
    · rw [if_neg h4]; omega
theorem one_exp {a : Int} (a0 : 0 ≤ a) (h : sKind a = 1) : -6176 ≤ sExp a ∧ sExp a ≤ 6111 := by
  unfold sKind at h
  unfold sExp
  split at h
  · cases h
  · split at h
    · cases h
    · rename_i h1 h2
      split
      · omega
      · split <;> omega
theorem one_small {a b : Int} (b0 : 0 ≤ b) (b1 : b ≤ 18446744073709551615) (a0 : 0 ≤ a) : (Lib.decDigits (wN (sHigh a b) (sLow a b))).length ≤ 34 := by
  rw [Lib.decDigits_length]
  refine nDigits_of_lt 34 _ (by decide) ?_
  have h : wV (sHigh a b) (sLow a b) < 10000000000000000000000000000000000 := by
    unfold sHigh sLow
    split
    · decide
    · split
      · decide
      · rename_i h; omega
  have h2 : (10 : Nat) ^ 34 = 10000000000000000000000000000000000 := by decide
  rw [h2]
  unfold wN
  omega
/-- What is read of a decimal's text. -/
def bkH (a b : Int) : Int := (decP (decT (sKind a) (sNeg a) (wN (sHigh a b) (sLow a b)) (sExp a))).1
def bkL (a b : Int) : Int := (decP (decT (sKind a) (sNeg a) (wN (sHigh a b) (sLow a b)) (sExp a))).2.1
def bkE (a b : Int) : Int := (decP (decT (sKind a) (sNeg a) (wN (sHigh a b) (sLow a b)) (sExp a))).2.2
theorem back_one {a b : Int} (a0 : 0 ≤ a) (b0 : 0 ≤ b) (b1 : b ≤ 18446744073709551615) (h : sKind a = 1) : bkH a b = jHigh (sNeg a) (sHigh a b) (sLow a b) (sExp a) ∧ bkL a b = jLow (sHigh a b) (sLow a b) (sExp a) ∧ bkE a b = 0 := by
  obtain ⟨s0, s1, s2, s3, s4, s5⟩ := split_bounds a b b0 b1
  obtain ⟨e0, e1⟩ := one_exp a0 h
  have hb := decP_back (sNeg a) (wN (sHigh a b) (sLow a b)) (sExp a) (one_small b0 b1 a0) e0 e1
  have hN : ((wN (sHigh a b) (sLow a b) : Nat) : Int) = sHigh a b * 18446744073709551616 + sLow a b := by
    unfold wN wV; omega
  rw [hN] at hb
  have h1 : (sHigh a b * 18446744073709551616 + sLow a b) / 18446744073709551616 = sHigh a b := by omega
  have h2 : (sHigh a b * 18446744073709551616 + sLow a b) % 18446744073709551616 = sLow a b := by omega
  rw [h1, h2] at hb
  unfold bkH bkL bkE
  rw [h, hb]
  exact ⟨rfl, rfl, rfl⟩
theorem back_two {a b : Int} (h : sKind a = 2) : bkH a b = (if sNeg a then 17870283321406128128 else 8646911284551352320) ∧ bkL a b = 0 ∧ bkE a b = 0 := by
  unfold bkH bkL bkE
  rw [h]
  cases sNeg a <;> exact ⟨rfl, rfl, rfl⟩
theorem back_three {a b : Int} (h : sKind a = 3) : bkH a b = 8935141660703064064 ∧ bkL a b = 0 ∧ bkE a b = 0 := by
  unfold bkH bkL bkE
  rw [h]
  exact ⟨rfl, rfl, rfl⟩
theorem back_ok {a b : Int} (a0 : 0 ≤ a) (b0 : 0 ≤ b) (b1 : b ≤ 18446744073709551615) : bkE a b = 0 := by
  rcases kind_cases a with h | h | h
  · exact (back_three h).2.2
  · exact (back_two h).2.2
  · exact (back_one a0 b0 b1 h).2.2
theorem back_same {a b : Int} (a0 : 0 ≤ a) (a1 : a ≤ 18446744073709551615) (b0 : 0 ≤ b) (b1 : b ≤ 18446744073709551615) (hp : pPlain a b = true) : bkH a b = a ∧ bkL a b = b := by
  unfold pPlain at hp
  rcases kind_cases a with h | h | h
  · obtain ⟨h1, h2, _⟩ := back_three (b := b) h
    rw [if_pos h] at hp
    simp only [Bool.and_eq_true, decide_eq_true_eq] at hp
    rw [h1, h2]
    exact ⟨hp.1.symm, hp.2.symm⟩
  · obtain ⟨h1, h2, _⟩ := back_two (b := b) h
    rw [if_neg (by rw [h]; decide), if_pos h] at hp
    simp only [Bool.and_eq_true, decide_eq_true_eq] at hp
    rw [h1, h2]
    refine ⟨?_, hp.2.symm⟩
    cases hs : sNeg a
    · unfold sNeg at hs
      have := beq_eq_false_iff_ne.1 hs
      rw [if_neg (by decide)]
      omega
    · unfold sNeg at hs
      have := beq_iff_eq.1 hs
      rw [if_pos rfl]
      omega
  · obtain ⟨h1, h2, _⟩ := back_one a0 b0 b1 h
    rw [if_neg (by rw [h]; decide), if_neg (by rw [h]; decide)] at hp
    simp only [Bool.and_eq_true, decide_eq_true_eq] at hp
    rw [h1, h2]
    exact hp.2
theorem back_plain2 {a b : Int} (h : ¬ sKind a = 1) : pPlain (bkH a b) (bkL a b) = true := by
  rcases kind_cases a with h1 | h1 | h1
  · obtain ⟨h2, h3, _⟩ := back_three (b := b) h1
    rw [h2, h3]; decide
  · obtain ⟨h2, h3, _⟩ := back_two (b := b) h1
    rw [h2, h3]
    cases sNeg a <;> decide
  · exact absurd h1 h
theorem bk_bd {a b : Int} (a0 : 0 ≤ a) (a1 : a ≤ 18446744073709551615) (b0 : 0 ≤ b) (b1 : b ≤ 18446744073709551615) (h : ¬ sKind a = 1) : 0 ≤ bkH a b ∧ bkH a b ≤ 18446744073709551615 ∧ 0 ≤ bkL a b ∧ bkL a b ≤ 18446744073709551615 := by
  rcases kind_cases a with h1 | h1 | h1
  · obtain ⟨h2, h3, _⟩ := back_three (b := b) h1
    rw [h2, h3]; decide
  · obtain ⟨h2, h3, _⟩ := back_two (b := b) h1
    rw [h2, h3]
    cases sNeg a <;> decide
  · exact absurd h1 h
set_option maxHeartbeats 3200000 in
set_option maxRecDepth 100000 in
theorem decitBack_walk (a b : Int) (a0 : 0 ≤ a) (a1 : a ≤ 18446744073709551615) (b0 : 0 ≤ b) (b1 : b ≤ 18446744073709551615) (w : World) (hL : Laid15 w) :
    Calls Tryd.prog 5 #[.int .u64 a, .int .u64 b] w fun e w' => e = .returned (.bool true) ∧ Below w.heap.size w w' := by
  have HL := Lib.hid hL
  clear hL
  have AW := Lib.hid awake15
  obtain ⟨s0, s1, s2, s3, s4, s5⟩ := split_bounds a b b0 b1
  have hxb := sExp_bd a a0
  have TX0 := fun (w : World) (h : PowTab w) => decitText_any a b a0 a1 b0 b1 w h
  obtain ⟨O, hO⟩ : ∃ O : ByteArray, (⟨(decT (sKind a) (sNeg a) (wN (sHigh a b) (sLow a b)) (sExp a)).toArray⟩ : ByteArray) = O := ⟨_, rfl⟩
  have hol : O.data.toList = decT (sKind a) (sNeg a) (wN (sHigh a b) (sLow a b)) (sExp a) := by rw [← hO]
  rw [hO] at TX0
  have hos : O.size ≤ 81 := by
    have e : O.data.toList.length = O.size := by simp
    rw [← e, hol]
    exact decT_len _ _ _ _ (wN_digits s0 s1 s2 s3).2 hxb.1 hxb.2
  have hoa : ∀ c ∈ O.data.toList, c.toNat < 128 := by rw [hol]; exact decT_ascii _ _ _ _
  have PA0 := fun (w : World) (h : MaxAt w) => decParse_any O (by omega) (idx_ascii O (by omega) hoa) (fun _ => idx_ascii _ (by rw [ByteArray.size_extract]; omega) (fun c hc => by
    rw [ext_rest] at hc
    exact hoa c (List.mem_of_mem_drop hc))) w h
  have PA : Hid (∀ (w : World), MaxAt w → Calls Tryd.prog 11 #[.string O] w fun e w' => e = .returned (.tuple #[.int .u64 (bkH a b), .int .u64 (bkL a b), .int .i64 0]) ∧ Below w.heap.size w w') := Lib.hid (by
    intro w h
    refine (PA0 w h).mono ?_
    rintro e w' ⟨hr, hb⟩
    refine ⟨?_, hb⟩
    unfold DecRet at hr
    rw [hr, hol]
    have := back_ok a0 b0 b1
    show Ending.returned (.tuple #[.int .u64 (bkH a b), .int .u64 (bkL a b), .int .i64 (bkE a b)]) = _
    rw [this])
  have TX := Lib.hid TX0
  have SP := Lib.hid (fun (w : World) => refSplit_any a b a0 a1 b0 b1 w)
  have PL := Lib.hid (fun (w : World) => refPlain_any a b a0 a1 b0 b1 w)
  have JN := Lib.hid (fun (w : World) => refJoin_any (sNeg a) (sHigh a b) (sLow a b) (sExp a) s0 s1 s2 s3 s4 s5 w)
  clear TX0 PA0 hO hol hos hoa hxb
  cases hp : pPlain a b
  · rw [hp] at PL
    by_cases hk : sKind a = 1
    · obtain ⟨h1, h2, _⟩ := back_one a0 b0 b1 hk
      rw [h1, h2] at PA
      rw [hk] at SP
      generalize jHigh (sNeg a) (sHigh a b) (sLow a b) (sExp a) = jh at *
      generalize jLow (sHigh a b) (sLow a b) (sExp a) = jl at *
      generalize jOk (sHigh a b) (sLow a b) (sExp a) = jo at *
      generalize sHigh a b = sh at *
      generalize sLow a b = sl at *
      generalize sNeg a = sn at *
      generalize sExp a = sx at *
      clear hp hk h1 h2 s0 s1 s2 s3 s4 s5
      go_enter Tryd.func5, Tryd.ntmps5
      go_wp2_with fail
      with_reducible refine (AW.out _ HL.out).mono ?_
      rintro e w1 ⟨rfl, hb1⟩
      have hw1 : Below w.heap.size w w1 := Below.trans (by repeat' (first | (with_reducible assumption) | (with_reducible exact Below.refl _ _) | (with_reducible refine below_drewN ?_ _) | (with_reducible refine Below.drew ?_) | (with_reducible refine Below.setCell ?_ ?_ _) | (with_reducible refine Below.alloc ?_ ?_ _) | omega | (simp; done) | (simp; omega))) (hb1.mono (by first | assumption | (simp; done) | (simp; omega)))
      have hz1 := hw1.size
      clear hb1
      go_wp2_with fail
      with_reducible refine (TX.out _ (laid15_pow (laid15_below HL.out hw1))).mono ?_
      rintro e w2 ⟨rfl, hb2⟩
      have hw2 : Below w.heap.size w w2 := Below.trans (by repeat' (first | (with_reducible assumption) | (with_reducible exact Below.refl _ _) | (with_reducible refine below_drewN ?_ _) | (with_reducible refine Below.drew ?_) | (with_reducible refine Below.setCell ?_ ?_ _) | (with_reducible refine Below.alloc ?_ ?_ _) | omega | (simp; done) | (simp; omega))) (hb2.mono (by first | assumption | (simp; done) | (simp; omega)))
      have hz2 := hw2.size
      clear hb2
      go_wp2_with fail
      with_reducible refine (PA.out _ (laid15_max (laid15_below HL.out hw2))).mono ?_
      rintro e w3 ⟨rfl, hb3⟩
      have hw3 : Below w.heap.size w w3 := Below.trans (by repeat' (first | (with_reducible assumption) | (with_reducible exact Below.refl _ _) | (with_reducible refine below_drewN ?_ _) | (with_reducible refine Below.drew ?_) | (with_reducible refine Below.setCell ?_ ?_ _) | (with_reducible refine Below.alloc ?_ ?_ _) | omega | (simp; done) | (simp; omega))) (hb3.mono (by first | assumption | (simp; done) | (simp; omega)))
      have hz3 := hw3.size
      clear hb3
      go_wp2_with fail
      with_reducible refine (SP.out _).mono ?_
      rintro e w4 ⟨rfl, hb4⟩
      have hw4 : Below w.heap.size w w4 := Below.trans (by repeat' (first | (with_reducible assumption) | (with_reducible exact Below.refl _ _) | (with_reducible refine below_drewN ?_ _) | (with_reducible refine Below.drew ?_) | (with_reducible refine Below.setCell ?_ ?_ _) | (with_reducible refine Below.alloc ?_ ?_ _) | omega | (simp; done) | (simp; omega))) (hb4.mono (by first | assumption | (simp; done) | (simp; omega)))
      have hz4 := hw4.size
      clear hb4
      go_wp2_with fail
      with_reducible refine (PL.out _).mono ?_
      rintro e w5 ⟨rfl, hb5⟩
      have c5_0 : w5.cell? ⟨w4.heap.size, 0, none⟩ = some (.int .u64 sh) := (hb5.cell (p := ⟨w4.heap.size, 0, none⟩) (by first | assumption | (simp; done) | (simp; omega))).trans (by first | assumption | (simp [go_sem]; done) | (simp [go_sem, *]; done))
      have c5_1 : w5.cell? ⟨w4.heap.size, 1, none⟩ = some (.int .u64 sl) := (hb5.cell (p := ⟨w4.heap.size, 1, none⟩) (by first | assumption | (simp; done) | (simp; omega))).trans (by first | assumption | (simp [go_sem]; done) | (simp [go_sem, *]; done))
      have hl5_0 : w4.heap.size < w5.heap.size := by have hs := hb5.size; first | (simp at hs; omega) | omega
      have hw5 : Below w.heap.size w w5 := Below.trans (by repeat' (first | (with_reducible assumption) | (with_reducible exact Below.refl _ _) | (with_reducible refine below_drewN ?_ _) | (with_reducible refine Below.drew ?_) | (with_reducible refine Below.setCell ?_ ?_ _) | (with_reducible refine Below.alloc ?_ ?_ _) | omega | (simp; done) | (simp; omega))) (hb5.mono (by first | assumption | (simp; done) | (simp; omega)))
      have hz5 := hw5.size
      clear hb5
      go_wp2_with fail
      with_reducible refine (JN.out _).mono ?_
      rintro e w6 ⟨rfl, hb6⟩
      have hw6 : Below w.heap.size w w6 := Below.trans (by repeat' (first | (with_reducible assumption) | (with_reducible exact Below.refl _ _) | (with_reducible refine below_drewN ?_ _) | (with_reducible refine Below.drew ?_) | (with_reducible refine Below.setCell ?_ ?_ _) | (with_reducible refine Below.alloc ?_ ?_ _) | omega | (simp; done) | (simp; omega))) (hb6.mono (by first | assumption | (simp; done) | (simp; omega)))
      have hz6 := hw6.size
      clear hb6
      go_wp2_with fail
      go_ret
      exact ⟨by first | rfl | (simp; done), by repeat' (first | (with_reducible assumption) | (with_reducible exact Below.refl _ _) | (with_reducible refine below_drewN ?_ _) | (with_reducible refine Below.drew ?_) | (with_reducible refine Below.setCell ?_ ?_ _) | (with_reducible refine Below.alloc ?_ ?_ _) | omega | (simp; done) | (simp; omega))⟩
    · have hkq : (sKind a != 1) = true := by
        rw [bne_iff_ne]; exact hk
      obtain ⟨c0, c1, c2, c3⟩ := bk_bd a0 a1 b0 b1 hk
      have P2 := Lib.hid (fun (w : World) => refPlain_any (bkH a b) (bkL a b) c0 c1 c2 c3 w)
      rw [back_plain2 hk] at P2
      generalize bkH a b = bh at *
      generalize bkL a b = bl at *
      generalize sKind a = sk at *
      generalize sHigh a b = sh at *
      generalize sLow a b = sl at *
      generalize sNeg a = sn at *
      generalize sExp a = sx at *
      clear hp s0 s1 s2 s3 s4 s5 JN c0 c1 c2 c3
      go_enter Tryd.func5, Tryd.ntmps5
      go_wp2_with fail
      with_reducible refine (AW.out _ HL.out).mono ?_
      rintro e w1 ⟨rfl, hb1⟩
      have hw1 : Below w.heap.size w w1 := Below.trans (by repeat' (first | (with_reducible assumption) | (with_reducible exact Below.refl _ _) | (with_reducible refine below_drewN ?_ _) | (with_reducible refine Below.drew ?_) | (with_reducible refine Below.setCell ?_ ?_ _) | (with_reducible refine Below.alloc ?_ ?_ _) | omega | (simp; done) | (simp; omega))) (hb1.mono (by first | assumption | (simp; done) | (simp; omega)))
      have hz1 := hw1.size
      clear hb1
      go_wp2_with fail
      with_reducible refine (TX.out _ (laid15_pow (laid15_below HL.out hw1))).mono ?_
      rintro e w2 ⟨rfl, hb2⟩
      have hw2 : Below w.heap.size w w2 := Below.trans (by repeat' (first | (with_reducible assumption) | (with_reducible exact Below.refl _ _) | (with_reducible refine below_drewN ?_ _) | (with_reducible refine Below.drew ?_) | (with_reducible refine Below.setCell ?_ ?_ _) | (with_reducible refine Below.alloc ?_ ?_ _) | omega | (simp; done) | (simp; omega))) (hb2.mono (by first | assumption | (simp; done) | (simp; omega)))
      have hz2 := hw2.size
      clear hb2
      go_wp2_with fail
      with_reducible refine (PA.out _ (laid15_max (laid15_below HL.out hw2))).mono ?_
      rintro e w3 ⟨rfl, hb3⟩
      have hw3 : Below w.heap.size w w3 := Below.trans (by repeat' (first | (with_reducible assumption) | (with_reducible exact Below.refl _ _) | (with_reducible refine below_drewN ?_ _) | (with_reducible refine Below.drew ?_) | (with_reducible refine Below.setCell ?_ ?_ _) | (with_reducible refine Below.alloc ?_ ?_ _) | omega | (simp; done) | (simp; omega))) (hb3.mono (by first | assumption | (simp; done) | (simp; omega)))
      have hz3 := hw3.size
      clear hb3
      go_wp2_with fail
      with_reducible refine (SP.out _).mono ?_
      rintro e w4 ⟨rfl, hb4⟩
      have hw4 : Below w.heap.size w w4 := Below.trans (by repeat' (first | (with_reducible assumption) | (with_reducible exact Below.refl _ _) | (with_reducible refine below_drewN ?_ _) | (with_reducible refine Below.drew ?_) | (with_reducible refine Below.setCell ?_ ?_ _) | (with_reducible refine Below.alloc ?_ ?_ _) | omega | (simp; done) | (simp; omega))) (hb4.mono (by first | assumption | (simp; done) | (simp; omega)))
      have hz4 := hw4.size
      clear hb4
      go_wp2_with fail
      with_reducible refine (PL.out _).mono ?_
      rintro e w5 ⟨rfl, hb5⟩
      have c5_0 : w5.cell? ⟨w4.heap.size, 0, none⟩ = some (.int .u64 sh) := (hb5.cell (p := ⟨w4.heap.size, 0, none⟩) (by first | assumption | (simp; done) | (simp; omega))).trans (by first | assumption | (simp [go_sem]; done) | (simp [go_sem, *]; done))
      have c5_1 : w5.cell? ⟨w4.heap.size, 1, none⟩ = some (.int .u64 sl) := (hb5.cell (p := ⟨w4.heap.size, 1, none⟩) (by first | assumption | (simp; done) | (simp; omega))).trans (by first | assumption | (simp [go_sem]; done) | (simp [go_sem, *]; done))
      have hl5_0 : w4.heap.size < w5.heap.size := by have hs := hb5.size; first | (simp at hs; omega) | omega
      have hw5 : Below w.heap.size w w5 := Below.trans (by repeat' (first | (with_reducible assumption) | (with_reducible exact Below.refl _ _) | (with_reducible refine below_drewN ?_ _) | (with_reducible refine Below.drew ?_) | (with_reducible refine Below.setCell ?_ ?_ _) | (with_reducible refine Below.alloc ?_ ?_ _) | omega | (simp; done) | (simp; omega))) (hb5.mono (by first | assumption | (simp; done) | (simp; omega)))
      have hz5 := hw5.size
      clear hb5
      go_wp2_with fail
      with_reducible refine (P2.out _).mono ?_
      rintro e w6 ⟨rfl, hb6⟩
      have hw6 : Below w.heap.size w w6 := Below.trans (by repeat' (first | (with_reducible assumption) | (with_reducible exact Below.refl _ _) | (with_reducible refine below_drewN ?_ _) | (with_reducible refine Below.drew ?_) | (with_reducible refine Below.setCell ?_ ?_ _) | (with_reducible refine Below.alloc ?_ ?_ _) | omega | (simp; done) | (simp; omega))) (hb6.mono (by first | assumption | (simp; done) | (simp; omega)))
      have hz6 := hw6.size
      clear hb6
      go_wp2_with fail
      go_ret
      exact ⟨by first | rfl | (simp; done), by repeat' (first | (with_reducible assumption) | (with_reducible exact Below.refl _ _) | (with_reducible refine below_drewN ?_ _) | (with_reducible refine Below.drew ?_) | (with_reducible refine Below.setCell ?_ ?_ _) | (with_reducible refine Below.alloc ?_ ?_ _) | omega | (simp; done) | (simp; omega))⟩
  · rw [hp] at PL
    obtain ⟨h1, h2⟩ := back_same a0 a1 b0 b1 hp
    rw [h1, h2] at PA
    generalize sKind a = sk at *
    generalize sHigh a b = sh at *
    generalize sLow a b = sl at *
    generalize sNeg a = sn at *
    generalize sExp a = sx at *
    clear hp h1 h2 s0 s1 s2 s3 s4 s5 JN
    go_enter Tryd.func5, Tryd.ntmps5
    go_wp2_with fail
    with_reducible refine (AW.out _ HL.out).mono ?_
    rintro e w1 ⟨rfl, hb1⟩
    have hw1 : Below w.heap.size w w1 := Below.trans (by repeat' (first | (with_reducible assumption) | (with_reducible exact Below.refl _ _) | (with_reducible refine below_drewN ?_ _) | (with_reducible refine Below.drew ?_) | (with_reducible refine Below.setCell ?_ ?_ _) | (with_reducible refine Below.alloc ?_ ?_ _) | omega | (simp; done) | (simp; omega))) (hb1.mono (by first | assumption | (simp; done) | (simp; omega)))
    have hz1 := hw1.size
    clear hb1
    go_wp2_with fail
    with_reducible refine (TX.out _ (laid15_pow (laid15_below HL.out hw1))).mono ?_
    rintro e w2 ⟨rfl, hb2⟩
    have hw2 : Below w.heap.size w w2 := Below.trans (by repeat' (first | (with_reducible assumption) | (with_reducible exact Below.refl _ _) | (with_reducible refine below_drewN ?_ _) | (with_reducible refine Below.drew ?_) | (with_reducible refine Below.setCell ?_ ?_ _) | (with_reducible refine Below.alloc ?_ ?_ _) | omega | (simp; done) | (simp; omega))) (hb2.mono (by first | assumption | (simp; done) | (simp; omega)))
    have hz2 := hw2.size
    clear hb2
    go_wp2_with fail
    with_reducible refine (PA.out _ (laid15_max (laid15_below HL.out hw2))).mono ?_
    rintro e w3 ⟨rfl, hb3⟩
    have hw3 : Below w.heap.size w w3 := Below.trans (by repeat' (first | (with_reducible assumption) | (with_reducible exact Below.refl _ _) | (with_reducible refine below_drewN ?_ _) | (with_reducible refine Below.drew ?_) | (with_reducible refine Below.setCell ?_ ?_ _) | (with_reducible refine Below.alloc ?_ ?_ _) | omega | (simp; done) | (simp; omega))) (hb3.mono (by first | assumption | (simp; done) | (simp; omega)))
    have hz3 := hw3.size
    clear hb3
    go_wp2_with fail
    with_reducible refine (SP.out _).mono ?_
    rintro e w4 ⟨rfl, hb4⟩
    have hw4 : Below w.heap.size w w4 := Below.trans (by repeat' (first | (with_reducible assumption) | (with_reducible exact Below.refl _ _) | (with_reducible refine below_drewN ?_ _) | (with_reducible refine Below.drew ?_) | (with_reducible refine Below.setCell ?_ ?_ _) | (with_reducible refine Below.alloc ?_ ?_ _) | omega | (simp; done) | (simp; omega))) (hb4.mono (by first | assumption | (simp; done) | (simp; omega)))
    have hz4 := hw4.size
    clear hb4
    go_wp2_with fail
    with_reducible refine (PL.out _).mono ?_
    rintro e w5 ⟨rfl, hb5⟩
    have hw5 : Below w.heap.size w w5 := Below.trans (by repeat' (first | (with_reducible assumption) | (with_reducible exact Below.refl _ _) | (with_reducible refine below_drewN ?_ _) | (with_reducible refine Below.drew ?_) | (with_reducible refine Below.setCell ?_ ?_ _) | (with_reducible refine Below.alloc ?_ ?_ _) | omega | (simp; done) | (simp; omega))) (hb5.mono (by first | assumption | (simp; done) | (simp; omega)))
    have hz5 := hw5.size
    clear hb5
    go_wp2_with fail
    go_ret
    exact ⟨by first | rfl | (simp; done), by repeat' (first | (with_reducible assumption) | (with_reducible exact Below.refl _ _) | (with_reducible refine below_drewN ?_ _) | (with_reducible refine Below.drew ?_) | (with_reducible refine Below.setCell ?_ ?_ _) | (with_reducible refine Below.alloc ?_ ?_ _) | omega | (simp; done) | (simp; omega))⟩
end Go.Proofs.YtpgooajifehbbaaDoor
