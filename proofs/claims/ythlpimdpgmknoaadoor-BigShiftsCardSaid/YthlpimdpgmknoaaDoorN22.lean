/- The law BigShifts. Conditions: the table of powers of 10 is laid. -/
import Derived.Test.YthlpimdpgmknoaaDoorNS
import Derived.Outline
namespace Go.Proofs.YthlpimdpgmknoaaDoor
open Go.RowKit
set_option linter.unusedSimpArgs false
set_option linter.unusedVariables false
attribute [local irreducible] Fl.K
theorem powO_len (b e : Int) : (dg ((powO b e).getD 0)).length ≤ 256 := by
  unfold powO
  split
  · show (dg 0).length ≤ 256
    rw [dg_zero]; decide
  · split
    · next h => exact h
    · show (dg 0).length ≤ 256
      rw [dg_zero]; decide
theorem same_nil (x : Option Addr) (cx cy : Nat) (w : World) (h : Sl .u16 w x 0 (gi [])) : Calls Tryd.prog 12 #[.slice none 0 cy, .slice x 0 cx] w fun e w' => e = .returned (.bool true) ∧ ∃ q, w' = w.drewN q := by
  have := same_any none x 0 cy 0 cx [] [] rfl rfl (by decide) (by decide) w (Sl.none _ _ _ _) h
  rw [decide_eq_true rfl] at this
  exact this
set_option maxHeartbeats 6400000 in
set_option maxRecDepth 100000 in
theorem bigShifts_long (ad : Option Addr) (n c : Nat) (N E : Int) (hz : n ≤ maxLen) (h : ¬ n ≤ 300) (w : World) (htab : PowTab w) :
    Calls Tryd.prog 7 #[.slice ad n c, .int .i64 N, .int .i64 E] w fun e w' => e = .returned (.bool true) ∧ Below w.heap.size w w' := by
  have AW := Lib.hid (awake9 w htab)
  unfold maxLen at hz
  clear htab
  go_enter Tryd.func7, Tryd.ntmps7
  go_wp2_with fail
  with_reducible refine (AW.out).mono ?_
  rintro e w1 ⟨rfl, hb1⟩
  have hw1 : Below w.heap.size w w1 := hb1
  go_wp2_with fail
  go_ret
  exact ⟨by first | rfl | (simp; done) | (simp [*]; done), hw1⟩
set_option maxHeartbeats 6400000 in
set_option maxRecDepth 100000 in
theorem bigShifts_bad (ad : Option Addr) (n c : Nat) (a : List Nat) (N E : Int) (N9 : -9223372036854775808 ≤ N) (N8 : N ≤ 9223372036854775807) (E9 : -9223372036854775808 ≤ E) (E8 : E ≤ 9223372036854775807) (hn : a.length = n) (hz : n ≤ 300) (ha : isB a = false) (w : World) (htab : PowTab w) (hS : Sl .u16 w ad n (gi a)) :
    Calls Tryd.prog 7 #[.slice ad n c, .int .i64 N, .int .i64 E] w fun e w' => e = .returned (.bool true) ∧ Below w.heap.size w w' := by
  have AW := Lib.hid (awake9 w htab)
  have HS := Lib.hid hS
  obtain ⟨O, hO⟩ : ∃ O, powO N E = O := ⟨_, rfl⟩
  have hlo := powO_len N E
  rw [hO] at hlo
  obtain ⟨P, hP⟩ : ∃ P, dg (O.getD 0) = P := ⟨_, rfl⟩
  obtain ⟨LP, hLP⟩ : ∃ L, P.length = L := ⟨_, rfl⟩
  obtain ⟨ob, hob⟩ : ∃ b, O.isSome = b := ⟨_, rfl⟩
  have PW := fun w => bigPower_any N E N9 N8 E9 E8 w
  have RP := fun w => refPower_any N E N9 N8 E9 E8 w
  unfold RetPw at PW RP
  rw [hO, hP, hLP, hob] at PW RP
  rw [hP, hLP] at hlo
  replace PW := Lib.hid PW
  replace RP := Lib.hid RP
  have SP := Lib.hid (fun x y cx cy w => same_self hLP (by omega) x y cx cy w)
  have RI := Lib.hid (fun w h => refIs_any ad n c a hn (by omega) w h)
  have UP := Lib.hid (fun w h => bigUp_nil ad n c a N N9 N8 hn (by omega) (Or.inl ha) w h)
  have SM := Lib.hid (fun w h => bigSmall_bad ad n c a hn (by omega) (Or.inl ha) w h)
  have BB := Lib.hid (fun w h => bigBits_bad ad n c a hn (by omega) ha w h)
  rw [ha] at RI
  clear hS htab hn ha hO hP hLP hob
  rcases ob with _ | _
  · go_enter Tryd.func7, Tryd.ntmps7
    go_wp2_with fail
    with_reducible refine (AW.out).mono ?_
    rintro e w1 ⟨rfl, hb1⟩
    have a_1 := Lib.hid (HS.out.beyond hb1)
    have hw1 : Below w.heap.size w w1 := hb1
    go_wp2_with fail
    with_reducible refine (UP.out _ a_1.out).mono ?_
    rintro e w' ⟨rfl, rfl⟩
    go_wp2_with fail
    with_reducible refine (PW.out _).mono ?_
    rintro e w2 ⟨x2, cx2, rfl, s2, hb2⟩
    have a_2 := Lib.hid (a_1.out.beyond hb2)
    clear a_1
    have p_2 := Lib.hid s2
    clear s2
    have hw2 : Below w.heap.size w w2 := Below.trans hw1 (hb2.mono hw1.size)
    clear hb2
    go_wp2_with fail
    with_reducible refine (RP.out _).mono ?_
    rintro e w3 ⟨x3, cx3, rfl, s3, hb3⟩
    have a_3 := Lib.hid (a_2.out.beyond hb3)
    clear a_2
    have p_3 := Lib.hid (p_2.out.beyond hb3)
    clear p_2
    have r_3 := Lib.hid s3
    clear s3
    have hw3 : Below w.heap.size w w3 := Below.trans hw2 (hb3.mono hw2.size)
    clear hb3
    go_wp2_with fail
    with_reducible refine (SM.out _ a_3.out).mono ?_
    rintro e w' ⟨rfl, rfl⟩
    go_wp2_with fail
    with_reducible refine (SP.out _ _ _ _ _ p_3.out r_3.out).mono ?_
    rintro e w' ⟨rfl, q4, rfl⟩
    have a_4 := Lib.hid (a_3.out.drewN q4)
    clear a_3
    have hw4 := below_drewN hw3 q4
    generalize w3.drewN q4 = w4 at *
    go_wp2_with fail
    with_reducible refine (RI.out _ a_4.out).mono ?_
    rintro e w' ⟨rfl, rfl⟩
    go_wp2_with fail
    with_reducible refine (BB.out _ a_4.out).mono ?_
    rintro e w' ⟨rfl, rfl⟩
    go_wp2_with fail
    go_ret
    exact ⟨by first | rfl | (simp; done) | (simp [*]; done), hw4⟩
  · go_enter Tryd.func7, Tryd.ntmps7
    go_wp2_with fail
    with_reducible refine (AW.out).mono ?_
    rintro e w1 ⟨rfl, hb1⟩
    have a_1 := Lib.hid (HS.out.beyond hb1)
    have hw1 : Below w.heap.size w w1 := hb1
    go_wp2_with fail
    with_reducible refine (UP.out _ a_1.out).mono ?_
    rintro e w' ⟨rfl, rfl⟩
    go_wp2_with fail
    with_reducible refine (PW.out _).mono ?_
    rintro e w2 ⟨x2, cx2, rfl, s2, hb2⟩
    have a_2 := Lib.hid (a_1.out.beyond hb2)
    clear a_1
    have p_2 := Lib.hid s2
    clear s2
    have hw2 : Below w.heap.size w w2 := Below.trans hw1 (hb2.mono hw1.size)
    clear hb2
    go_wp2_with fail
    with_reducible refine (RP.out _).mono ?_
    rintro e w3 ⟨x3, cx3, rfl, s3, hb3⟩
    have a_3 := Lib.hid (a_2.out.beyond hb3)
    clear a_2
    have p_3 := Lib.hid (p_2.out.beyond hb3)
    clear p_2
    have r_3 := Lib.hid s3
    clear s3
    have hw3 : Below w.heap.size w w3 := Below.trans hw2 (hb3.mono hw2.size)
    clear hb3
    go_wp2_with fail
    with_reducible refine (SM.out _ a_3.out).mono ?_
    rintro e w' ⟨rfl, rfl⟩
    go_wp2_with fail
    with_reducible refine (SP.out _ _ _ _ _ p_3.out r_3.out).mono ?_
    rintro e w' ⟨rfl, q4, rfl⟩
    have a_4 := Lib.hid (a_3.out.drewN q4)
    clear a_3
    have hw4 := below_drewN hw3 q4
    generalize w3.drewN q4 = w4 at *
    go_wp2_with fail
    with_reducible refine (RI.out _ a_4.out).mono ?_
    rintro e w' ⟨rfl, rfl⟩
    go_wp2_with fail
    with_reducible refine (BB.out _ a_4.out).mono ?_
    rintro e w' ⟨rfl, rfl⟩
    go_wp2_with fail
    go_ret
    exact ⟨by first | rfl | (simp; done) | (simp [*]; done), hw4⟩
set_option maxHeartbeats 12800000 in
set_option maxRecDepth 100000 in
theorem bigShifts_good (ad : Option Addr) (n c : Nat) (a : List Nat) (N E : Int) (N9 : -9223372036854775808 ≤ N) (N8 : N ≤ 9223372036854775807) (E9 : -9223372036854775808 ≤ E) (E8 : E ≤ 9223372036854775807) (hn : a.length = n) (ha : isB a = true) (da : DigL a) (w : World) (htab : PowTab w) (hS : Sl .u16 w ad n (gi a)) :
    Calls Tryd.prog 7 #[.slice ad n c, .int .i64 N, .int .i64 E] w fun e w' => e = .returned (.bool true) ∧ Below w.heap.size w w' := by
  have hz : n ≤ 256 := by have := (isB_iff.1 ha).1; omega
  have hca : Can a := ⟨da, (isB_iff.1 ha).2⟩
  have AW := Lib.hid (awake9 w htab)
  have HS := Lib.hid hS
  obtain ⟨O, hO⟩ : ∃ O, powO N E = O := ⟨_, rfl⟩
  have hlo := powO_len N E
  rw [hO] at hlo
  obtain ⟨P, hP⟩ : ∃ P, dg (O.getD 0) = P := ⟨_, rfl⟩
  obtain ⟨LP, hLP⟩ : ∃ L, P.length = L := ⟨_, rfl⟩
  obtain ⟨ob, hob⟩ : ∃ b, O.isSome = b := ⟨_, rfl⟩
  have PW := fun w => bigPower_any N E N9 N8 E9 E8 w
  have RP := fun w => refPower_any N E N9 N8 E9 E8 w
  unfold RetPw at PW RP
  rw [hO, hP, hLP, hob] at PW RP
  rw [hP, hLP] at hlo
  replace PW := Lib.hid PW
  replace RP := Lib.hid RP
  have SP := Lib.hid (fun x y cx cy w => same_self hLP (by omega) x y cx cy w)
  have RI := Lib.hid (fun w h => refIs_any ad n c a hn (by omega) w h)
  have BB := fun w h => bigBits_yes ad n c a hn (by omega) ha da w h
  have RB := fun w h => refBits_any ad n c a hn (by omega) da w h
  generalize bitsL a = bl at *
  replace BB := Lib.hid BB
  replace RB := Lib.hid RB
  rw [ha] at RI
  have HN := Lib.hid hn
  have HA := Lib.hid ha
  have HD := Lib.hid da
  have HC := Lib.hid hca
  have hsm : (n ≤ 4 ∧ ∃ V : Int, Hid (∀ w, Sl .u16 w ad n (gi a) → Calls Tryd.prog 30 #[.slice ad n c] w fun e w' => e = .returned (.tuple #[.int .u64 V, .bool true]) ∧ w = w') ∧ Hid (∀ w, Calls Tryd.prog 18 #[.int .u64 V] w fun e w' => ∃ x cx, e = .returned (.slice x n cx) ∧ Sl .u16 w' x n (gi a) ∧ Below w.heap.size w w')) ∨ (¬ n ≤ 4 ∧ Hid (∀ w, Sl .u16 w ad n (gi a) → Calls Tryd.prog 30 #[.slice ad n c] w fun e w' => e = .returned (.tuple #[.int .u64 0, .bool false]) ∧ w = w')) := by
    by_cases h4 : n ≤ 4
    · refine Or.inl ⟨h4, _, Lib.hid (fun w h => bigSmall_yes ad n c a hn ha h4 da w h), Lib.hid (fun w => ?_)⟩
      have hv := val_lt da
      have h6 := Nat.pow_le_pow_right (n := 65536) (by decide) (show a.length ≤ 4 by omega)
      have h7 : (65536 : Nat) ^ 4 = 18446744073709551616 := rfl
      refine (refOf_any (valL a) _ rfl (by omega) w).mono (fun e w' (h : RetU _ _ _ _) => ?_)
      rw [dg_val hca] at h
      exact memU_of h hn
    · exact Or.inr ⟨h4, Lib.hid (fun w h => bigSmall_bad ad n c a hn (by omega) (Or.inr (by omega)) w h)⟩
  have SA := Lib.hid (fun x y cx cy w => same_self hn (by omega) x y cx cy w)
  clear htab ha da hca hO hP hLP hob
  by_cases hr : N < 0 ∨ 4096 < N
  · have UP := Lib.hid (fun w h => bigUp_nil ad n c a N N9 N8 hn (by omega) (Or.inr (by omega)) w h)
    clear hn hS
    rcases hsm with ⟨n4, V, SM, RO⟩ | ⟨n4, SM⟩
    · have d4 : decide ((n : Int) ≤ 4) = true := decide_eq_true (by omega)
      rcases ob with _ | _
      all_goals
        rcases (show N < 0 ∨ (¬ N < 0 ∧ 4096 < N) by omega) with h | ⟨h, h2⟩
        all_goals
          clear hr
          go_enter Tryd.func7, Tryd.ntmps7
          go_wp2_with fail
          with_reducible refine (AW.out).mono ?_
          rintro e w1 ⟨rfl, hb1⟩
          have a_1 := Lib.hid (HS.out.beyond hb1)
          have hw1 : Below w.heap.size w w1 := hb1
          go_wp2_with fail
          with_reducible refine (UP.out _ a_1.out).mono ?_
          rintro e w' ⟨rfl, rfl⟩
          go_wp2_with fail
          with_reducible refine (PW.out _).mono ?_
          rintro e w2 ⟨x2, cx2, rfl, s2, hb2⟩
          have a_2 := Lib.hid (a_1.out.beyond hb2)
          clear a_1
          have p_2 := Lib.hid s2
          clear s2
          have hw2 : Below w.heap.size w w2 := Below.trans hw1 (hb2.mono hw1.size)
          clear hb2
          go_wp2_with fail
          with_reducible refine (RP.out _).mono ?_
          rintro e w3 ⟨x3, cx3, rfl, s3, hb3⟩
          have a_3 := Lib.hid (a_2.out.beyond hb3)
          clear a_2
          have p_3 := Lib.hid (p_2.out.beyond hb3)
          clear p_2
          have r_3 := Lib.hid s3
          clear s3
          have hw3 : Below w.heap.size w w3 := Below.trans hw2 (hb3.mono hw2.size)
          clear hb3
          go_wp2_with fail
          with_reducible refine (SM.out _ a_3.out).mono ?_
          rintro e w' ⟨rfl, rfl⟩
          go_wp2_with fail
          with_reducible refine (SP.out _ _ _ _ _ p_3.out r_3.out).mono ?_
          rintro e w' ⟨rfl, q4, rfl⟩
          have a_4 := Lib.hid (a_3.out.drewN q4)
          clear a_3
          have hw4 := below_drewN hw3 q4
          generalize w3.drewN q4 = w4 at *
          go_wp2_with fail
          with_reducible refine (RI.out _ a_4.out).mono ?_
          rintro e w' ⟨rfl, rfl⟩
          go_wp2_with fail
          with_reducible refine (BB.out _ a_4.out).mono ?_
          rintro e w' ⟨rfl, rfl⟩
          go_wp2_with fail
          with_reducible refine (RB.out _ a_4.out).mono ?_
          rintro e w' ⟨rfl, rfl⟩
          go_wp2_with fail
          with_reducible refine (RO.out _).mono ?_
          rintro e w5 ⟨x5, cx5, rfl, s5, hb5⟩
          have a_5 := Lib.hid (a_4.out.beyond hb5)
          clear a_4
          have r_5 := Lib.hid s5
          clear s5
          have hw5 : Below w.heap.size w w5 := Below.trans hw4 (hb5.mono hw4.size)
          clear hb5
          go_wp2_with fail
          with_reducible refine (SA.out _ _ _ _ _ r_5.out a_5.out).mono ?_
          rintro e w' ⟨rfl, q6, rfl⟩
          have a_6 := Lib.hid (a_5.out.drewN q6)
          clear a_5
          have hw6 := below_drewN hw5 q6
          generalize w5.drewN q6 = w6 at *
          go_wp2_with fail
          go_ret
          exact ⟨by first | rfl | (simp; done) | (simp [*]; done), hw6⟩
    · have d4 : decide ((n : Int) ≤ 4) = false := decide_eq_false (by omega)
      rcases ob with _ | _
      all_goals
        rcases (show N < 0 ∨ (¬ N < 0 ∧ 4096 < N) by omega) with h | ⟨h, h2⟩
        all_goals
          clear hr
          go_enter Tryd.func7, Tryd.ntmps7
          go_wp2_with fail
          with_reducible refine (AW.out).mono ?_
          rintro e w1 ⟨rfl, hb1⟩
          have a_1 := Lib.hid (HS.out.beyond hb1)
          have hw1 : Below w.heap.size w w1 := hb1
          go_wp2_with fail
          with_reducible refine (UP.out _ a_1.out).mono ?_
          rintro e w' ⟨rfl, rfl⟩
          go_wp2_with fail
          with_reducible refine (PW.out _).mono ?_
          rintro e w2 ⟨x2, cx2, rfl, s2, hb2⟩
          have a_2 := Lib.hid (a_1.out.beyond hb2)
          clear a_1
          have p_2 := Lib.hid s2
          clear s2
          have hw2 : Below w.heap.size w w2 := Below.trans hw1 (hb2.mono hw1.size)
          clear hb2
          go_wp2_with fail
          with_reducible refine (RP.out _).mono ?_
          rintro e w3 ⟨x3, cx3, rfl, s3, hb3⟩
          have a_3 := Lib.hid (a_2.out.beyond hb3)
          clear a_2
          have p_3 := Lib.hid (p_2.out.beyond hb3)
          clear p_2
          have r_3 := Lib.hid s3
          clear s3
          have hw3 : Below w.heap.size w w3 := Below.trans hw2 (hb3.mono hw2.size)
          clear hb3
          go_wp2_with fail
          with_reducible refine (SM.out _ a_3.out).mono ?_
          rintro e w' ⟨rfl, rfl⟩
          go_wp2_with fail
          with_reducible refine (SP.out _ _ _ _ _ p_3.out r_3.out).mono ?_
          rintro e w' ⟨rfl, q4, rfl⟩
          have a_4 := Lib.hid (a_3.out.drewN q4)
          clear a_3
          have hw4 := below_drewN hw3 q4
          generalize w3.drewN q4 = w4 at *
          go_wp2_with fail
          with_reducible refine (RI.out _ a_4.out).mono ?_
          rintro e w' ⟨rfl, rfl⟩
          go_wp2_with fail
          with_reducible refine (BB.out _ a_4.out).mono ?_
          rintro e w' ⟨rfl, rfl⟩
          go_wp2_with fail
          with_reducible refine (RB.out _ a_4.out).mono ?_
          rintro e w' ⟨rfl, rfl⟩
          go_wp2_with fail
          go_ret
          exact ⟨by first | rfl | (simp; done) | (simp [*]; done), hw4⟩
  · have hN0 : 0 ≤ N := by omega
    have hN1 : N ≤ 4096 := by omega
    obtain ⟨q, hq⟩ : ∃ q : Nat, N / 16 = (q : Int) := ⟨(N / 16).toNat, by omega⟩
    obtain ⟨s, hs⟩ : ∃ s : Nat, N % 16 = (s : Int) := ⟨(N % 16).toNat, by omega⟩
    have RU := fun w h => refUp_any ad n c a N q s hq hs hN0 hN1 hn (by omega) HD.out w h
    obtain ⟨U, hU⟩ : ∃ U, dg (valL a * (65536 ^ q * 2 ^ s)) = U := ⟨_, rfl⟩
    obtain ⟨LU, hLU⟩ : ∃ L, U.length = L := ⟨_, rfl⟩
    have hLUb : LU ≤ n + (q + 1) := by
      rw [← hLU, ← hU, ← hn]
      refine dg_len_le ?_
      have h1 := val_lt HD.out
      have h2 : 2 ^ s ≤ 65536 := Nat.le_trans (Nat.pow_le_pow_right (n := 2) (by decide) (show s ≤ 15 by omega)) (by decide)
      have h3 : 65536 ^ q * 2 ^ s ≤ 65536 ^ (q + 1) := by rw [Nat.pow_succ]; exact Nat.mul_le_mul_left _ h2
      have h4 := Nat.mul_lt_mul_of_lt_of_le h1 h3 (Nat.pow_pos (by decide))
      rw [← Nat.pow_add] at h4
      exact h4
    have hLUc : LU ≤ 600 := by omega
    rw [hU] at RU
    have RU := Lib.hid (show ∀ w, Sl .u16 w ad n (gi a) → Calls Tryd.prog 32 #[.slice ad n c, .int .i64 N] w fun e w' => ∃ x cx, e = .returned (.slice x LU cx) ∧ Sl .u16 w' x LU (gi U) ∧ Below w.heap.size w w' from fun w h => (RU w h).mono (fun e w' (h : RetU _ _ _ _) => memU_of h hLU))
    by_cases hn0 : n = 0
    · have hLU0 : LU = 0 := by
        rw [← hLU, ← hU, show a = [] from List.eq_nil_of_length_eq_zero (by omega)]
        show (dg (0 * _)).length = 0
        rw [Nat.zero_mul, dg_zero]; rfl
      subst hLU0
      have hUe : U = [] := List.eq_nil_of_length_eq_zero hLU
      have UP := Lib.hid (fun w h => bigUp_nil ad n c a N N9 N8 hn (by omega) (Or.inr (Or.inr (Or.inr hn0))) w h)
      have SU := Lib.hid (fun x cx cy w (h : Sl .u16 w x 0 (gi U)) => same_nil x cx cy w (hUe ▸ h))
      clear hn hS hU hLU hUe hq hs hr
      rcases hsm with ⟨n4, V, SM, RO⟩ | ⟨n4, SM⟩
      · have d4 : decide ((n : Int) ≤ 4) = true := decide_eq_true (by omega)
        have HN0 := Lib.hid hn0
        clear hn0 hLUb hLUc
        rcases ob with _ | _
        all_goals
          go_enter Tryd.func7, Tryd.ntmps7
          go_wp2_with fail
          with_reducible refine (AW.out).mono ?_
          rintro e w1 ⟨rfl, hb1⟩
          have a_1 := Lib.hid (HS.out.beyond hb1)
          have hw1 : Below w.heap.size w w1 := hb1
          go_wp2_with fail
          with_reducible refine (UP.out _ a_1.out).mono ?_
          rintro e w' ⟨rfl, rfl⟩
          go_wp2_with fail
          with_reducible refine (PW.out _).mono ?_
          rintro e w2 ⟨x2, cx2, rfl, s2, hb2⟩
          have a_2 := Lib.hid (a_1.out.beyond hb2)
          clear a_1
          have p_2 := Lib.hid s2
          clear s2
          have hw2 : Below w.heap.size w w2 := Below.trans hw1 (hb2.mono hw1.size)
          clear hb2
          go_wp2_with fail
          with_reducible refine (RP.out _).mono ?_
          rintro e w3 ⟨x3, cx3, rfl, s3, hb3⟩
          have a_3 := Lib.hid (a_2.out.beyond hb3)
          clear a_2
          have p_3 := Lib.hid (p_2.out.beyond hb3)
          clear p_2
          have r_3 := Lib.hid s3
          clear s3
          have hw3 : Below w.heap.size w w3 := Below.trans hw2 (hb3.mono hw2.size)
          clear hb3
          go_wp2_with fail
          with_reducible refine (SM.out _ a_3.out).mono ?_
          rintro e w' ⟨rfl, rfl⟩
          go_wp2_with fail
          with_reducible refine (SP.out _ _ _ _ _ p_3.out r_3.out).mono ?_
          rintro e w' ⟨rfl, q4, rfl⟩
          have a_4 := Lib.hid (a_3.out.drewN q4)
          clear a_3
          have hw4 := below_drewN hw3 q4
          generalize w3.drewN q4 = w4 at *
          go_wp2_with fail
          with_reducible refine (RI.out _ a_4.out).mono ?_
          rintro e w' ⟨rfl, rfl⟩
          go_wp2_with fail
          with_reducible refine (RU.out _ a_4.out).mono ?_
          rintro e w5 ⟨x5, cx5, rfl, s5, hb5⟩
          have a_5 := Lib.hid (a_4.out.beyond hb5)
          clear a_4
          have r_5 := Lib.hid s5
          clear s5
          have hw5 : Below w.heap.size w w5 := Below.trans hw4 (hb5.mono hw4.size)
          clear hb5
          go_wp2_with fail
          with_reducible refine (SU.out _ _ _ _ r_5.out).mono ?_
          rintro e w' ⟨rfl, q6, rfl⟩
          have a_6 := Lib.hid (a_5.out.drewN q6)
          clear a_5
          have hw6 := below_drewN hw5 q6
          generalize w5.drewN q6 = w6 at *
          go_wp2_with fail
          with_reducible refine (BB.out _ a_6.out).mono ?_
          rintro e w' ⟨rfl, rfl⟩
          go_wp2_with fail
          with_reducible refine (RB.out _ a_6.out).mono ?_
          rintro e w' ⟨rfl, rfl⟩
          go_wp2_with fail
          with_reducible refine (RO.out _).mono ?_
          rintro e w7 ⟨x7, cx7, rfl, s7, hb7⟩
          have a_7 := Lib.hid (a_6.out.beyond hb7)
          clear a_6
          have r_7 := Lib.hid s7
          clear s7
          have hw7 : Below w.heap.size w w7 := Below.trans hw6 (hb7.mono hw6.size)
          clear hb7
          go_wp2_with fail
          with_reducible refine (SA.out _ _ _ _ _ r_7.out a_7.out).mono ?_
          rintro e w' ⟨rfl, q8, rfl⟩
          have a_8 := Lib.hid (a_7.out.drewN q8)
          clear a_7
          have hw8 := below_drewN hw7 q8
          generalize w7.drewN q8 = w8 at *
          go_wp2_with fail
          go_ret
          exact ⟨by first | rfl | (simp; done) | (simp [*]; done), hw8⟩
      · exact absurd (by omega : n ≤ 4) n4
    · have UP := fun w h => bigUp_yes ad n c a N q s hq hs hN0 hN1 hn (by omega) HA.out HD.out w h
      rw [hU] at UP
      have UP := Lib.hid (show ∀ w, Sl .u16 w ad n (gi a) → Calls Tryd.prog 27 #[.slice ad n c, .int .i64 N] w fun e w' => ∃ x cx, e = .returned (.slice x LU cx) ∧ Sl .u16 w' x LU (gi U) ∧ Below w.heap.size w w' from fun w h => (UP w h).mono (fun e w' (h : RetU _ _ _ _) => memU_of h hLU))
      have SU := Lib.hid (fun x y cx cy w => same_self hLU (by omega) x y cx cy w)
      clear hn hS hU hLU hq hs hr
      rcases hsm with ⟨n4, V, SM, RO⟩ | ⟨n4, SM⟩
      · have d4 : decide ((n : Int) ≤ 4) = true := decide_eq_true (by omega)
        rcases ob with _ | _
        all_goals
          go_enter Tryd.func7, Tryd.ntmps7
          go_wp2_with fail
          with_reducible refine (AW.out).mono ?_
          rintro e w1 ⟨rfl, hb1⟩
          have a_1 := Lib.hid (HS.out.beyond hb1)
          have hw1 : Below w.heap.size w w1 := hb1
          go_wp2_with fail
          with_reducible refine (UP.out _ a_1.out).mono ?_
          rintro e w2 ⟨x2, cx2, rfl, s2, hb2⟩
          have a_2 := Lib.hid (a_1.out.beyond hb2)
          clear a_1
          have u_2 := Lib.hid s2
          clear s2
          have hw2 : Below w.heap.size w w2 := Below.trans hw1 (hb2.mono hw1.size)
          clear hb2
          go_wp2_with fail
          with_reducible refine (PW.out _).mono ?_
          rintro e w3 ⟨x3, cx3, rfl, s3, hb3⟩
          have a_3 := Lib.hid (a_2.out.beyond hb3)
          clear a_2
          have u_3 := Lib.hid (u_2.out.beyond hb3)
          clear u_2
          have p_3 := Lib.hid s3
          clear s3
          have hw3 : Below w.heap.size w w3 := Below.trans hw2 (hb3.mono hw2.size)
          clear hb3
          go_wp2_with fail
          with_reducible refine (RP.out _).mono ?_
          rintro e w4 ⟨x4, cx4, rfl, s4, hb4⟩
          have a_4 := Lib.hid (a_3.out.beyond hb4)
          clear a_3
          have u_4 := Lib.hid (u_3.out.beyond hb4)
          clear u_3
          have p_4 := Lib.hid (p_3.out.beyond hb4)
          clear p_3
          have r_4 := Lib.hid s4
          clear s4
          have hw4 : Below w.heap.size w w4 := Below.trans hw3 (hb4.mono hw3.size)
          clear hb4
          go_wp2_with fail
          with_reducible refine (SM.out _ a_4.out).mono ?_
          rintro e w' ⟨rfl, rfl⟩
          go_wp2_with fail
          with_reducible refine (SP.out _ _ _ _ _ p_4.out r_4.out).mono ?_
          rintro e w' ⟨rfl, q5, rfl⟩
          have a_5 := Lib.hid (a_4.out.drewN q5)
          clear a_4
          have u_5 := Lib.hid (u_4.out.drewN q5)
          clear u_4
          have hw5 := below_drewN hw4 q5
          generalize w4.drewN q5 = w5 at *
          go_wp2_with fail
          with_reducible refine (RI.out _ a_5.out).mono ?_
          rintro e w' ⟨rfl, rfl⟩
          go_wp2_with fail
          with_reducible refine (RU.out _ a_5.out).mono ?_
          rintro e w6 ⟨x6, cx6, rfl, s6, hb6⟩
          have a_6 := Lib.hid (a_5.out.beyond hb6)
          clear a_5
          have u_6 := Lib.hid (u_5.out.beyond hb6)
          clear u_5
          have r_6 := Lib.hid s6
          clear s6
          have hw6 : Below w.heap.size w w6 := Below.trans hw5 (hb6.mono hw5.size)
          clear hb6
          go_wp2_with fail
          with_reducible refine (SU.out _ _ _ _ _ u_6.out r_6.out).mono ?_
          rintro e w' ⟨rfl, q7, rfl⟩
          have a_7 := Lib.hid (a_6.out.drewN q7)
          clear a_6
          have hw7 := below_drewN hw6 q7
          generalize w6.drewN q7 = w7 at *
          go_wp2_with fail
          with_reducible refine (BB.out _ a_7.out).mono ?_
          rintro e w' ⟨rfl, rfl⟩
          go_wp2_with fail
          with_reducible refine (RB.out _ a_7.out).mono ?_
          rintro e w' ⟨rfl, rfl⟩
          go_wp2_with fail
          with_reducible refine (RO.out _).mono ?_
          rintro e w8 ⟨x8, cx8, rfl, s8, hb8⟩
          have a_8 := Lib.hid (a_7.out.beyond hb8)
          clear a_7
          have r_8 := Lib.hid s8
          clear s8
          have hw8 : Below w.heap.size w w8 := Below.trans hw7 (hb8.mono hw7.size)
          clear hb8
          go_wp2_with fail
          with_reducible refine (SA.out _ _ _ _ _ r_8.out a_8.out).mono ?_
          rintro e w' ⟨rfl, q9, rfl⟩
          have a_9 := Lib.hid (a_8.out.drewN q9)
          clear a_8
          have hw9 := below_drewN hw8 q9
          generalize w8.drewN q9 = w9 at *
          go_wp2_with fail
          go_ret
          exact ⟨by first | rfl | (simp; done) | (simp [*]; done), hw9⟩
      · have d4 : decide ((n : Int) ≤ 4) = false := decide_eq_false (by omega)
        rcases ob with _ | _
        all_goals
          go_enter Tryd.func7, Tryd.ntmps7
          go_wp2_with fail
          with_reducible refine (AW.out).mono ?_
          rintro e w1 ⟨rfl, hb1⟩
          have a_1 := Lib.hid (HS.out.beyond hb1)
          have hw1 : Below w.heap.size w w1 := hb1
          go_wp2_with fail
          with_reducible refine (UP.out _ a_1.out).mono ?_
          rintro e w2 ⟨x2, cx2, rfl, s2, hb2⟩
          have a_2 := Lib.hid (a_1.out.beyond hb2)
          clear a_1
          have u_2 := Lib.hid s2
          clear s2
          have hw2 : Below w.heap.size w w2 := Below.trans hw1 (hb2.mono hw1.size)
          clear hb2
          go_wp2_with fail
          with_reducible refine (PW.out _).mono ?_
          rintro e w3 ⟨x3, cx3, rfl, s3, hb3⟩
          have a_3 := Lib.hid (a_2.out.beyond hb3)
          clear a_2
          have u_3 := Lib.hid (u_2.out.beyond hb3)
          clear u_2
          have p_3 := Lib.hid s3
          clear s3
          have hw3 : Below w.heap.size w w3 := Below.trans hw2 (hb3.mono hw2.size)
          clear hb3
          go_wp2_with fail
          with_reducible refine (RP.out _).mono ?_
          rintro e w4 ⟨x4, cx4, rfl, s4, hb4⟩
          have a_4 := Lib.hid (a_3.out.beyond hb4)
          clear a_3
          have u_4 := Lib.hid (u_3.out.beyond hb4)
          clear u_3
          have p_4 := Lib.hid (p_3.out.beyond hb4)
          clear p_3
          have r_4 := Lib.hid s4
          clear s4
          have hw4 : Below w.heap.size w w4 := Below.trans hw3 (hb4.mono hw3.size)
          clear hb4
          go_wp2_with fail
          with_reducible refine (SM.out _ a_4.out).mono ?_
          rintro e w' ⟨rfl, rfl⟩
          go_wp2_with fail
          with_reducible refine (SP.out _ _ _ _ _ p_4.out r_4.out).mono ?_
          rintro e w' ⟨rfl, q5, rfl⟩
          have a_5 := Lib.hid (a_4.out.drewN q5)
          clear a_4
          have u_5 := Lib.hid (u_4.out.drewN q5)
          clear u_4
          have hw5 := below_drewN hw4 q5
          generalize w4.drewN q5 = w5 at *
          go_wp2_with fail
          with_reducible refine (RI.out _ a_5.out).mono ?_
          rintro e w' ⟨rfl, rfl⟩
          go_wp2_with fail
          with_reducible refine (RU.out _ a_5.out).mono ?_
          rintro e w6 ⟨x6, cx6, rfl, s6, hb6⟩
          have a_6 := Lib.hid (a_5.out.beyond hb6)
          clear a_5
          have u_6 := Lib.hid (u_5.out.beyond hb6)
          clear u_5
          have r_6 := Lib.hid s6
          clear s6
          have hw6 : Below w.heap.size w w6 := Below.trans hw5 (hb6.mono hw5.size)
          clear hb6
          go_wp2_with fail
          with_reducible refine (SU.out _ _ _ _ _ u_6.out r_6.out).mono ?_
          rintro e w' ⟨rfl, q7, rfl⟩
          have a_7 := Lib.hid (a_6.out.drewN q7)
          clear a_6
          have hw7 := below_drewN hw6 q7
          generalize w6.drewN q7 = w7 at *
          go_wp2_with fail
          with_reducible refine (BB.out _ a_7.out).mono ?_
          rintro e w' ⟨rfl, rfl⟩
          go_wp2_with fail
          with_reducible refine (RB.out _ a_7.out).mono ?_
          rintro e w' ⟨rfl, rfl⟩
          go_wp2_with fail
          go_ret
          exact ⟨by first | rfl | (simp; done) | (simp [*]; done), hw7⟩
theorem bigShifts_walk (ad : Option Addr) (n c : Nat) (f : Nat → Int) (N E : Int) (w : World) (hS : Sl .u16 w ad n f) (hn : n ≤ maxLen) (hf : DgF n f) (N9 : -9223372036854775808 ≤ N) (N8 : N ≤ 9223372036854775807) (E9 : -9223372036854775808 ≤ E) (E8 : E ≤ 9223372036854775807) (htab : PowTab w) :
    Calls Tryd.prog 7 #[.slice ad n c, .int .i64 N, .int .i64 E] w fun e w' => e = .returned (.bool true) ∧ Below w.heap.size w w' := by
  by_cases h : n ≤ 300
  · cases ha : isB (lst n f) with
    | false => exact bigShifts_bad ad n c _ N E N9 N8 E9 E8 (lst_len n f) h ha w htab (lst_sl hf hS)
    | true => exact bigShifts_good ad n c _ N E N9 N8 E9 E8 (lst_len n f) ha (lst_dig hf) w htab (lst_sl hf hS)
  · exact bigShifts_long ad n c N E hn h w htab
end Go.Proofs.YthlpimdpgmknoaaDoor
