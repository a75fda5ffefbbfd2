/- The law BigSums. Conditions: the table of powers of 10 is laid. -/
import Derived.Test.YthlpimdpgmknoaaDoorN14
import Derived.Outline
namespace Go.Proofs.YthlpimdpgmknoaaDoor
open Go.RowKit
set_option linter.unusedSimpArgs false
set_option linter.unusedVariables false
attribute [local irreducible] Fl.K
/-- A row of L digits came back, those of P. -/
def MemU (P : List Nat) (L : Nat) (w : World) (e : Ending) (w' : World) : Prop := ∃ x cx, e = .returned (.slice x L cx) ∧ Sl .u16 w' x L (gi P) ∧ Below w.heap.size w w'
theorem memU_of {P : List Nat} {L : Nat} {w : World} {e : Ending} {w' : World} (h : RetU P w e w') (hL : P.length = L) : MemU P L w e w' := by
  obtain ⟨x, cx, rfl, _, s, hb⟩ := h
  subst hL
  exact ⟨x, cx, rfl, s, hb⟩
theorem sum_len {a b : List Nat} {n m : Nat} (da : DigL a) (db : DigL b) (ha : a.length ≤ n) (hb : b.length ≤ n) : (dg (valL a + valL b)).length ≤ n + 1 := by
  refine dg_len_le ?_
  have h1 := val_lt da
  have h2 := val_lt db
  have h3 := Nat.pow_le_pow_right (n := 65536) (by decide) ha
  have h4 := Nat.pow_le_pow_right (n := 65536) (by decide) hb
  rw [Nat.pow_succ]
  omega
theorem sub_len {a : List Nat} (b : Nat) (da : DigL a) : (dg (valL a - b)).length ≤ a.length := by
  refine dg_len_le ?_
  have h1 := val_lt da
  omega
set_option maxHeartbeats 3200000 in
set_option maxRecDepth 100000 in
theorem bigSums_long (ad bd : Option Addr) (n c m d : Nat) (hz : n ≤ maxLen) (hz2 : m ≤ maxLen) (h : ¬ (n ≤ 300 ∧ m ≤ 300)) (w : World) (htab : PowTab w) :
    Calls Tryd.prog 5 #[.slice ad n c, .slice bd m d] w fun e w' => e = .returned (.bool true) ∧ Below w.heap.size w w' := by
  have AW := Lib.hid (awake9 w htab)
  unfold maxLen at hz hz2
  clear htab
  by_cases h1 : n ≤ 300
  · have h2 : ¬ m ≤ 300 := fun x => h ⟨h1, x⟩
    clear h
    go_enter Tryd.func5, Tryd.ntmps5
    go_wp2_with fail
    with_reducible refine (AW.out).mono ?_
    rintro e w1 ⟨rfl, hb1⟩
    have hw1 : Below w.heap.size w w1 := hb1
    go_wp2_with fail
    go_ret
    exact ⟨by first | rfl | (simp; done) | (simp [*]; done), hw1⟩
  · clear h
    go_enter Tryd.func5, Tryd.ntmps5
    go_wp2_with fail
    with_reducible refine (AW.out).mono ?_
    rintro e w1 ⟨rfl, hb1⟩
    have hw1 : Below w.heap.size w w1 := hb1
    go_wp2_with fail
    go_ret
    exact ⟨by first | rfl | (simp; done) | (simp [*]; done), hw1⟩
set_option maxHeartbeats 6400000 in
set_option maxRecDepth 100000 in
theorem bigSums_bad (ad bd : Option Addr) (n c m d : Nat) (a b : List Nat) (hn : a.length = n) (hm : b.length = m) (hz : n ≤ 300) (hz2 : m ≤ 300) (hno : isB a = false ∨ isB b = false) (w : World) (htab : PowTab w) (hS : Sl .u16 w ad n (gi a)) (hT : Sl .u16 w bd m (gi b)) :
    Calls Tryd.prog 5 #[.slice ad n c, .slice bd m d] w fun e w' => e = .returned (.bool true) ∧ Below w.heap.size w w' := by
  have AW := Lib.hid (awake9 w htab)
  have HS := Lib.hid hS
  have HT := Lib.hid hT
  have RI1 := fun w h => refIs_any ad n c a hn (by omega) w h
  have RI2 := fun w h => refIs_any bd m d b hm (by omega) w h
  have BI1 := fun w h => bigIs_any ad n c a hn (by omega) w h
  have BI2 := fun w h => bigIs_any bd m d b hm (by omega) w h
  have SB := Lib.hid (fun w h g => bigSub_bad ad bd n c m d a b hn hm (by omega) (by omega) hno w h g)
  have AB := Lib.hid (fun w h g => bigAdd_bad ad bd n c m d a b hn hm (by omega) (by omega) hno w h g)
  have CB := Lib.hid (fun w h g => bigCmp_bad ad bd n c m d a b hn hm (by omega) (by omega) hno w h g)
  clear hS hT hn hm htab
  generalize isB a = pa at *
  generalize isB b = pb at *
  replace RI1 := Lib.hid RI1
  replace RI2 := Lib.hid RI2
  replace BI1 := Lib.hid BI1
  replace BI2 := Lib.hid BI2
  rcases pa with _ | _
  · rcases pb with _ | _
    · clear hno
      go_enter Tryd.func5, Tryd.ntmps5
      go_wp2_with fail
      with_reducible refine (AW.out).mono ?_
      rintro e w1 ⟨rfl, hb1⟩
      have a_1 := Lib.hid (HS.out.beyond hb1)
      have b_1 := Lib.hid (HT.out.beyond hb1)
      have hw1 : Below w.heap.size w w1 := hb1
      go_wp2_with fail
      with_reducible refine (RI1.out _ a_1.out).mono ?_
      rintro e w' ⟨rfl, rfl⟩
      go_wp2_with fail
      with_reducible refine (RI2.out _ b_1.out).mono ?_
      rintro e w' ⟨rfl, rfl⟩
      go_wp2_with fail
      with_reducible refine (BI1.out _ a_1.out).mono ?_
      rintro e w' ⟨rfl, rfl⟩
      go_wp2_with fail
      with_reducible refine (BI2.out _ b_1.out).mono ?_
      rintro e w' ⟨rfl, rfl⟩
      go_wp2_with fail
      with_reducible refine (SB.out _ a_1.out b_1.out).mono ?_
      rintro e w' ⟨rfl, rfl⟩
      go_wp2_with fail
      with_reducible refine (AB.out _ a_1.out b_1.out).mono ?_
      rintro e w' ⟨rfl, rfl⟩
      go_wp2_with fail
      with_reducible refine (CB.out _ a_1.out b_1.out).mono ?_
      rintro e w' ⟨rfl, rfl⟩
      go_wp2_with fail
      go_ret
      exact ⟨by first | rfl | (simp; done) | (simp [*]; done), hw1⟩
    · clear hno
      go_enter Tryd.func5, Tryd.ntmps5
      go_wp2_with fail
      with_reducible refine (AW.out).mono ?_
      rintro e w1 ⟨rfl, hb1⟩
      have a_1 := Lib.hid (HS.out.beyond hb1)
      have b_1 := Lib.hid (HT.out.beyond hb1)
      have hw1 : Below w.heap.size w w1 := hb1
      go_wp2_with fail
      with_reducible refine (RI1.out _ a_1.out).mono ?_
      rintro e w' ⟨rfl, rfl⟩
      go_wp2_with fail
      with_reducible refine (RI2.out _ b_1.out).mono ?_
      rintro e w' ⟨rfl, rfl⟩
      go_wp2_with fail
      with_reducible refine (BI1.out _ a_1.out).mono ?_
      rintro e w' ⟨rfl, rfl⟩
      go_wp2_with fail
      with_reducible refine (BI2.out _ b_1.out).mono ?_
      rintro e w' ⟨rfl, rfl⟩
      go_wp2_with fail
      with_reducible refine (SB.out _ a_1.out b_1.out).mono ?_
      rintro e w' ⟨rfl, rfl⟩
      go_wp2_with fail
      with_reducible refine (AB.out _ a_1.out b_1.out).mono ?_
      rintro e w' ⟨rfl, rfl⟩
      go_wp2_with fail
      with_reducible refine (CB.out _ a_1.out b_1.out).mono ?_
      rintro e w' ⟨rfl, rfl⟩
      go_wp2_with fail
      go_ret
      exact ⟨by first | rfl | (simp; done) | (simp [*]; done), hw1⟩
  · rcases pb with _ | _
    · clear hno
      go_enter Tryd.func5, Tryd.ntmps5
      go_wp2_with fail
      with_reducible refine (AW.out).mono ?_
      rintro e w1 ⟨rfl, hb1⟩
      have a_1 := Lib.hid (HS.out.beyond hb1)
      have b_1 := Lib.hid (HT.out.beyond hb1)
      have hw1 : Below w.heap.size w w1 := hb1
      go_wp2_with fail
      with_reducible refine (RI1.out _ a_1.out).mono ?_
      rintro e w' ⟨rfl, rfl⟩
      go_wp2_with fail
      with_reducible refine (RI2.out _ b_1.out).mono ?_
      rintro e w' ⟨rfl, rfl⟩
      go_wp2_with fail
      with_reducible refine (BI1.out _ a_1.out).mono ?_
      rintro e w' ⟨rfl, rfl⟩
      go_wp2_with fail
      with_reducible refine (BI2.out _ b_1.out).mono ?_
      rintro e w' ⟨rfl, rfl⟩
      go_wp2_with fail
      with_reducible refine (SB.out _ a_1.out b_1.out).mono ?_
      rintro e w' ⟨rfl, rfl⟩
      go_wp2_with fail
      with_reducible refine (AB.out _ a_1.out b_1.out).mono ?_
      rintro e w' ⟨rfl, rfl⟩
      go_wp2_with fail
      with_reducible refine (CB.out _ a_1.out b_1.out).mono ?_
      rintro e w' ⟨rfl, rfl⟩
      go_wp2_with fail
      go_ret
      exact ⟨by first | rfl | (simp; done) | (simp [*]; done), hw1⟩
    · rcases hno with h | h <;> cases h
set_option maxHeartbeats 6400000 in
set_option maxRecDepth 100000 in
theorem bigSums_good (ad bd : Option Addr) (n c m d : Nat) (a b : List Nat) (hn : a.length = n) (hm : b.length = m) (ha : isB a = true) (hb : isB b = true) (da : DigL a) (db : DigL b) (w : World) (htab : PowTab w) (hS : Sl .u16 w ad n (gi a)) (hT : Sl .u16 w bd m (gi b)) :
    Calls Tryd.prog 5 #[.slice ad n c, .slice bd m d] w fun e w' => e = .returned (.bool true) ∧ Below w.heap.size w w' := by
  have AW := Lib.hid (awake9 w htab)
  have HS := Lib.hid hS
  have HT := Lib.hid hT
  have hn256 : n ≤ 256 := by have := (isB_iff.1 ha).1; omega
  have hm256 : m ≤ 256 := by have := (isB_iff.1 hb).1; omega
  have hca : Can a := ⟨da, (isB_iff.1 ha).2⟩
  have hcb : Can b := ⟨db, (isB_iff.1 hb).2⟩
  have RI1 := Lib.hid (fun w h => ha ▸ refIs_any ad n c a hn (by omega) w h)
  have RI2 := Lib.hid (fun w h => hb ▸ refIs_any bd m d b hm (by omega) w h)
  have BI1 := Lib.hid (fun w h => ha ▸ bigIs_any ad n c a hn (by omega) w h)
  have BI2 := Lib.hid (fun w h => hb ▸ bigIs_any bd m d b hm (by omega) w h)
  obtain ⟨P, hP⟩ : ∃ P, dg (valL a + valL b) = P := ⟨_, rfl⟩
  obtain ⟨L, hL⟩ : ∃ L, P.length = L := ⟨_, rfl⟩
  have hL3 : L ≤ 257 := by rw [← hL, ← hP]; exact sum_len (n := 256) (m := 0) da db (by omega) (by omega)
  have AD := Lib.hid (fun w h g => (bigAdd_yes ad bd n c m d a b hn hm (by omega) (by omega) ha hb da db w h g).mono (fun e w' (h : RetU _ _ _ _) => memU_of (hP ▸ h) hL))
  have RA := Lib.hid (fun w h g => (refAdd_any ad bd n c m d a b hn hm (by omega) (by omega) hca hcb w h g).mono (fun e w' (h : RetU _ _ _ _) => memU_of (hP ▸ h) hL))
  have SA := fun x y cx cy w h g => same_any x y L cx L cy P P hL hL (by omega) (by omega) w h g
  rw [decide_eq_true rfl] at SA
  replace SA := Lib.hid SA
  have RC := fun w h g => refCmp_any ad bd n c m d a b hn hm (by omega) (by omega) da db w h g
  have BC := fun w h g => bigCmp_yes ad bd n c m d a b hn hm (by omega) (by omega) ha hb da db w h g
  have hcmp := cmpL_can hca hcb
  by_cases hge : valL b ≤ valL a
  · obtain ⟨R, hR⟩ : ∃ R, cmpL a b = R := ⟨_, rfl⟩
    rw [hR] at RC BC
    have R0 : 0 ≤ R := by rw [← hR, hcmp, if_neg (by omega)]; split <;> decide
    have dR : decide (0 ≤ R) = true := decide_eq_true R0
    replace RC := Lib.hid RC
    replace BC := Lib.hid BC
    obtain ⟨D, hD⟩ : ∃ D, dg (valL a - valL b) = D := ⟨_, rfl⟩
    obtain ⟨M, hM⟩ : ∃ M, D.length = M := ⟨_, rfl⟩
    have hM3 : M ≤ 256 := by rw [← hM, ← hD]; have := sub_len (valL b) da; omega
    have hmn : m ≤ n := by
      rcases Nat.lt_or_ge n m with h | h
      · have := hca.lt_len hcb (by omega); omega
      · exact h
    have SU := fun w h g => bigSub_yes ad bd n c m d a b hn hm (by omega) (by omega) ha hb da db hge w h g
    rw [hD, hM] at SU
    replace SU := Lib.hid SU
    have RS := Lib.hid (fun w h g => (refSub_any ad bd n c m d a b hn hm (by omega) hmn da db hge w h g).mono (fun e w' (h : RetU _ _ _ _) => memU_of (hD ▸ h) hM))
    have SD := fun x y cx cy w h g => same_any x y M cx M cy D D hM hM (by omega) (by omega) w h g
    rw [decide_eq_true rfl] at SD
    replace SD := Lib.hid SD
    unfold MemU at AD RA RS
    clear hcmp hR hge hP hL hD hM hca hcb hS hT hn hm ha hb da db htab
    go_enter Tryd.func5, Tryd.ntmps5
    go_wp2_with fail
    with_reducible refine (AW.out).mono ?_
    rintro e w1 ⟨rfl, hb1⟩
    have a_1 := Lib.hid (HS.out.beyond hb1)
    have b_1 := Lib.hid (HT.out.beyond hb1)
    have hw1 : Below w.heap.size w w1 := hb1
    go_wp2_with fail
    with_reducible refine (RI1.out _ a_1.out).mono ?_
    rintro e w' ⟨rfl, rfl⟩
    go_wp2_with fail
    with_reducible refine (RI2.out _ b_1.out).mono ?_
    rintro e w' ⟨rfl, rfl⟩
    go_wp2_with fail
    with_reducible refine (BI1.out _ a_1.out).mono ?_
    rintro e w' ⟨rfl, rfl⟩
    go_wp2_with fail
    with_reducible refine (BI2.out _ b_1.out).mono ?_
    rintro e w' ⟨rfl, rfl⟩
    go_wp2_with fail
    with_reducible refine (SU.out _ a_1.out b_1.out).mono ?_
    rintro e w2 ⟨x2, cx2, rfl, s2, hb2⟩
    have a_2 := Lib.hid (a_1.out.beyond hb2)
    clear a_1
    have b_2 := Lib.hid (b_1.out.beyond hb2)
    clear b_1
    have d_2 := Lib.hid s2
    clear s2
    have hw2 : Below w.heap.size w w2 := Below.trans hw1 (hb2.mono hw1.size)
    clear hb2
    go_wp2_with fail
    with_reducible refine (RC.out _ a_2.out b_2.out).mono ?_
    rintro e w' ⟨rfl, q3, rfl⟩
    have a_3 := Lib.hid (a_2.out.drewN q3)
    clear a_2
    have b_3 := Lib.hid (b_2.out.drewN q3)
    clear b_2
    have d_3 := Lib.hid (d_2.out.drewN q3)
    clear d_2
    have hw3 := below_drewN hw2 q3
    generalize w2.drewN q3 = w3 at *
    go_wp2_with fail
    with_reducible refine (BC.out _ a_3.out b_3.out).mono ?_
    rintro e w' ⟨rfl, q4, rfl⟩
    have a_4 := Lib.hid (a_3.out.drewN q4)
    clear a_3
    have b_4 := Lib.hid (b_3.out.drewN q4)
    clear b_3
    have d_4 := Lib.hid (d_3.out.drewN q4)
    clear d_3
    have hw4 := below_drewN hw3 q4
    generalize w3.drewN q4 = w4 at *
    go_wp2_with fail
    with_reducible refine (AD.out _ a_4.out b_4.out).mono ?_
    rintro e w5 ⟨x5, cx5, rfl, s5, hb5⟩
    have a_5 := Lib.hid (a_4.out.beyond hb5)
    clear a_4
    have b_5 := Lib.hid (b_4.out.beyond hb5)
    clear b_4
    have d_5 := Lib.hid (d_4.out.beyond hb5)
    clear d_4
    have p_5 := Lib.hid s5
    clear s5
    have hw5 : Below w.heap.size w w5 := Below.trans hw4 (hb5.mono hw4.size)
    clear hb5
    go_wp2_with fail
    with_reducible refine (RA.out _ a_5.out b_5.out).mono ?_
    rintro e w6 ⟨x6, cx6, rfl, s6, hb6⟩
    have a_6 := Lib.hid (a_5.out.beyond hb6)
    clear a_5
    have b_6 := Lib.hid (b_5.out.beyond hb6)
    clear b_5
    have d_6 := Lib.hid (d_5.out.beyond hb6)
    clear d_5
    have p_6 := Lib.hid (p_5.out.beyond hb6)
    clear p_5
    have r_6 := Lib.hid s6
    clear s6
    have hw6 : Below w.heap.size w w6 := Below.trans hw5 (hb6.mono hw5.size)
    clear hb6
    go_wp2_with fail
    with_reducible refine (SA.out _ _ _ _ _ p_6.out r_6.out).mono ?_
    rintro e w' ⟨rfl, q7, rfl⟩
    have a_7 := Lib.hid (a_6.out.drewN q7)
    clear a_6
    have b_7 := Lib.hid (b_6.out.drewN q7)
    clear b_6
    have d_7 := Lib.hid (d_6.out.drewN q7)
    clear d_6
    have hw7 := below_drewN hw6 q7
    generalize w6.drewN q7 = w7 at *
    go_wp2_with fail
    with_reducible refine (RS.out _ a_7.out b_7.out).mono ?_
    rintro e w8 ⟨x8, cx8, rfl, s8, hb8⟩
    have a_8 := Lib.hid (a_7.out.beyond hb8)
    clear a_7
    have b_8 := Lib.hid (b_7.out.beyond hb8)
    clear b_7
    have d_8 := Lib.hid (d_7.out.beyond hb8)
    clear d_7
    have r_8 := Lib.hid s8
    clear s8
    have hw8 : Below w.heap.size w w8 := Below.trans hw7 (hb8.mono hw7.size)
    clear hb8
    go_wp2_with fail
    with_reducible refine (SD.out _ _ _ _ _ d_8.out r_8.out).mono ?_
    rintro e w' ⟨rfl, q9, rfl⟩
    have a_9 := Lib.hid (a_8.out.drewN q9)
    clear a_8
    have b_9 := Lib.hid (b_8.out.drewN q9)
    clear b_8
    have d_9 := Lib.hid (d_8.out.drewN q9)
    clear d_8
    have r_9 := Lib.hid (r_8.out.drewN q9)
    clear r_8
    have hw9 := below_drewN hw8 q9
    generalize w8.drewN q9 = w9 at *
    go_wp2_with fail
    go_ret
    exact ⟨by first | rfl | (simp; done) | (simp [*]; done), hw9⟩
  · have hlt : valL a < valL b := by omega
    have SL := Lib.hid (fun w h g => bigSub_less ad bd n c m d a b hn hm (by omega) (by omega) ha hb da db hlt w h g)
    rw [if_pos hlt] at hcmp
    rw [hcmp] at RC BC
    replace RC := Lib.hid RC
    replace BC := Lib.hid BC
    unfold MemU at AD RA
    clear hcmp hge hP hL hca hcb hS hT hn hm ha hb da db htab hlt
    go_enter Tryd.func5, Tryd.ntmps5
    go_wp2_with fail
    with_reducible refine (AW.out).mono ?_
    rintro e w1 ⟨rfl, hb1⟩
    have a_1 := Lib.hid (HS.out.beyond hb1)
    have b_1 := Lib.hid (HT.out.beyond hb1)
    have hw1 : Below w.heap.size w w1 := hb1
    go_wp2_with fail
    with_reducible refine (RI1.out _ a_1.out).mono ?_
    rintro e w' ⟨rfl, rfl⟩
    go_wp2_with fail
    with_reducible refine (RI2.out _ b_1.out).mono ?_
    rintro e w' ⟨rfl, rfl⟩
    go_wp2_with fail
    with_reducible refine (BI1.out _ a_1.out).mono ?_
    rintro e w' ⟨rfl, rfl⟩
    go_wp2_with fail
    with_reducible refine (BI2.out _ b_1.out).mono ?_
    rintro e w' ⟨rfl, rfl⟩
    go_wp2_with fail
    with_reducible refine (SL.out _ a_1.out b_1.out).mono ?_
    rintro e w' ⟨rfl, q2, rfl⟩
    have a_2 := Lib.hid (a_1.out.drewN q2)
    clear a_1
    have b_2 := Lib.hid (b_1.out.drewN q2)
    clear b_1
    have hw2 := below_drewN hw1 q2
    generalize w1.drewN q2 = w2 at *
    go_wp2_with fail
    with_reducible refine (RC.out _ a_2.out b_2.out).mono ?_
    rintro e w' ⟨rfl, q3, rfl⟩
    have a_3 := Lib.hid (a_2.out.drewN q3)
    clear a_2
    have b_3 := Lib.hid (b_2.out.drewN q3)
    clear b_2
    have hw3 := below_drewN hw2 q3
    generalize w2.drewN q3 = w3 at *
    go_wp2_with fail
    with_reducible refine (BC.out _ a_3.out b_3.out).mono ?_
    rintro e w' ⟨rfl, q4, rfl⟩
    have a_4 := Lib.hid (a_3.out.drewN q4)
    clear a_3
    have b_4 := Lib.hid (b_3.out.drewN q4)
    clear b_3
    have hw4 := below_drewN hw3 q4
    generalize w3.drewN q4 = w4 at *
    go_wp2_with fail
    with_reducible refine (AD.out _ a_4.out b_4.out).mono ?_
    rintro e w5 ⟨x5, cx5, rfl, s5, hb5⟩
    have a_5 := Lib.hid (a_4.out.beyond hb5)
    clear a_4
    have b_5 := Lib.hid (b_4.out.beyond hb5)
    clear b_4
    have p_5 := Lib.hid s5
    clear s5
    have hw5 : Below w.heap.size w w5 := Below.trans hw4 (hb5.mono hw4.size)
    clear hb5
    go_wp2_with fail
    with_reducible refine (RA.out _ a_5.out b_5.out).mono ?_
    rintro e w6 ⟨x6, cx6, rfl, s6, hb6⟩
    have a_6 := Lib.hid (a_5.out.beyond hb6)
    clear a_5
    have b_6 := Lib.hid (b_5.out.beyond hb6)
    clear b_5
    have p_6 := Lib.hid (p_5.out.beyond hb6)
    clear p_5
    have r_6 := Lib.hid s6
    clear s6
    have hw6 : Below w.heap.size w w6 := Below.trans hw5 (hb6.mono hw5.size)
    clear hb6
    go_wp2_with fail
    with_reducible refine (SA.out _ _ _ _ _ p_6.out r_6.out).mono ?_
    rintro e w' ⟨rfl, q7, rfl⟩
    have a_7 := Lib.hid (a_6.out.drewN q7)
    clear a_6
    have b_7 := Lib.hid (b_6.out.drewN q7)
    clear b_6
    have hw7 := below_drewN hw6 q7
    generalize w6.drewN q7 = w7 at *
    go_wp2_with fail
    go_ret
    exact ⟨by first | rfl | (simp; done) | (simp [*]; done), hw7⟩
theorem bigSums_walk (ad : Option Addr) (n c : Nat) (f : Nat → Int) (bd : Option Addr) (m d : Nat) (g : Nat → Int) (w : World) (hS : Sl .u16 w ad n f) (hn : n ≤ maxLen) (hf : DgF n f) (hT : Sl .u16 w bd m g) (hm : m ≤ maxLen) (hg : DgF m g) (htab : PowTab w) :
    Calls Tryd.prog 5 #[.slice ad n c, .slice bd m d] w fun e w' => e = .returned (.bool true) ∧ Below w.heap.size w w' := by
  by_cases h : n ≤ 300 ∧ m ≤ 300
  · cases ha : isB (lst n f) with
    | false => exact bigSums_bad ad bd n c m d _ _ (lst_len n f) (lst_len m g) h.1 h.2 (Or.inl ha) w htab (lst_sl hf hS) (lst_sl hg hT)
    | true =>
      cases hb : isB (lst m g) with
      | false => exact bigSums_bad ad bd n c m d _ _ (lst_len n f) (lst_len m g) h.1 h.2 (Or.inr hb) w htab (lst_sl hf hS) (lst_sl hg hT)
      | true => exact bigSums_good ad bd n c m d _ _ (lst_len n f) (lst_len m g) ha hb (lst_dig hf) (lst_dig hg) w htab (lst_sl hf hS) (lst_sl hg hT)
  · exact bigSums_long ad bd n c m d hn hm h w htab
end Go.Proofs.YthlpimdpgmknoaaDoor
