/- The law BigDivs. Conditions: the table of powers of 10 is laid. -/
import Derived.Test.YtogmmhacjndebaaDoorN29
import Derived.Test.YtogmmhacjndebaaDoorN14
import Derived.Test.YtogmmhacjndebaaDoorN10
import Derived.Outline
namespace Go.Proofs.YtogmmhacjndebaaDoor
open Go.RowKit
set_option linter.unusedSimpArgs false
set_option linter.unusedVariables false
attribute [local irreducible] Fl.K
set_option maxHeartbeats 3200000 in
set_option maxRecDepth 100000 in
theorem bigDivs_long (ad bd : Option Addr) (n c m d : Nat) (hz : n ≤ maxLen) (hz2 : m ≤ maxLen) (h : ¬ (n ≤ 100 ∧ m ≤ 100)) (w : World) (htab : PowTab w) :
    Calls Tryd.prog 3 #[.slice ad n c, .slice bd m d] w fun e w' => e = .returned (.bool true) ∧ Below w.heap.size w w' := by
  have AW := Lib.hid (awake9 w htab)
  unfold maxLen at hz hz2
  clear htab
  by_cases h1 : n ≤ 100
  · have h2 : ¬ m ≤ 100 := fun x => h ⟨h1, x⟩
    clear h
    go_enter Tryd.func3, Tryd.ntmps3
    go_wp2_with fail
    with_reducible refine (AW.out).mono ?_
    rintro e w1 ⟨rfl, hb1⟩
    have hw1 : Below w.heap.size w w1 := hb1
    go_wp2_with fail
    go_ret
    exact ⟨by first | rfl | (simp; done) | (simp [*]; done), hw1⟩
  · clear h
    go_enter Tryd.func3, Tryd.ntmps3
    go_wp2_with fail
    with_reducible refine (AW.out).mono ?_
    rintro e w1 ⟨rfl, hb1⟩
    have hw1 : Below w.heap.size w w1 := hb1
    go_wp2_with fail
    go_ret
    exact ⟨by first | rfl | (simp; done) | (simp [*]; done), hw1⟩
set_option maxHeartbeats 6400000 in
set_option maxRecDepth 100000 in
theorem bigDivs_bad (ad bd : Option Addr) (n c m d : Nat) (a b : List Nat) (hn : a.length = n) (hm : b.length = m) (hz : n ≤ 100) (hz2 : m ≤ 100) (hno : isB a = false ∨ isB b = false ∨ m = 0) (w : World) (htab : PowTab w) (hS : Sl .u16 w ad n (gi a)) (hT : Sl .u16 w bd m (gi b)) :
    Calls Tryd.prog 3 #[.slice ad n c, .slice bd m d] w fun e w' => e = .returned (.bool true) ∧ Below w.heap.size w w' := by
  have AW := Lib.hid (awake9 w htab)
  have HS := Lib.hid hS
  have HT := Lib.hid hT
  have RI1 := fun w h => refIs_any ad n c a hn (by omega) w h
  have RI2 := fun w h => refIs_any bd m d b hm (by omega) w h
  have DV := Lib.hid (fun w h g => div_no ad bd n c m d a b hn hm (by omega) (by omega) hno w h g)
  clear hS hT hn hm htab
  generalize isB a = pa at *
  generalize isB b = pb at *
  replace RI1 := Lib.hid RI1
  replace RI2 := Lib.hid RI2
  rcases pa with _ | _
  · clear hno
    go_enter Tryd.func3, Tryd.ntmps3
    go_wp2_with fail
    with_reducible refine (AW.out).mono ?_
    rintro e w1 ⟨rfl, hb1⟩
    have a_1 := Lib.hid (HS.out.beyond hb1)
    have b_1 := Lib.hid (HT.out.beyond hb1)
    have hw1 : Below w.heap.size w w1 := hb1
    go_wp2_with fail
    with_reducible refine (DV.out _ a_1.out b_1.out).mono ?_
    rintro e w' ⟨rfl, rfl⟩
    go_wp2_with fail
    with_reducible refine (RI1.out _ a_1.out).mono ?_
    rintro e w' ⟨rfl, rfl⟩
    go_wp2_with fail
    go_ret
    exact ⟨by first | rfl | (simp; done) | (simp [*]; done), hw1⟩
  · rcases pb with _ | _
    · clear hno
      go_enter Tryd.func3, Tryd.ntmps3
      go_wp2_with fail
      with_reducible refine (AW.out).mono ?_
      rintro e w1 ⟨rfl, hb1⟩
      have a_1 := Lib.hid (HS.out.beyond hb1)
      have b_1 := Lib.hid (HT.out.beyond hb1)
      have hw1 : Below w.heap.size w w1 := hb1
      go_wp2_with fail
      with_reducible refine (DV.out _ a_1.out b_1.out).mono ?_
      rintro e w' ⟨rfl, rfl⟩
      go_wp2_with fail
      with_reducible refine (RI1.out _ a_1.out).mono ?_
      rintro e w' ⟨rfl, rfl⟩
      go_wp2_with fail
      with_reducible refine (RI2.out _ b_1.out).mono ?_
      rintro e w' ⟨rfl, rfl⟩
      go_wp2_with fail
      go_ret
      exact ⟨by first | rfl | (simp; done) | (simp [*]; done), hw1⟩
    · obtain rfl : m = 0 := by
        rcases hno with h | h | h
        · cases h
        · cases h
        · exact h
      clear hno
      go_enter Tryd.func3, Tryd.ntmps3
      go_wp2_with fail
      with_reducible refine (AW.out).mono ?_
      rintro e w1 ⟨rfl, hb1⟩
      have a_1 := Lib.hid (HS.out.beyond hb1)
      have b_1 := Lib.hid (HT.out.beyond hb1)
      have hw1 : Below w.heap.size w w1 := hb1
      go_wp2_with fail
      with_reducible refine (DV.out _ a_1.out b_1.out).mono ?_
      rintro e w' ⟨rfl, rfl⟩
      go_wp2_with fail
      with_reducible refine (RI1.out _ a_1.out).mono ?_
      rintro e w' ⟨rfl, rfl⟩
      go_wp2_with fail
      with_reducible refine (RI2.out _ b_1.out).mono ?_
      rintro e w' ⟨rfl, rfl⟩
      go_wp2_with fail
      go_ret
      exact ⟨by first | rfl | (simp; done) | (simp [*]; done), hw1⟩
set_option maxHeartbeats 6400000 in
set_option maxRecDepth 100000 in
theorem bigDivs_good (ad bd : Option Addr) (n c m d : Nat) (a b : List Nat) (hn : a.length = n) (hm : b.length = m) (hz : n ≤ 100) (hz2 : m ≤ 100) (ha : isB a = true) (hb : isB b = true) (hm0 : m ≠ 0) (da : DigL a) (db : DigL b) (w : World) (htab : PowTab w) (hS : Sl .u16 w ad n (gi a)) (hT : Sl .u16 w bd m (gi b)) :
    Calls Tryd.prog 3 #[.slice ad n c, .slice bd m d] w fun e w' => e = .returned (.bool true) ∧ Below w.heap.size w w' := by
  have AW := Lib.hid (awake9 w htab)
  have HS := Lib.hid hS
  have HT := Lib.hid hT
  have hca : Can a := ⟨da, (isB_iff.1 ha).2⟩
  have hcb : Can b := ⟨db, (isB_iff.1 hb).2⟩
  have RI1 := Lib.hid (fun w h => ha ▸ refIs_any ad n c a hn (by omega) w h)
  have RI2 := Lib.hid (fun w h => hb ▸ refIs_any bd m d b hm (by omega) w h)
  have hB0 : 0 < valL b := by
    have h := hcb.ge (by omega)
    have h2 : 0 < 65536 ^ (b.length - 1) := Nat.pow_pos (by decide)
    omega
  have hA := val_lt da
  have hBl := val_lt db
  rw [hn] at hA
  rw [hm] at hBl
  have hdm := Nat.div_add_mod (valL a) (valL b)
  have hml := Nat.mod_lt (valL a) hB0
  have hqle := Nat.div_le_self (valL a) (valL b)
  have DV := fun w h g => div_yes ad bd n c m d a b hn hm (by omega) (by omega) ha hb da db hm0 w h g
  unfold DivP at DV
  rw [Nat.mul_comm] at hdm
  obtain ⟨A, hAA⟩ : ∃ A, valL a = A := ⟨_, rfl⟩
  obtain ⟨B, hBB⟩ : ∃ B, valL b = B := ⟨_, rfl⟩
  rw [hAA, hBB] at DV
  rw [hAA] at hA hqle
  rw [hBB] at hB0 hBl
  rw [hAA, hBB] at hdm
  rw [hAA, hBB] at hml
  rw [hBB] at hqle
  obtain ⟨x, hx⟩ : ∃ x, A / B = x := ⟨_, rfl⟩
  obtain ⟨y, hy⟩ : ∃ y, A % B = y := ⟨_, rfl⟩
  rw [hx, hy] at DV hdm
  rw [hy] at hml
  rw [hx] at hqle
  have hQc := can_dg x
  have hRc := can_dg y
  have hQl : (dg x).length ≤ n := dg_len_le (by omega)
  have hRl : (dg y).length ≤ m := dg_len_le (by omega)
  have hQv := val_dg x
  have hRv := val_dg y
  obtain ⟨Q, hQ⟩ : ∃ Q, dg x = Q := ⟨_, rfl⟩
  obtain ⟨R, hR⟩ : ∃ Q, dg y = Q := ⟨_, rfl⟩
  rw [hQ, hR] at DV
  rw [hQ] at hQc hQl hQv
  rw [hR] at hRc hRl hRv
  obtain ⟨Lq, hLq⟩ : ∃ L, Q.length = L := ⟨_, rfl⟩
  obtain ⟨Lr, hLr⟩ : ∃ L, R.length = L := ⟨_, rfl⟩
  rw [hLq, hLr] at DV
  rw [hLq] at hQl
  rw [hLr] at hRl
  have hPc := can_dg (x * B)
  have hPv := val_dg (x * B)
  have hPl : (dg (x * B)).length ≤ n := dg_len_le (by omega)
  have MU := fun (qd : Option Addr) (cq : Nat) w h g => refMul_any qd bd Lq cq m d Q b hLq hm (by omega) (by omega) hQc.1 db w h g
  unfold RetU at MU
  rw [hQv, hBB] at MU
  obtain ⟨P, hP⟩ : ∃ Q, dg (x * B) = Q := ⟨_, rfl⟩
  rw [hP] at MU hPc hPv hPl
  obtain ⟨Lp, hLp⟩ : ∃ L, P.length = L := ⟨_, rfl⟩
  rw [hLp] at MU hPl
  have AD := fun (xd : Option Addr) (cx : Nat) (rd : Option Addr) (cr : Nat) w h g => refAdd_any xd rd Lp cx Lr cr P R hLp hLr (by omega) (by omega) hPc hRc w h g
  unfold RetU at AD
  rw [hPv, hRv, hdm, ← hAA, dg_val hca, hn] at AD
  have SA := fun (yd : Option Addr) (cy : Nat) w h g => same_any yd ad n cy n c a a hn hn (by omega) (by omega) w h g
  rw [decide_eq_true rfl] at SA
  have RC := fun (rd : Option Addr) (cr : Nat) w h g => refCmp_any rd bd Lr cr m d R b hLr hm (by omega) (by omega) hRc.1 db w h g
  rw [cmpL_can hRc hcb, hRv, hBB, if_pos hml] at RC
  have RIq := fun (qd : Option Addr) (cq : Nat) w h => refIs_any qd Lq cq Q hLq (by omega) w h
  rw [isB_iff.2 ⟨by omega, hQc.2⟩] at RIq
  have RIr := fun (rd : Option Addr) (cr : Nat) w h => refIs_any rd Lr cr R hLr (by omega) w h
  rw [isB_iff.2 ⟨by omega, hRc.2⟩] at RIr
  replace DV := Lib.hid DV
  replace MU := Lib.hid MU
  replace AD := Lib.hid AD
  replace SA := Lib.hid SA
  replace RC := Lib.hid RC
  replace RIq := Lib.hid RIq
  replace RIr := Lib.hid RIr
  have hm1 : ¬ (m : Int) = 0 := by omega
  have hm2 : ((m : Int) == 0) = false := beq_eq_false_iff_ne.2 hm1
  clear hS hT hn hm ha hb da db htab hca hcb hB0 hA hBl hdm hml hqle hAA hBB hx hy hQc hRc hQv hRv hQ hR hLq hLr hPc hPv hP hLp
  go_enter Tryd.func3, Tryd.ntmps3
  go_wp2_with fail
  with_reducible refine (AW.out).mono ?_
  rintro e w1 ⟨rfl, hb1⟩
  have a_1 := Lib.hid (HS.out.beyond hb1)
  have b_1 := Lib.hid (HT.out.beyond hb1)
  have hw1 : Below w.heap.size w w1 := hb1
  go_wp2_with fail
  with_reducible refine (DV.out _ a_1.out b_1.out).mono ?_
  rintro e w2 ⟨qd, cq, rd, cr, rfl, sq, sr, hb2⟩
  have a_2 := Lib.hid (a_1.out.beyond hb2)
  clear a_1
  have b_2 := Lib.hid (b_1.out.beyond hb2)
  clear b_1
  have q_2 := Lib.hid sq
  clear sq
  have r_2 := Lib.hid sr
  clear sr
  have hw2 : Below w.heap.size w w2 := Below.trans hw1 (hb2.mono hw1.size)
  clear hb2
  go_wp2_with fail
  with_reducible refine (RI1.out _ a_2.out).mono ?_
  rintro e w' ⟨rfl, rfl⟩
  go_wp2_with fail
  with_reducible refine (RI2.out _ b_2.out).mono ?_
  rintro e w' ⟨rfl, rfl⟩
  go_wp2_with fail
  with_reducible refine (RC.out rd cr _ r_2.out b_2.out).mono ?_
  rintro e w' ⟨rfl, q3, rfl⟩
  have a_3 := Lib.hid (a_2.out.drewN q3)
  clear a_2
  have b_3 := Lib.hid (b_2.out.drewN q3)
  clear b_2
  have q_3 := Lib.hid (q_2.out.drewN q3)
  clear q_2
  have r_3 := Lib.hid (r_2.out.drewN q3)
  clear r_2
  have hw3 := below_drewN hw2 q3
  generalize w2.drewN q3 = w3 at *
  go_wp2_with fail
  with_reducible refine (MU.out qd cq _ q_3.out b_3.out).mono ?_
  rintro e w4 ⟨xd, cx, rfl, hcx, sx, hb4⟩
  have a_4 := Lib.hid (a_3.out.beyond hb4)
  clear a_3
  have b_4 := Lib.hid (b_3.out.beyond hb4)
  clear b_3
  have q_4 := Lib.hid (q_3.out.beyond hb4)
  clear q_3
  have r_4 := Lib.hid (r_3.out.beyond hb4)
  clear r_3
  have x_4 := Lib.hid sx
  clear sx
  have hw4 : Below w.heap.size w w4 := Below.trans hw3 (hb4.mono hw3.size)
  clear hb4
  go_wp2_with fail
  with_reducible refine (AD.out xd cx rd cr _ x_4.out r_4.out).mono ?_
  rintro e w5 ⟨yd, cy, rfl, hcy, sy, hb5⟩
  have a_5 := Lib.hid (a_4.out.beyond hb5)
  clear a_4
  have b_5 := Lib.hid (b_4.out.beyond hb5)
  clear b_4
  have q_5 := Lib.hid (q_4.out.beyond hb5)
  clear q_4
  have r_5 := Lib.hid (r_4.out.beyond hb5)
  clear r_4
  have x_5 := Lib.hid (x_4.out.beyond hb5)
  clear x_4
  have y_5 := Lib.hid sy
  clear sy
  have hw5 : Below w.heap.size w w5 := Below.trans hw4 (hb5.mono hw4.size)
  clear hb5
  go_wp2_with fail
  with_reducible refine (SA.out yd cy _ y_5.out a_5.out).mono ?_
  rintro e w' ⟨rfl, q6, rfl⟩
  have a_6 := Lib.hid (a_5.out.drewN q6)
  clear a_5
  have b_6 := Lib.hid (b_5.out.drewN q6)
  clear b_5
  have q_6 := Lib.hid (q_5.out.drewN q6)
  clear q_5
  have r_6 := Lib.hid (r_5.out.drewN q6)
  clear r_5
  have x_6 := Lib.hid (x_5.out.drewN q6)
  clear x_5
  have y_6 := Lib.hid (y_5.out.drewN q6)
  clear y_5
  have hw6 := below_drewN hw5 q6
  generalize w5.drewN q6 = w6 at *
  go_wp2_with fail
  with_reducible refine (RIq.out qd cq _ q_6.out).mono ?_
  rintro e w' ⟨rfl, rfl⟩
  go_wp2_with fail
  with_reducible refine (RIr.out rd cr _ r_6.out).mono ?_
  rintro e w' ⟨rfl, rfl⟩
  go_wp2_with fail
  go_ret
  exact ⟨by first | rfl | (simp; done) | (simp [*]; done), hw6⟩
theorem bigDivs_walk (ad : Option Addr) (n c : Nat) (f : Nat → Int) (bd : Option Addr) (m d : Nat) (g : Nat → Int) (w : World) (hS : Sl .u16 w ad n f) (hn : n ≤ maxLen) (hf : DgF n f) (hT : Sl .u16 w bd m g) (hm : m ≤ maxLen) (hg : DgF m g) (htab : PowTab w) :
    Calls Tryd.prog 3 #[.slice ad n c, .slice bd m d] w fun e w' => e = .returned (.bool true) ∧ Below w.heap.size w w' := by
  by_cases h : n ≤ 100 ∧ m ≤ 100
  · cases ha : isB (lst n f) with
    | false => exact bigDivs_bad ad bd n c m d _ _ (lst_len n f) (lst_len m g) h.1 h.2 (Or.inl ha) w htab (lst_sl hf hS) (lst_sl hg hT)
    | true =>
      cases hb : isB (lst m g) with
      | false => exact bigDivs_bad ad bd n c m d _ _ (lst_len n f) (lst_len m g) h.1 h.2 (Or.inr (Or.inl hb)) w htab (lst_sl hf hS) (lst_sl hg hT)
      | true =>
        by_cases h0 : m = 0
        · exact bigDivs_bad ad bd n c m d _ _ (lst_len n f) (lst_len m g) h.1 h.2 (Or.inr (Or.inr h0)) w htab (lst_sl hf hS) (lst_sl hg hT)
        · exact bigDivs_good ad bd n c m d _ _ (lst_len n f) (lst_len m g) h.1 h.2 ha hb h0 (lst_dig hf) (lst_dig hg) w htab (lst_sl hf hS) (lst_sl hg hT)
  · exact bigDivs_long ad bd n c m d hn hm h w htab
end Go.Proofs.YtogmmhacjndebaaDoor
