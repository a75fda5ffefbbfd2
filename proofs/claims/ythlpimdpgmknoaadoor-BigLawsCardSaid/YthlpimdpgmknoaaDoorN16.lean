/- The law BigLaws. Conditions: the table of powers of 10 is laid. -/
import Derived.Test.YthlpimdpgmknoaaDoorN15
import Derived.Outline
namespace Go.Proofs.YthlpimdpgmknoaaDoor
open Go.RowKit
set_option linter.unusedSimpArgs false
set_option linter.unusedVariables false
attribute [local irreducible] Fl.K
theorem isB_dg {v k : Nat} (h : (dg v).length ≤ k) (hk : k ≤ 256) : isB (dg v) = true := isB_iff.2 ⟨by omega, topn_dg v⟩
theorem add_mem {x y : List Nat} {n m : Nat} (hn : x.length = n) (hm : y.length = m) (hx : isB x = true) (hy : isB y = true) (dx : DigL x) (dy : DigL y) {P : List Nat} {L : Nat} (hP : dg (valL x + valL y) = P) (hL : P.length = L) (ad bd : Option Addr) (c d : Nat) (w : World) (hS : Sl .u16 w ad n (gi x)) (hT : Sl .u16 w bd m (gi y)) :
    Calls Tryd.prog 22 #[.slice ad n c, .slice bd m d] w fun e w' => ∃ x cx, e = .returned (.slice x L cx) ∧ Sl .u16 w' x L (gi P) ∧ Below w.heap.size w w' := by
  have h1 := (isB_iff.1 hx).1
  have h2 := (isB_iff.1 hy).1
  exact (bigAdd_yes ad bd n c m d x y hn hm (by omega) (by omega) hx hy dx dy w hS hT).mono (fun e w' (h : RetU _ _ _ _) => memU_of (hP ▸ h) hL)
theorem mul_mem {x y : List Nat} {n m : Nat} (hn : x.length = n) (hm : y.length = m) (hx : isB x = true) (hy : isB y = true) (dx : DigL x) (dy : DigL y) {P : List Nat} {L : Nat} (hP : dg (valL x * valL y) = P) (hL : P.length = L) (ad bd : Option Addr) (c d : Nat) (w : World) (hS : Sl .u16 w ad n (gi x)) (hT : Sl .u16 w bd m (gi y)) :
    Calls Tryd.prog 10 #[.slice ad n c, .slice bd m d] w fun e w' => ∃ x cx, e = .returned (.slice x L cx) ∧ Sl .u16 w' x L (gi P) ∧ Below w.heap.size w w' :=
  (bigMul_any ad bd n c m d x y hn hm hx hy dx dy w hS hT).mono (fun e w' (h : RetU _ _ _ _) => memU_of (hP ▸ h) hL)
theorem same_self {P : List Nat} {L : Nat} (hL : P.length = L) (hz : L ≤ 100000) (x y : Option Addr) (cx cy : Nat) (w : World) (h : Sl .u16 w x L (gi P)) (g : Sl .u16 w y L (gi P)) :
    Calls Tryd.prog 12 #[.slice x L cx, .slice y L cy] w fun e w' => e = .returned (.bool true) ∧ ∃ q, w' = w.drewN q := by
  have := same_any x y L cx L cy P P hL hL hz hz w h g
  rw [decide_eq_true rfl] at this
  exact this
set_option maxHeartbeats 6400000 in
set_option maxRecDepth 100000 in
theorem bigLaws_good (ad : Option Addr) (n c0 : Nat) (bd : Option Addr) (m d0 : Nat) (cd : Option Addr) (k e0 : Nat) (a b c : List Nat) (hn : a.length = n) (hm : b.length = m) (hk : c.length = k) (n80 : n ≤ 80) (m80 : m ≤ 80) (k80 : k ≤ 80) (ha : isB a = true) (hb : isB b = true) (hc : isB c = true) (da : DigL a) (db : DigL b) (dc : DigL c) (w : World) (htab : PowTab w) (hS : Sl .u16 w ad n (gi a)) (hT : Sl .u16 w bd m (gi b)) (hU : Sl .u16 w cd k (gi c)) :
    Calls Tryd.prog 6 #[.slice ad n c0, .slice bd m d0, .slice cd k e0] w fun e w' => e = .returned (.bool true) ∧ Below w.heap.size w w' := by
  have AW := Lib.hid (awake9 w htab)
  have HA := Lib.hid hS
  have HB := Lib.hid hT
  have HC := Lib.hid hU
  have I1 := Lib.hid (fun w h => ha ▸ refIs_any ad n c0 a hn (by omega) w h)
  have I2 := Lib.hid (fun w h => hb ▸ refIs_any bd m d0 b hm (by omega) w h)
  have I3 := Lib.hid (fun w h => hc ▸ refIs_any cd k e0 c hk (by omega) w h)
  have hca : Can a := ⟨da, (isB_iff.1 ha).2⟩
  obtain ⟨P1, hP1⟩ : ∃ P, dg (valL a + valL b) = P := ⟨_, rfl⟩
  obtain ⟨L1, hL1⟩ : ∃ L, P1.length = L := ⟨_, rfl⟩
  have l1 : L1 ≤ 81 := by rw [← hL1, ← hP1]; exact sum_len (m := 0) da db (by omega) (by omega)
  have i1 : isB P1 = true := by rw [← hP1]; exact isB_dg (k := 81) (by rw [hP1, hL1]; exact l1) (by decide)
  have v1 : valL P1 = valL a + valL b := by rw [← hP1, val_dg]
  have d1 : DigL P1 := by rw [← hP1]; exact dig_dg _
  have AB := Lib.hid (fun ad bd c d w => add_mem hn hm ha hb da db hP1 hL1 ad bd c d w)
  have BA := Lib.hid (fun ad bd c d w => add_mem hm hn hb ha db da (by rw [Nat.add_comm]; exact hP1) hL1 ad bd c d w)
  have S1 := Lib.hid (fun x y cx cy w => same_self hL1 (by omega) x y cx cy w)
  have SU := fun ad bd c d w h g => bigSub_yes ad bd L1 c m d P1 b hL1 hm (by omega) (by omega) i1 hb d1 db (by omega) w h g
  rw [v1, Nat.add_sub_cancel, dg_val hca, hn] at SU
  replace SU := Lib.hid SU
  have SA := Lib.hid (fun x y cx cy w => same_self hn (by omega) x y cx cy w)
  obtain ⟨R, hR⟩ : ∃ R, cmpL P1 a = R := ⟨_, rfl⟩
  have R0 : 0 ≤ R := by
    rw [← hR, cmpL_can ⟨d1, (isB_iff.1 i1).2⟩ hca, if_neg (by omega)]; split <;> decide
  have CP := fun ad bd c d w h g => bigCmp_yes ad bd L1 c n d P1 a hL1 hn (by omega) (by omega) i1 ha d1 da w h g
  rw [hR] at CP
  replace CP := Lib.hid CP
  obtain ⟨P2, hP2⟩ : ∃ P, dg (valL a * valL b) = P := ⟨_, rfl⟩
  obtain ⟨L2, hL2⟩ : ∃ L, P2.length = L := ⟨_, rfl⟩
  have l2 : L2 ≤ 160 := by rw [← hL2, ← hP2]; have := prod_len da db; omega
  have i2 : isB P2 = true := by rw [← hP2]; exact isB_dg (k := 160) (by rw [hP2, hL2]; exact l2) (by decide)
  have v2 : valL P2 = valL a * valL b := by rw [← hP2, val_dg]
  have d2 : DigL P2 := by rw [← hP2]; exact dig_dg _
  have MAB := Lib.hid (fun ad bd c d w => mul_mem hn hm ha hb da db hP2 hL2 ad bd c d w)
  have MBA := Lib.hid (fun ad bd c d w => mul_mem hm hn hb ha db da (by rw [Nat.mul_comm]; exact hP2) hL2 ad bd c d w)
  have S2 := Lib.hid (fun x y cx cy w => same_self hL2 (by omega) x y cx cy w)
  obtain ⟨P3, hP3⟩ : ∃ P, dg (valL b + valL c) = P := ⟨_, rfl⟩
  obtain ⟨L3, hL3⟩ : ∃ L, P3.length = L := ⟨_, rfl⟩
  have l3 : L3 ≤ 81 := by rw [← hL3, ← hP3]; exact sum_len (m := 0) db dc (by omega) (by omega)
  have i3 : isB P3 = true := by rw [← hP3]; exact isB_dg (k := 81) (by rw [hP3, hL3]; exact l3) (by decide)
  have v3 : valL P3 = valL b + valL c := by rw [← hP3, val_dg]
  have d3' : DigL P3 := by rw [← hP3]; exact dig_dg _
  have BC := Lib.hid (fun ad bd c' d w => add_mem hm hk hb hc db dc hP3 hL3 ad bd c' d w)
  obtain ⟨P4, hP4⟩ : ∃ P, dg (valL a * valL P3) = P := ⟨_, rfl⟩
  obtain ⟨L4, hL4⟩ : ∃ L, P4.length = L := ⟨_, rfl⟩
  have l4 : L4 ≤ 161 := by rw [← hL4, ← hP4]; have := prod_len da d3'; omega
  have MS := Lib.hid (fun ad bd c d w => mul_mem hn hL3 ha i3 da d3' hP4 hL4 ad bd c d w)
  obtain ⟨P5, hP5⟩ : ∃ P, dg (valL a * valL c) = P := ⟨_, rfl⟩
  obtain ⟨L5, hL5⟩ : ∃ L, P5.length = L := ⟨_, rfl⟩
  have l5 : L5 ≤ 160 := by rw [← hL5, ← hP5]; have := prod_len da dc; omega
  have i5 : isB P5 = true := by rw [← hP5]; exact isB_dg (k := 160) (by rw [hP5, hL5]; exact l5) (by decide)
  have v5 : valL P5 = valL a * valL c := by rw [← hP5, val_dg]
  have d5 : DigL P5 := by rw [← hP5]; exact dig_dg _
  have MAC := Lib.hid (fun ad bd c' d w => mul_mem hn hk ha hc da dc hP5 hL5 ad bd c' d w)
  have AM := Lib.hid (fun ad bd c' d w => add_mem hL2 hL5 i2 i5 d2 d5 (P := P4) (by rw [v2, v5, ← Nat.mul_add, ← v3]; exact hP4) hL4 ad bd c' d w)
  have S4 := Lib.hid (fun x y cx cy w => same_self hL4 (by omega) x y cx cy w)
  clear hS hT hU hn hm hk ha hb hc da db dc htab hca hP1 hL1 i1 v1 d1 hR hP2 hL2 i2 v2 d2 hP3 hL3 i3 v3 d3' hP4 hL4 hP5 hL5 i5 v5 d5
  go_enter Tryd.func6, Tryd.ntmps6
  go_wp2_with fail
  with_reducible refine (AW.out).mono ?_
  rintro e w1 ⟨rfl, hb1⟩
  have a_1 := Lib.hid (HA.out.beyond hb1)
  have b_1 := Lib.hid (HB.out.beyond hb1)
  have c_1 := Lib.hid (HC.out.beyond hb1)
  have hw1 : Below w.heap.size w w1 := hb1
  go_wp2_with fail
  with_reducible refine (I1.out _ a_1.out).mono ?_
  rintro e w' ⟨rfl, rfl⟩
  go_wp2_with fail
  with_reducible refine (I2.out _ b_1.out).mono ?_
  rintro e w' ⟨rfl, rfl⟩
  go_wp2_with fail
  with_reducible refine (I3.out _ c_1.out).mono ?_
  rintro e w' ⟨rfl, rfl⟩
  go_wp2_with fail
  with_reducible refine (AB.out _ _ _ _ _ a_1.out b_1.out).mono ?_
  rintro e w2 ⟨x2, cx2, rfl, s2, hb2⟩
  have a_2 := Lib.hid (a_1.out.beyond hb2)
  clear a_1
  have b_2 := Lib.hid (b_1.out.beyond hb2)
  clear b_1
  have c_2 := Lib.hid (c_1.out.beyond hb2)
  clear c_1
  have s_2 := Lib.hid s2
  clear s2
  have hw2 : Below w.heap.size w w2 := Below.trans hw1 (hb2.mono hw1.size)
  clear hb2
  go_wp2_with fail
  with_reducible refine (SU.out _ _ _ _ _ s_2.out b_2.out).mono ?_
  rintro e w3 ⟨x3, cx3, rfl, s3, hb3⟩
  have a_3 := Lib.hid (a_2.out.beyond hb3)
  clear a_2
  have b_3 := Lib.hid (b_2.out.beyond hb3)
  clear b_2
  have c_3 := Lib.hid (c_2.out.beyond hb3)
  clear c_2
  have d_3 := Lib.hid s3
  clear s3
  have hw3 : Below w.heap.size w w3 := Below.trans hw2 (hb3.mono hw2.size)
  clear hb3
  go_wp2_with fail
  with_reducible refine (SA.out _ _ _ _ _ d_3.out a_3.out).mono ?_
  rintro e w' ⟨rfl, q4, rfl⟩
  have a_4 := Lib.hid (a_3.out.drewN q4)
  clear a_3
  have b_4 := Lib.hid (b_3.out.drewN q4)
  clear b_3
  have c_4 := Lib.hid (c_3.out.drewN q4)
  clear c_3
  have hw4 := below_drewN hw3 q4
  generalize w3.drewN q4 = w4 at *
  go_wp2_with fail
  with_reducible refine (AB.out _ _ _ _ _ a_4.out b_4.out).mono ?_
  rintro e w5 ⟨x5, cx5, rfl, s5, hb5⟩
  have a_5 := Lib.hid (a_4.out.beyond hb5)
  clear a_4
  have b_5 := Lib.hid (b_4.out.beyond hb5)
  clear b_4
  have c_5 := Lib.hid (c_4.out.beyond hb5)
  clear c_4
  have s_5 := Lib.hid s5
  clear s5
  have hw5 : Below w.heap.size w w5 := Below.trans hw4 (hb5.mono hw4.size)
  clear hb5
  go_wp2_with fail
  with_reducible refine (BA.out _ _ _ _ _ b_5.out a_5.out).mono ?_
  rintro e w6 ⟨x6, cx6, rfl, s6, hb6⟩
  have a_6 := Lib.hid (a_5.out.beyond hb6)
  clear a_5
  have b_6 := Lib.hid (b_5.out.beyond hb6)
  clear b_5
  have c_6 := Lib.hid (c_5.out.beyond hb6)
  clear c_5
  have s_6 := Lib.hid (s_5.out.beyond hb6)
  clear s_5
  have t_6 := Lib.hid s6
  clear s6
  have hw6 : Below w.heap.size w w6 := Below.trans hw5 (hb6.mono hw5.size)
  clear hb6
  go_wp2_with fail
  with_reducible refine (S1.out _ _ _ _ _ s_6.out t_6.out).mono ?_
  rintro e w' ⟨rfl, q7, rfl⟩
  have a_7 := Lib.hid (a_6.out.drewN q7)
  clear a_6
  have b_7 := Lib.hid (b_6.out.drewN q7)
  clear b_6
  have c_7 := Lib.hid (c_6.out.drewN q7)
  clear c_6
  have hw7 := below_drewN hw6 q7
  generalize w6.drewN q7 = w7 at *
  go_wp2_with fail
  with_reducible refine (MAB.out _ _ _ _ _ a_7.out b_7.out).mono ?_
  rintro e w8 ⟨x8, cx8, rfl, s8, hb8⟩
  have a_8 := Lib.hid (a_7.out.beyond hb8)
  clear a_7
  have b_8 := Lib.hid (b_7.out.beyond hb8)
  clear b_7
  have c_8 := Lib.hid (c_7.out.beyond hb8)
  clear c_7
  have s_8 := Lib.hid s8
  clear s8
  have hw8 : Below w.heap.size w w8 := Below.trans hw7 (hb8.mono hw7.size)
  clear hb8
  go_wp2_with fail
  with_reducible refine (MBA.out _ _ _ _ _ b_8.out a_8.out).mono ?_
  rintro e w9 ⟨x9, cx9, rfl, s9, hb9⟩
  have a_9 := Lib.hid (a_8.out.beyond hb9)
  clear a_8
  have b_9 := Lib.hid (b_8.out.beyond hb9)
  clear b_8
  have c_9 := Lib.hid (c_8.out.beyond hb9)
  clear c_8
  have s_9 := Lib.hid (s_8.out.beyond hb9)
  clear s_8
  have t_9 := Lib.hid s9
  clear s9
  have hw9 : Below w.heap.size w w9 := Below.trans hw8 (hb9.mono hw8.size)
  clear hb9
  go_wp2_with fail
  with_reducible refine (S2.out _ _ _ _ _ s_9.out t_9.out).mono ?_
  rintro e w' ⟨rfl, q10, rfl⟩
  have a_10 := Lib.hid (a_9.out.drewN q10)
  clear a_9
  have b_10 := Lib.hid (b_9.out.drewN q10)
  clear b_9
  have c_10 := Lib.hid (c_9.out.drewN q10)
  clear c_9
  have hw10 := below_drewN hw9 q10
  generalize w9.drewN q10 = w10 at *
  go_wp2_with fail
  with_reducible refine (BC.out _ _ _ _ _ b_10.out c_10.out).mono ?_
  rintro e w11 ⟨x11, cx11, rfl, s11, hb11⟩
  have a_11 := Lib.hid (a_10.out.beyond hb11)
  clear a_10
  have b_11 := Lib.hid (b_10.out.beyond hb11)
  clear b_10
  have c_11 := Lib.hid (c_10.out.beyond hb11)
  clear c_10
  have s_11 := Lib.hid s11
  clear s11
  have hw11 : Below w.heap.size w w11 := Below.trans hw10 (hb11.mono hw10.size)
  clear hb11
  go_wp2_with fail
  with_reducible refine (MS.out _ _ _ _ _ a_11.out s_11.out).mono ?_
  rintro e w12 ⟨x12, cx12, rfl, s12, hb12⟩
  have a_12 := Lib.hid (a_11.out.beyond hb12)
  clear a_11
  have b_12 := Lib.hid (b_11.out.beyond hb12)
  clear b_11
  have c_12 := Lib.hid (c_11.out.beyond hb12)
  clear c_11
  have t_12 := Lib.hid s12
  clear s12
  have hw12 : Below w.heap.size w w12 := Below.trans hw11 (hb12.mono hw11.size)
  clear hb12
  go_wp2_with fail
  with_reducible refine (MAB.out _ _ _ _ _ a_12.out b_12.out).mono ?_
  rintro e w13 ⟨x13, cx13, rfl, s13, hb13⟩
  have a_13 := Lib.hid (a_12.out.beyond hb13)
  clear a_12
  have b_13 := Lib.hid (b_12.out.beyond hb13)
  clear b_12
  have c_13 := Lib.hid (c_12.out.beyond hb13)
  clear c_12
  have t_13 := Lib.hid (t_12.out.beyond hb13)
  clear t_12
  have s_13 := Lib.hid s13
  clear s13
  have hw13 : Below w.heap.size w w13 := Below.trans hw12 (hb13.mono hw12.size)
  clear hb13
  go_wp2_with fail
  with_reducible refine (MAC.out _ _ _ _ _ a_13.out c_13.out).mono ?_
  rintro e w14 ⟨x14, cx14, rfl, s14, hb14⟩
  have a_14 := Lib.hid (a_13.out.beyond hb14)
  clear a_13
  have b_14 := Lib.hid (b_13.out.beyond hb14)
  clear b_13
  have c_14 := Lib.hid (c_13.out.beyond hb14)
  clear c_13
  have t_14 := Lib.hid (t_13.out.beyond hb14)
  clear t_13
  have s_14 := Lib.hid (s_13.out.beyond hb14)
  clear s_13
  have u_14 := Lib.hid s14
  clear s14
  have hw14 : Below w.heap.size w w14 := Below.trans hw13 (hb14.mono hw13.size)
  clear hb14
  go_wp2_with fail
  with_reducible refine (AM.out _ _ _ _ _ s_14.out u_14.out).mono ?_
  rintro e w15 ⟨x15, cx15, rfl, s15, hb15⟩
  have a_15 := Lib.hid (a_14.out.beyond hb15)
  clear a_14
  have b_15 := Lib.hid (b_14.out.beyond hb15)
  clear b_14
  have c_15 := Lib.hid (c_14.out.beyond hb15)
  clear c_14
  have t_15 := Lib.hid (t_14.out.beyond hb15)
  clear t_14
  have v_15 := Lib.hid s15
  clear s15
  have hw15 : Below w.heap.size w w15 := Below.trans hw14 (hb15.mono hw14.size)
  clear hb15
  go_wp2_with fail
  with_reducible refine (S4.out _ _ _ _ _ t_15.out v_15.out).mono ?_
  rintro e w' ⟨rfl, q16, rfl⟩
  have a_16 := Lib.hid (a_15.out.drewN q16)
  clear a_15
  have b_16 := Lib.hid (b_15.out.drewN q16)
  clear b_15
  have c_16 := Lib.hid (c_15.out.drewN q16)
  clear c_15
  have hw16 := below_drewN hw15 q16
  generalize w15.drewN q16 = w16 at *
  go_wp2_with fail
  with_reducible refine (AB.out _ _ _ _ _ a_16.out b_16.out).mono ?_
  rintro e w17 ⟨x17, cx17, rfl, s17, hb17⟩
  have a_17 := Lib.hid (a_16.out.beyond hb17)
  clear a_16
  have b_17 := Lib.hid (b_16.out.beyond hb17)
  clear b_16
  have c_17 := Lib.hid (c_16.out.beyond hb17)
  clear c_16
  have s_17 := Lib.hid s17
  clear s17
  have hw17 : Below w.heap.size w w17 := Below.trans hw16 (hb17.mono hw16.size)
  clear hb17
  go_wp2_with fail
  with_reducible refine (CP.out _ _ _ _ _ s_17.out a_17.out).mono ?_
  rintro e w' ⟨rfl, q18, rfl⟩
  have hw18 := below_drewN hw17 q18
  generalize w17.drewN q18 = w18 at *
  go_wp2_with fail
  go_ret
  exact ⟨by first | rfl | (simp; done) | (simp [*]; done), hw18⟩
set_option maxHeartbeats 6400000 in
set_option maxRecDepth 100000 in
theorem bigLaws_list (ad : Option Addr) (n c0 : Nat) (bd : Option Addr) (m d0 : Nat) (cd : Option Addr) (k e0 : Nat) (a b c : List Nat) (hn : a.length = n) (hm : b.length = m) (hk : c.length = k) (nz : n ≤ maxLen) (mz : m ≤ maxLen) (kz : k ≤ maxLen) (da : DigL a) (db : DigL b) (dc : DigL c) (w : World) (htab : PowTab w) (hS : Sl .u16 w ad n (gi a)) (hT : Sl .u16 w bd m (gi b)) (hU : Sl .u16 w cd k (gi c)) :
    Calls Tryd.prog 6 #[.slice ad n c0, .slice bd m d0, .slice cd k e0] w fun e w' => e = .returned (.bool true) ∧ Below w.heap.size w w' := by
  have AW := Lib.hid (awake9 w htab)
  have HA := Lib.hid hS
  have HB := Lib.hid hT
  have HC := Lib.hid hU
  unfold maxLen at nz mz kz
  by_cases n80 : n ≤ 80
  · by_cases m80 : m ≤ 80
    · by_cases k80 : k ≤ 80
      · have I1 := Lib.hid (fun w h => refIs_any ad n c0 a hn (by omega) w h)
        have I2 := Lib.hid (fun w h => refIs_any bd m d0 b hm (by omega) w h)
        have I3 := Lib.hid (fun w h => refIs_any cd k e0 c hk (by omega) w h)
        cases ha : isB a with
        | false =>
          rw [ha] at I1
          clear hS hT hU hn hm hk ha da db dc htab I2 I3
          go_enter Tryd.func6, Tryd.ntmps6
          go_wp2_with fail
          with_reducible refine (AW.out).mono ?_
          rintro e w1 ⟨rfl, hb1⟩
          have a_1 := Lib.hid (HA.out.beyond hb1)
          have b_1 := Lib.hid (HB.out.beyond hb1)
          have c_1 := Lib.hid (HC.out.beyond hb1)
          have hw1 : Below w.heap.size w w1 := hb1
          go_wp2_with fail
          with_reducible refine (I1.out _ a_1.out).mono ?_
          rintro e w' ⟨rfl, rfl⟩
          go_wp2_with fail
          go_ret
          exact ⟨by first | rfl | (simp; done) | (simp [*]; done), hw1⟩
        | true =>
          cases hb : isB b with
          | false =>
            rw [ha] at I1
            rw [hb] at I2
            clear hS hT hU hn hm hk ha hb da db dc htab I3
            go_enter Tryd.func6, Tryd.ntmps6
            go_wp2_with fail
            with_reducible refine (AW.out).mono ?_
            rintro e w1 ⟨rfl, hb1⟩
            have a_1 := Lib.hid (HA.out.beyond hb1)
            have b_1 := Lib.hid (HB.out.beyond hb1)
            have c_1 := Lib.hid (HC.out.beyond hb1)
            have hw1 : Below w.heap.size w w1 := hb1
            go_wp2_with fail
            with_reducible refine (I1.out _ a_1.out).mono ?_
            rintro e w' ⟨rfl, rfl⟩
            go_wp2_with fail
            with_reducible refine (I2.out _ b_1.out).mono ?_
            rintro e w' ⟨rfl, rfl⟩
            go_wp2_with fail
            go_ret
            exact ⟨by first | rfl | (simp; done) | (simp [*]; done), hw1⟩
          | true =>
            cases hc : isB c with
            | false =>
              rw [ha] at I1
              rw [hb] at I2
              rw [hc] at I3
              clear hS hT hU hn hm hk ha hb hc da db dc htab
              go_enter Tryd.func6, Tryd.ntmps6
              go_wp2_with fail
              with_reducible refine (AW.out).mono ?_
              rintro e w1 ⟨rfl, hb1⟩
              have a_1 := Lib.hid (HA.out.beyond hb1)
              have b_1 := Lib.hid (HB.out.beyond hb1)
              have c_1 := Lib.hid (HC.out.beyond hb1)
              have hw1 : Below w.heap.size w w1 := hb1
              go_wp2_with fail
              with_reducible refine (I1.out _ a_1.out).mono ?_
              rintro e w' ⟨rfl, rfl⟩
              go_wp2_with fail
              with_reducible refine (I2.out _ b_1.out).mono ?_
              rintro e w' ⟨rfl, rfl⟩
              go_wp2_with fail
              with_reducible refine (I3.out _ c_1.out).mono ?_
              rintro e w' ⟨rfl, rfl⟩
              go_wp2_with fail
              go_ret
              exact ⟨by first | rfl | (simp; done) | (simp [*]; done), hw1⟩
            | true => exact bigLaws_good ad n c0 bd m d0 cd k e0 a b c hn hm hk n80 m80 k80 ha hb hc da db dc w htab hS hT hU
      · clear hS hT hU hn hm hk da db dc htab
        go_enter Tryd.func6, Tryd.ntmps6
        go_wp2_with fail
        with_reducible refine (AW.out).mono ?_
        rintro e w1 ⟨rfl, hb1⟩
        have hw1 : Below w.heap.size w w1 := hb1
        go_wp2_with fail
        go_ret
        exact ⟨by first | rfl | (simp; done) | (simp [*]; done), hw1⟩
    · clear hS hT hU hn hm hk da db dc htab
      go_enter Tryd.func6, Tryd.ntmps6
      go_wp2_with fail
      with_reducible refine (AW.out).mono ?_
      rintro e w1 ⟨rfl, hb1⟩
      have hw1 : Below w.heap.size w w1 := hb1
      go_wp2_with fail
      go_ret
      exact ⟨by first | rfl | (simp; done) | (simp [*]; done), hw1⟩
  · clear hS hT hU hn hm hk da db dc htab
    go_enter Tryd.func6, Tryd.ntmps6
    go_wp2_with fail
    with_reducible refine (AW.out).mono ?_
    rintro e w1 ⟨rfl, hb1⟩
    have hw1 : Below w.heap.size w w1 := hb1
    go_wp2_with fail
    go_ret
    exact ⟨by first | rfl | (simp; done) | (simp [*]; done), hw1⟩
theorem bigLaws_walk (ad : Option Addr) (n c0 : Nat) (f : Nat → Int) (bd : Option Addr) (m d0 : Nat) (g : Nat → Int) (cd : Option Addr) (k e0 : Nat) (h : Nat → Int) (w : World) (hS : Sl .u16 w ad n f) (hn : n ≤ maxLen) (hf : DgF n f) (hT : Sl .u16 w bd m g) (hm : m ≤ maxLen) (hg : DgF m g) (hU : Sl .u16 w cd k h) (hk : k ≤ maxLen) (hh : DgF k h) (htab : PowTab w) :
    Calls Tryd.prog 6 #[.slice ad n c0, .slice bd m d0, .slice cd k e0] w fun e w' => e = .returned (.bool true) ∧ Below w.heap.size w w' :=
  bigLaws_list ad n c0 bd m d0 cd k e0 _ _ _ (lst_len n f) (lst_len m g) (lst_len k h) hn hm hk (lst_dig hf) (lst_dig hg) (lst_dig hh) w htab (lst_sl hf hS) (lst_sl hg hT) (lst_sl hh hU)
end Go.Proofs.YthlpimdpgmknoaaDoor
