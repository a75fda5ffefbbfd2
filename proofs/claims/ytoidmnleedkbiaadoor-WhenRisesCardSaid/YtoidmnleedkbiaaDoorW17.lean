/- try -/
import Derived.Test.YtoidmnleedkbiaaDoorW16
import Derived.Outline
namespace Go.Proofs.YtoidmnleedkbiaaDoor
open Go.RowKit
set_option linter.unusedSimpArgs false
set_option linter.unusedVariables false
theorem numOf_top (l : List UInt8) (h : l.length ≤ 4) : numOf l ≤ 9999 := by
  unfold numOf
  split
  · next ha => have := dval_bd l h ha; omega
  · decide
set_option maxHeartbeats 1600000 in
set_option maxRecDepth 100000 in
theorem parse20_any (s : ByteArray) (hs : s.size = 20) (q4 : (s[4]'(by omega)).toNat = 45) (q7 : (s[7]'(by omega)).toNat = 45) (q10 : (s[10]'(by omega)).toNat = 84) (q13 : (s[13]'(by omega)).toNat = 58) (q16 : (s[16]'(by omega)).toNat = 58) (q19 : (s[19]'(by omega)).toNat = 90) (w : World) :
    Calls Tryd.prog 6 #[.string s] w fun e w' =>
      e = .returned (if whenOk (fld s.data.toList 0 4) (fld s.data.toList 5 7) (fld s.data.toList 8 10) (fld s.data.toList 11 13) (fld s.data.toList 14 16) (fld s.data.toList 17 19) 0 then .tuple #[.int .i64 (whenVal (fld s.data.toList 0 4) (fld s.data.toList 5 7) (fld s.data.toList 8 10) (fld s.data.toList 11 13) (fld s.data.toList 14 16) (fld s.data.toList 17 19) 0), .bool true] else .tuple #[.int .i64 0, .bool false]) ∧ Below w.heap.size w w' := by
  have n1top : fld s.data.toList 0 4 ≤ 9999 := numOf_top _ (by simp; omega)
  have F := fun a b hab hb h4 A B hA hB least most W => fieldOf_any s (by omega) a b hab hb h4 A B hA hB least most W
  have H1 := Lib.hid (F 0 4 (by omega) (by omega) (by omega) 0 4 rfl rfl 1970 9999)
  have H2 := Lib.hid (F 5 7 (by omega) (by omega) (by omega) 5 7 rfl rfl 1 12)
  have H3 := Lib.hid (fun most => F 8 10 (by omega) (by omega) (by omega) 8 10 rfl rfl 1 most)
  have H4 := Lib.hid (F 11 13 (by omega) (by omega) (by omega) 11 13 rfl rfl 0 23)
  have H5 := Lib.hid (F 14 16 (by omega) (by omega) (by omega) 14 16 rfl rfl 0 59)
  have H6 := Lib.hid (F 17 19 (by omega) (by omega) (by omega) 17 19 rfl rfl 0 59)
  clear F
  generalize fld s.data.toList 0 4 = n1 at *
  generalize fld s.data.toList 5 7 = n2 at *
  generalize fld s.data.toList 8 10 = n3 at *
  generalize fld s.data.toList 11 13 = n4 at *
  generalize fld s.data.toList 14 16 = n5 at *
  generalize fld s.data.toList 17 19 = n6 at *
  obtain ⟨E, hE⟩ : ∃ E, (if whenOk n1 n2 n3 n4 n5 n6 0 then Value.tuple #[.int .i64 (whenVal n1 n2 n3 n4 n5 n6 0), .bool true] else .tuple #[.int .i64 0, .bool false]) = E := ⟨_, rfl⟩
  rw [hE]
  have HE := hide hE
  clear hE
  obtain ⟨b1, e1⟩ : ∃ b, fldB n1 1970 9999 = b := ⟨_, rfl⟩
  obtain ⟨b2, e2⟩ : ∃ b, fldB n2 1 12 = b := ⟨_, rfl⟩
  rw [e1] at H1
  rw [e2] at H2
  have c4 : (((s[4]'(by omega)).toNat : Int) != 45) = false := by rw [q4]; rfl
  have c7 : (((s[7]'(by omega)).toNat : Int) != 45) = false := by rw [q7]; rfl
  have c10 : (((s[10]'(by omega)).toNat : Int) != 84) = false := by rw [q10]; rfl
  have c13 : (((s[13]'(by omega)).toNat : Int) != 58) = false := by rw [q13]; rfl
  have c16 : (((s[16]'(by omega)).toNat : Int) != 58) = false := by rw [q16]; rfl
  have c19 : (((s[19]'(by omega)).toNat : Int) != 90) = false := by rw [q19]; rfl
  clear q4 q7 q10 q13 q16 q19
  rcases b1 with _ | _
  · have HN : Hid (¬ whenOk n1 n2 n3 n4 n5 n6 0) := hide (fun ok => fldB_no e1 (by decide) ⟨by have := ok; unfold whenOk at this; omega, n1top⟩)
    have hE := unhide HE
    rw [if_neg (unhide HN)] at hE
    subst hE
    clear e1 e2 HE
    rcases b2 with _ | _
    all_goals
      go_enter Tryd.func6, Tryd.ntmps6
      go_wp2_with fail
      with_reducible refine (H1.out _).mono ?_
      rintro e w1 ⟨rfl, hb1⟩
      have hw1 : Below w.heap.size w w1 := Below.trans (by repeat' (first | (with_reducible assumption) | (with_reducible exact Below.refl _ _) | (with_reducible refine below_drewN ?_ _) | (with_reducible refine Below.drew ?_) | (with_reducible refine Below.setCell ?_ ?_ _) | (with_reducible refine Below.alloc ?_ ?_ _) | omega | (simp; done) | (simp; omega))) (hb1.mono (by first | assumption | (simp; done) | (simp; omega)))
      have hz1 := hw1.size
      clear hb1
      go_wp2_with fail
      with_reducible refine (H2.out _).mono ?_
      rintro e w2 ⟨rfl, hb2⟩
      have hw2 : Below w.heap.size w w2 := Below.trans (by repeat' (first | (with_reducible assumption) | (with_reducible exact Below.refl _ _) | (with_reducible refine below_drewN ?_ _) | (with_reducible refine Below.drew ?_) | (with_reducible refine Below.setCell ?_ ?_ _) | (with_reducible refine Below.alloc ?_ ?_ _) | omega | (simp; done) | (simp; omega))) (hb2.mono (by first | assumption | (simp; done) | (simp; omega)))
      have hz2 := hw2.size
      clear hb2
      go_wp2_with fail
      go_ret2
      exact ⟨rfl, by repeat' (first | (with_reducible assumption) | (with_reducible exact Below.refl _ _) | (with_reducible refine below_drewN ?_ _) | (with_reducible refine Below.drew ?_) | (with_reducible refine Below.setCell ?_ ?_ _) | (with_reducible refine Below.alloc ?_ ?_ _) | omega | (simp; done) | (simp; omega))⟩
  · obtain ⟨f1, y0, y1, -⟩ := fldV_ok e1
    rw [f1] at H1
    rcases b2 with _ | _
    · have HN : Hid (¬ whenOk n1 n2 n3 n4 n5 n6 0) := hide (fun ok => fldB_no e2 (by decide) (by unfold whenOk at ok; omega))
      have hE := unhide HE
      rw [if_neg (unhide HN)] at hE
      subst hE
      clear e1 e2 f1 HE
      go_enter Tryd.func6, Tryd.ntmps6
      go_wp2_with fail
      with_reducible refine (H1.out _).mono ?_
      rintro e w1 ⟨rfl, hb1⟩
      have hw1 : Below w.heap.size w w1 := Below.trans (by repeat' (first | (with_reducible assumption) | (with_reducible exact Below.refl _ _) | (with_reducible refine below_drewN ?_ _) | (with_reducible refine Below.drew ?_) | (with_reducible refine Below.setCell ?_ ?_ _) | (with_reducible refine Below.alloc ?_ ?_ _) | omega | (simp; done) | (simp; omega))) (hb1.mono (by first | assumption | (simp; done) | (simp; omega)))
      have hz1 := hw1.size
      clear hb1
      go_wp2_with fail
      with_reducible refine (H2.out _).mono ?_
      rintro e w2 ⟨rfl, hb2⟩
      have hw2 : Below w.heap.size w w2 := Below.trans (by repeat' (first | (with_reducible assumption) | (with_reducible exact Below.refl _ _) | (with_reducible refine below_drewN ?_ _) | (with_reducible refine Below.drew ?_) | (with_reducible refine Below.setCell ?_ ?_ _) | (with_reducible refine Below.alloc ?_ ?_ _) | omega | (simp; done) | (simp; omega))) (hb2.mono (by first | assumption | (simp; done) | (simp; omega)))
      have hz2 := hw2.size
      clear hb2
      go_wp2_with fail
      go_ret2
      exact ⟨rfl, by repeat' (first | (with_reducible assumption) | (with_reducible exact Below.refl _ _) | (with_reducible refine below_drewN ?_ _) | (with_reducible refine Below.drew ?_) | (with_reducible refine Below.setCell ?_ ?_ _) | (with_reducible refine Below.alloc ?_ ?_ _) | omega | (simp; done) | (simp; omega))⟩
    · obtain ⟨f2, m0, m1, -⟩ := fldV_ok e2
      rw [f2] at H2
      clear e1 e2 f1 f2
      obtain ⟨M, hM⟩ : ∃ M, mlen n1 n2 = M := ⟨_, rfl⟩
      have MB := mlen_bd n1 n2
      have MON := fun w => month_any n1 n2 (by omega) (by omega) m0 m1 w
      rw [hM] at MON MB
      obtain ⟨M0, M1⟩ := MB
      replace MON := Lib.hid MON
      have H3 := Lib.hid (H3.out M)
      have AH := fun w => ahead_any n1 (by omega) (by omega) w
      have AB : 0 ≤ ahd n1 ∧ ahd n1 ≤ 3000000 := by unfold ahd; omega
      obtain ⟨A, hA⟩ : ∃ A, ahd n1 = A := ⟨_, rfl⟩
      rw [hA] at AH AB
      obtain ⟨A0, A1⟩ := AB
      replace AH := Lib.hid AH
      obtain ⟨b3, e3⟩ : ∃ b, fldB n3 1 M = b := ⟨_, rfl⟩
      obtain ⟨b4, e4⟩ : ∃ b, fldB n4 0 23 = b := ⟨_, rfl⟩
      obtain ⟨b5, e5⟩ : ∃ b, fldB n5 0 59 = b := ⟨_, rfl⟩
      obtain ⟨b6, e6⟩ : ∃ b, fldB n6 0 59 = b := ⟨_, rfl⟩
      rw [e3] at H3
      rw [e4] at H4
      rw [e5] at H5
      rw [e6] at H6
      by_cases hok : b3 = true ∧ b4 = true ∧ b5 = true ∧ b6 = true
      · obtain ⟨rfl, rfl, rfl, rfl⟩ := hok
        obtain ⟨f3, d0, d1, -⟩ := fldV_ok e3
        obtain ⟨f4, h0, h1, -⟩ := fldV_ok e4
        obtain ⟨f5, i0, i1, -⟩ := fldV_ok e5
        obtain ⟨f6, s0, s1, -⟩ := fldV_ok e6
        rw [f3] at H3
        rw [f4] at H4
        rw [f5] at H5
        rw [f6] at H6
        have hE := unhide HE
        rw [if_pos (by unfold whenOk; rw [hM]; omega)] at hE
        replace HE := hide hE
        have HA := hide hA
        clear e3 e4 e5 e6 f3 f4 f5 f6 hE hM hA
        go_enter Tryd.func6, Tryd.ntmps6
        go_wp2_with fail
        with_reducible refine (H1.out _).mono ?_
        rintro e w1 ⟨rfl, hb1⟩
        have hw1 : Below w.heap.size w w1 := Below.trans (by repeat' (first | (with_reducible assumption) | (with_reducible exact Below.refl _ _) | (with_reducible refine below_drewN ?_ _) | (with_reducible refine Below.drew ?_) | (with_reducible refine Below.setCell ?_ ?_ _) | (with_reducible refine Below.alloc ?_ ?_ _) | omega | (simp; done) | (simp; omega))) (hb1.mono (by first | assumption | (simp; done) | (simp; omega)))
        have hz1 := hw1.size
        clear hb1
        go_wp2_with fail
        with_reducible refine (H2.out _).mono ?_
        rintro e w2 ⟨rfl, hb2⟩
        have hw2 : Below w.heap.size w w2 := Below.trans (by repeat' (first | (with_reducible assumption) | (with_reducible exact Below.refl _ _) | (with_reducible refine below_drewN ?_ _) | (with_reducible refine Below.drew ?_) | (with_reducible refine Below.setCell ?_ ?_ _) | (with_reducible refine Below.alloc ?_ ?_ _) | omega | (simp; done) | (simp; omega))) (hb2.mono (by first | assumption | (simp; done) | (simp; omega)))
        have hz2 := hw2.size
        clear hb2
        go_wp2_with fail
        with_reducible refine (MON.out _).mono ?_
        rintro e w' ⟨rfl, rfl⟩
        go_wp2_with fail
        with_reducible refine (H3.out _).mono ?_
        rintro e w3 ⟨rfl, hb3⟩
        have hw3 : Below w.heap.size w w3 := Below.trans (by repeat' (first | (with_reducible assumption) | (with_reducible exact Below.refl _ _) | (with_reducible refine below_drewN ?_ _) | (with_reducible refine Below.drew ?_) | (with_reducible refine Below.setCell ?_ ?_ _) | (with_reducible refine Below.alloc ?_ ?_ _) | omega | (simp; done) | (simp; omega))) (hb3.mono (by first | assumption | (simp; done) | (simp; omega)))
        have hz3 := hw3.size
        clear hb3
        go_wp2_with fail
        with_reducible refine (H4.out _).mono ?_
        rintro e w4 ⟨rfl, hb4⟩
        have hw4 : Below w.heap.size w w4 := Below.trans (by repeat' (first | (with_reducible assumption) | (with_reducible exact Below.refl _ _) | (with_reducible refine below_drewN ?_ _) | (with_reducible refine Below.drew ?_) | (with_reducible refine Below.setCell ?_ ?_ _) | (with_reducible refine Below.alloc ?_ ?_ _) | omega | (simp; done) | (simp; omega))) (hb4.mono (by first | assumption | (simp; done) | (simp; omega)))
        have hz4 := hw4.size
        clear hb4
        go_wp2_with fail
        with_reducible refine (H5.out _).mono ?_
        rintro e w5 ⟨rfl, hb5⟩
        have hw5 : Below w.heap.size w w5 := Below.trans (by repeat' (first | (with_reducible assumption) | (with_reducible exact Below.refl _ _) | (with_reducible refine below_drewN ?_ _) | (with_reducible refine Below.drew ?_) | (with_reducible refine Below.setCell ?_ ?_ _) | (with_reducible refine Below.alloc ?_ ?_ _) | omega | (simp; done) | (simp; omega))) (hb5.mono (by first | assumption | (simp; done) | (simp; omega)))
        have hz5 := hw5.size
        clear hb5
        go_wp2_with fail
        with_reducible refine (H6.out _).mono ?_
        rintro e w6 ⟨rfl, hb6⟩
        have hw6 : Below w.heap.size w w6 := Below.trans (by repeat' (first | (with_reducible assumption) | (with_reducible exact Below.refl _ _) | (with_reducible refine below_drewN ?_ _) | (with_reducible refine Below.drew ?_) | (with_reducible refine Below.setCell ?_ ?_ _) | (with_reducible refine Below.alloc ?_ ?_ _) | omega | (simp; done) | (simp; omega))) (hb6.mono (by first | assumption | (simp; done) | (simp; omega)))
        have hz6 := hw6.size
        clear hb6
        go_wp2_with fail
        with_reducible refine (AH.out _).mono ?_
        rintro e w' ⟨rfl, rfl⟩
        go_wp2_with fail
        go_loop [16, 17] (fun t u => ∃ k r : Int, t = .int .i64 r ∧ u = .int .i64 k ∧ 1 ≤ k ∧ k ≤ n2 ∧ Hid (r = A + n3 - 1 + cumd n1 k) ∧ 0 ≤ r ∧ r ≤ 3000031 + 31 * k) (fun _ u => (12 - intOf u).toNat)
        case atStart => exact ⟨1, A + n3 - 1, rfl, rfl, by decide, by omega, hide (by rw [cumd_one]; omega), by omega, by omega⟩
        case round =>
          obtain ⟨k, r, rfl, rfl, k0, k1, HR, r0, r1⟩ := hrel
          by_cases hlt : k < n2
          · obtain ⟨Z, hZ⟩ : ∃ Z, mlen n1 k = Z := ⟨_, rfl⟩
            have hZb := mlen_bd n1 k
            have MK := fun w => month_any n1 k (by omega) (by omega) k0 (by omega) w
            rw [hZ] at MK hZb
            obtain ⟨Z0, Z1⟩ := hZb
            replace MK := Lib.hid MK
            have hr2 : Hid (r + Z = A + n3 - 1 + cumd n1 (k + 1)) := hide (by rw [cumd_succ n1 k k0 (by omega), hZ]; have := unhide HR; omega)
            clear hZ
            go_wp2_with fail
            with_reducible refine (MK.out _).mono ?_
            rintro e w' ⟨rfl, rfl⟩
            go_wp2_with fail
            go_round
            case rel => exact ⟨k + 1, r + Z, rfl, rfl, by omega, by omega, hr2, by omega, by omega⟩
            case measure => simp [intOf]; omega
          · have hk : k = n2 := by omega
            subst hk
            have hval : Hid (whenVal n1 k n3 n4 n5 n6 0 = r * 86400000 + (n4 * 3600 + n5 * 60 + n6) * 1000 + 0) := hide (by
              have a := unhide HR
              have b := unhide HA
              unfold whenVal
              rw [b]
              omega)
            go_wp2_with fail
            have hE := unhide HE
            rw [unhide hval] at hE
            subst hE
            go_ret2
            exact ⟨by first | rfl | simp, by repeat' (first | (with_reducible assumption) | (with_reducible exact Below.refl _ _) | (with_reducible refine below_drewN ?_ _) | (with_reducible refine Below.drew ?_) | (with_reducible refine Below.setCell ?_ ?_ _) | (with_reducible refine Below.alloc ?_ ?_ _) | omega | (simp; done) | (simp; omega))⟩
      · have HN : Hid (¬ whenOk n1 n2 n3 n4 n5 n6 0) := hide (fun ok => by
          unfold whenOk at ok
          rw [hM] at ok
          apply hok
          refine ⟨?_, ?_, ?_, ?_⟩
          · cases b3 with
            | true => rfl
            | false => exact absurd (show 1 ≤ n3 ∧ n3 ≤ M by omega) (fldB_no e3 (by decide))
          · cases b4 with
            | true => rfl
            | false => exact absurd (show 0 ≤ n4 ∧ n4 ≤ 23 by omega) (fldB_no e4 (by decide))
          · cases b5 with
            | true => rfl
            | false => exact absurd (show 0 ≤ n5 ∧ n5 ≤ 59 by omega) (fldB_no e5 (by decide))
          · cases b6 with
            | true => rfl
            | false => exact absurd (show 0 ≤ n6 ∧ n6 ≤ 59 by omega) (fldB_no e6 (by decide)))
        have hE := unhide HE
        rw [if_neg (unhide HN)] at hE
        subst hE
        have HO := hide hok
        clear e3 e4 e5 e6 hok HE HN hM hA
        go_enter Tryd.func6, Tryd.ntmps6
        go_wp2_with fail
        with_reducible refine (H1.out _).mono ?_
        rintro e w1 ⟨rfl, hb1⟩
        have hw1 : Below w.heap.size w w1 := Below.trans (by repeat' (first | (with_reducible assumption) | (with_reducible exact Below.refl _ _) | (with_reducible refine below_drewN ?_ _) | (with_reducible refine Below.drew ?_) | (with_reducible refine Below.setCell ?_ ?_ _) | (with_reducible refine Below.alloc ?_ ?_ _) | omega | (simp; done) | (simp; omega))) (hb1.mono (by first | assumption | (simp; done) | (simp; omega)))
        have hz1 := hw1.size
        clear hb1
        go_wp2_with fail
        with_reducible refine (H2.out _).mono ?_
        rintro e w2 ⟨rfl, hb2⟩
        have hw2 : Below w.heap.size w w2 := Below.trans (by repeat' (first | (with_reducible assumption) | (with_reducible exact Below.refl _ _) | (with_reducible refine below_drewN ?_ _) | (with_reducible refine Below.drew ?_) | (with_reducible refine Below.setCell ?_ ?_ _) | (with_reducible refine Below.alloc ?_ ?_ _) | omega | (simp; done) | (simp; omega))) (hb2.mono (by first | assumption | (simp; done) | (simp; omega)))
        have hz2 := hw2.size
        clear hb2
        go_wp2_with fail
        with_reducible refine (MON.out _).mono ?_
        rintro e w' ⟨rfl, rfl⟩
        go_wp2_with fail
        with_reducible refine (H3.out _).mono ?_
        rintro e w3 ⟨rfl, hb3⟩
        have hw3 : Below w.heap.size w w3 := Below.trans (by repeat' (first | (with_reducible assumption) | (with_reducible exact Below.refl _ _) | (with_reducible refine below_drewN ?_ _) | (with_reducible refine Below.drew ?_) | (with_reducible refine Below.setCell ?_ ?_ _) | (with_reducible refine Below.alloc ?_ ?_ _) | omega | (simp; done) | (simp; omega))) (hb3.mono (by first | assumption | (simp; done) | (simp; omega)))
        have hz3 := hw3.size
        clear hb3
        go_wp2_with fail
        with_reducible refine (H4.out _).mono ?_
        rintro e w4 ⟨rfl, hb4⟩
        have hw4 : Below w.heap.size w w4 := Below.trans (by repeat' (first | (with_reducible assumption) | (with_reducible exact Below.refl _ _) | (with_reducible refine below_drewN ?_ _) | (with_reducible refine Below.drew ?_) | (with_reducible refine Below.setCell ?_ ?_ _) | (with_reducible refine Below.alloc ?_ ?_ _) | omega | (simp; done) | (simp; omega))) (hb4.mono (by first | assumption | (simp; done) | (simp; omega)))
        have hz4 := hw4.size
        clear hb4
        go_wp2_with fail
        with_reducible refine (H5.out _).mono ?_
        rintro e w5 ⟨rfl, hb5⟩
        have hw5 : Below w.heap.size w w5 := Below.trans (by repeat' (first | (with_reducible assumption) | (with_reducible exact Below.refl _ _) | (with_reducible refine below_drewN ?_ _) | (with_reducible refine Below.drew ?_) | (with_reducible refine Below.setCell ?_ ?_ _) | (with_reducible refine Below.alloc ?_ ?_ _) | omega | (simp; done) | (simp; omega))) (hb5.mono (by first | assumption | (simp; done) | (simp; omega)))
        have hz5 := hw5.size
        clear hb5
        go_wp2_with fail
        with_reducible refine (H6.out _).mono ?_
        rintro e w6 ⟨rfl, hb6⟩
        have hw6 : Below w.heap.size w w6 := Below.trans (by repeat' (first | (with_reducible assumption) | (with_reducible exact Below.refl _ _) | (with_reducible refine below_drewN ?_ _) | (with_reducible refine Below.drew ?_) | (with_reducible refine Below.setCell ?_ ?_ _) | (with_reducible refine Below.alloc ?_ ?_ _) | omega | (simp; done) | (simp; omega))) (hb6.mono (by first | assumption | (simp; done) | (simp; omega)))
        have hz6 := hw6.size
        clear hb6
        rcases b3 with _ | _
        · go_wp2_with fail
          go_ret2
          exact ⟨rfl, by repeat' (first | (with_reducible assumption) | (with_reducible exact Below.refl _ _) | (with_reducible refine below_drewN ?_ _) | (with_reducible refine Below.drew ?_) | (with_reducible refine Below.setCell ?_ ?_ _) | (with_reducible refine Below.alloc ?_ ?_ _) | omega | (simp; done) | (simp; omega))⟩
        · rcases b4 with _ | _
          · go_wp2_with fail
            go_ret2
            exact ⟨rfl, by repeat' (first | (with_reducible assumption) | (with_reducible exact Below.refl _ _) | (with_reducible refine below_drewN ?_ _) | (with_reducible refine Below.drew ?_) | (with_reducible refine Below.setCell ?_ ?_ _) | (with_reducible refine Below.alloc ?_ ?_ _) | omega | (simp; done) | (simp; omega))⟩
          · rcases b5 with _ | _
            · go_wp2_with fail
              go_ret2
              exact ⟨rfl, by repeat' (first | (with_reducible assumption) | (with_reducible exact Below.refl _ _) | (with_reducible refine below_drewN ?_ _) | (with_reducible refine Below.drew ?_) | (with_reducible refine Below.setCell ?_ ?_ _) | (with_reducible refine Below.alloc ?_ ?_ _) | omega | (simp; done) | (simp; omega))⟩
            · rcases b6 with _ | _
              · go_wp2_with fail
                go_ret2
                exact ⟨rfl, by repeat' (first | (with_reducible assumption) | (with_reducible exact Below.refl _ _) | (with_reducible refine below_drewN ?_ _) | (with_reducible refine Below.drew ?_) | (with_reducible refine Below.setCell ?_ ?_ _) | (with_reducible refine Below.alloc ?_ ?_ _) | omega | (simp; done) | (simp; omega))⟩
              · exact absurd ⟨rfl, rfl, rfl, rfl⟩ (unhide HO)
end Go.Proofs.YtoidmnleedkbiaaDoor
