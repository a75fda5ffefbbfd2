/- The contract of the reference's Text of a time. Condition: the time is one that has a text. -/
import Derived.Test.YtdfpknomhambcaaDoorW12
namespace Go.Proofs.YtdfpknomhambcaaDoor
open Go.RowKit
set_option linter.unusedSimpArgs false
set_option linter.unusedVariables false

set_option maxHeartbeats 400000 in
theorem refWText_none (ms : Int) (h : ms < 0 ∨ 253402300799999 < ms) (w : World) :
    Calls Tryd.prog 13 #[.int .i64 ms] w fun e w' => e = .returned (.tuple #[.string { data := #[] }, .bool false]) ∧ w = w' := by
  rcases h with h | h
  · go_enter Tryd.func13, Tryd.ntmps13
    go_wp2_with fail
    go_ret2
    exact ⟨rfl, rfl⟩
  · have h2 : ¬ ms < 0 := by omega
    go_enter Tryd.func13, Tryd.ntmps13
    go_wp2_with fail
    go_ret2
    exact ⟨rfl, rfl⟩
set_option maxHeartbeats 6400000 in
set_option maxRecDepth 100000 in
theorem refWText_walk (ms D R F y m d : Int) (h0 : 0 ≤ ms) (h1 : ms ≤ 253402300799999) (eD : ms / 86400000 = D) (eR : ms % 86400000 = R) (eF : R % 1000 = F)
    (D0 : 0 ≤ D) (D1 : D ≤ 2932896) (R0 : 0 ≤ R) (R1 : R ≤ 86399999) (F0 : 0 ≤ F) (F1 : F ≤ 999) (hy : Ymd D y m d) (w : World) :
    Calls Tryd.prog 13 #[.int .i64 ms] w fun e w' => e = .returned (.tuple #[.string ⟨(whenTxt y.toNat m.toNat (d + 1).toNat (R / 3600000).toNat (R / 60000 % 60).toNat (R / 1000 % 60).toNat F.toNat).toArray⟩, .bool true]) ∧ Below w.heap.size w w' := by
  obtain ⟨b1, b2, b3, b4, b5, b6, b7⟩ := hy
  have b8 : d ≤ 30 := by have := mlen_bd y m; omega
  have HY : Hid (Ymd D y m d) := hide ⟨b1, b2, b3, b4, b5, b6, b7⟩
  clear b6 b7
  obtain ⟨t1, ht1⟩ : ∃ t : ByteArray, t = ⟨(padK (4 : Int).toNat (y).toNat).toArray⟩ := ⟨_, rfl⟩
  have Lt1 : Hid (t1.data.toList = padK 4 (y).toNat) := hide (by rw [ht1]; rfl)
  have st1 : t1.size = 4 := by rw [ht1]; show (padK _ _).toArray.size = _; rw [List.size_toArray, padK_length]; rfl
  have P1 : ∀ w, Calls Tryd.prog 29 #[.int .i64 (y), .int .i64 4] w fun e w' => e = .returned (.string t1) ∧ Below w.heap.size w w' := fun w => by rw [ht1]; exact refPad_any (y) 4 (by omega) (by decide) (by decide) (show (y).toNat < 10000 from by omega) w
  replace P1 := Lib.hid P1
  clear ht1
  obtain ⟨t2, ht2⟩ : ∃ t : ByteArray, t = ⟨(padK (2 : Int).toNat (m).toNat).toArray⟩ := ⟨_, rfl⟩
  have Lt2 : Hid (t2.data.toList = padK 2 (m).toNat) := hide (by rw [ht2]; rfl)
  have st2 : t2.size = 2 := by rw [ht2]; show (padK _ _).toArray.size = _; rw [List.size_toArray, padK_length]; rfl
  have P2 : ∀ w, Calls Tryd.prog 29 #[.int .i64 (m), .int .i64 2] w fun e w' => e = .returned (.string t2) ∧ Below w.heap.size w w' := fun w => by rw [ht2]; exact refPad_any (m) 2 (by omega) (by decide) (by decide) (show (m).toNat < 100 from by omega) w
  replace P2 := Lib.hid P2
  clear ht2
  obtain ⟨t3, ht3⟩ : ∃ t : ByteArray, t = ⟨(padK (2 : Int).toNat (d + 1).toNat).toArray⟩ := ⟨_, rfl⟩
  have Lt3 : Hid (t3.data.toList = padK 2 (d + 1).toNat) := hide (by rw [ht3]; rfl)
  have st3 : t3.size = 2 := by rw [ht3]; show (padK _ _).toArray.size = _; rw [List.size_toArray, padK_length]; rfl
  have P3 : ∀ w, Calls Tryd.prog 29 #[.int .i64 (d + 1), .int .i64 2] w fun e w' => e = .returned (.string t3) ∧ Below w.heap.size w w' := fun w => by rw [ht3]; exact refPad_any (d + 1) 2 (by omega) (by decide) (by decide) (show (d + 1).toNat < 100 from by omega) w
  replace P3 := Lib.hid P3
  clear ht3
  obtain ⟨t4, ht4⟩ : ∃ t : ByteArray, t = ⟨(padK (2 : Int).toNat (R / 3600000).toNat).toArray⟩ := ⟨_, rfl⟩
  have Lt4 : Hid (t4.data.toList = padK 2 (R / 3600000).toNat) := hide (by rw [ht4]; rfl)
  have st4 : t4.size = 2 := by rw [ht4]; show (padK _ _).toArray.size = _; rw [List.size_toArray, padK_length]; rfl
  have P4 : ∀ w, Calls Tryd.prog 29 #[.int .i64 (R / 3600000), .int .i64 2] w fun e w' => e = .returned (.string t4) ∧ Below w.heap.size w w' := fun w => by rw [ht4]; exact refPad_any (R / 3600000) 2 (by omega) (by decide) (by decide) (show (R / 3600000).toNat < 100 from by omega) w
  replace P4 := Lib.hid P4
  clear ht4
  obtain ⟨t5, ht5⟩ : ∃ t : ByteArray, t = ⟨(padK (2 : Int).toNat (R / 60000 % 60).toNat).toArray⟩ := ⟨_, rfl⟩
  have Lt5 : Hid (t5.data.toList = padK 2 (R / 60000 % 60).toNat) := hide (by rw [ht5]; rfl)
  have st5 : t5.size = 2 := by rw [ht5]; show (padK _ _).toArray.size = _; rw [List.size_toArray, padK_length]; rfl
  have P5 : ∀ w, Calls Tryd.prog 29 #[.int .i64 (R / 60000 % 60), .int .i64 2] w fun e w' => e = .returned (.string t5) ∧ Below w.heap.size w w' := fun w => by rw [ht5]; exact refPad_any (R / 60000 % 60) 2 (by omega) (by decide) (by decide) (show (R / 60000 % 60).toNat < 100 from by omega) w
  replace P5 := Lib.hid P5
  clear ht5
  obtain ⟨t6, ht6⟩ : ∃ t : ByteArray, t = ⟨(padK (2 : Int).toNat (R / 1000 % 60).toNat).toArray⟩ := ⟨_, rfl⟩
  have Lt6 : Hid (t6.data.toList = padK 2 (R / 1000 % 60).toNat) := hide (by rw [ht6]; rfl)
  have st6 : t6.size = 2 := by rw [ht6]; show (padK _ _).toArray.size = _; rw [List.size_toArray, padK_length]; rfl
  have P6 : ∀ w, Calls Tryd.prog 29 #[.int .i64 (R / 1000 % 60), .int .i64 2] w fun e w' => e = .returned (.string t6) ∧ Below w.heap.size w w' := fun w => by rw [ht6]; exact refPad_any (R / 1000 % 60) 2 (by omega) (by decide) (by decide) (show (R / 1000 % 60).toNat < 100 from by omega) w
  replace P6 := Lib.hid P6
  clear ht6
  obtain ⟨t7, ht7⟩ : ∃ t : ByteArray, t = ⟨(padK (3 : Int).toNat (F).toNat).toArray⟩ := ⟨_, rfl⟩
  have Lt7 : Hid (t7.data.toList = padK 3 (F).toNat) := hide (by rw [ht7]; rfl)
  have st7 : t7.size = 3 := by rw [ht7]; show (padK _ _).toArray.size = _; rw [List.size_toArray, padK_length]; rfl
  have P7 : ∀ w, Calls Tryd.prog 29 #[.int .i64 (F), .int .i64 3] w fun e w' => e = .returned (.string t7) ∧ Below w.heap.size w w' := fun w => by rw [ht7]; exact refPad_any (F) 3 (by omega) (by decide) (by decide) (show (F).toNat < 1000 from by omega) w
  replace P7 := Lib.hid P7
  clear ht7
  have k45 : ({ data := #[45] } : ByteArray).size = 1 := rfl
  have k84 : ({ data := #[84] } : ByteArray).size = 1 := rfl
  have k58 : ({ data := #[58] } : ByteArray).size = 1 := rfl
  have k46 : ({ data := #[46] } : ByteArray).size = 1 := rfl
  have k90 : ({ data := #[90] } : ByteArray).size = 1 := rfl
  go_enter Tryd.func13, Tryd.ntmps13
  go_upto_region 3 with fail
  go_cut [4, 5] (fun a b W => a = .int .i64 D ∧ b = .int .i64 R ∧ w = W)
  case first =>
    go_wp2_with fail
    go_meet
    exact ⟨by first | rfl | rw [eD], by first | rfl | rw [eR], rfl⟩
  obtain ⟨rfl, rfl, rfl⟩ := hcut
  clear eD eR
  go_upto_block 0 with fail
  go_cut [4, 6] (fun a b W => ∃ r : Int, a = .int .i64 r ∧ b = .int .i64 y ∧ 0 ≤ r ∧ r ≤ 366 ∧ Hid (D = ahd y + r) ∧ w = W)
  case first =>
    have hend : ∀ x r : Int, D = ahd x + r → 0 ≤ r → r < 365 + lp x → x = y := by
      intro x r e e0 e1
      have a := (unhide HY).in_year
      have s := ahd_succ x
      rcases Int.lt_trichotomy x y with c | c | c
      · have := ahd_mono c; omega
      · exact c
      · have := ahd_mono c; omega
    have HE := hide hend
    clear hend
    go_wp2_with fail
    go_loop [4, 6] (fun a b => ∃ x r : Int, a = .int .i64 r ∧ b = .int .i64 x ∧ 1970 ≤ x ∧ x ≤ 9999 ∧ 0 ≤ r ∧ r ≤ 2932896 ∧ Hid (D = ahd x + r)) (fun a _ => (intOf a).toNat)
    case atStart => exact ⟨1970, D, rfl, rfl, by decide, by decide, D0, D1, hide (by rw [ahd_1970]; omega)⟩
    case round =>
      obtain ⟨x, r, rfl, rfl, x0, x1, r0, r1, hr⟩ := hrel
      have hlp := lp_01 x
      have LE := fun w => refLeap_any x (by omega) (by omega) w
      have hs := ahd_succ x
      by_cases hc : 365 ≤ r
      · rcases (show lp x = 0 ∨ lp x = 1 by omega) with hl | hl
        · rw [hl, decide_eq_false (by decide)] at LE
          have LE := Lib.hid LE
          have hx9 : x < 9999 := by
            have h9 := (unhide HY).in_year
            rcases (show x = 9999 ∨ x < 9999 by omega) with e | e
            · subst e
              have := unhide hr
              rw [show (9999 : Int) + 1 = 10000 by rfl, last_day] at hs
              omega
            · exact e
          have hr2 : Hid (D = ahd (x + 1) + (r - 365)) := hide (by have := unhide hr; omega)
          have hnl : ¬ r < 365 := by omega
          clear hs hl hlp
          go_wp2_with fail
          with_reducible refine (LE.out _).mono ?_
          rintro e w' ⟨rfl, rfl⟩
          go_wp2_with fail
          go_round
          case rel => exact ⟨x + 1, r - 365, rfl, rfl, by omega, by omega, by omega, by omega, hr2⟩
          case measure => simp [intOf]; omega
        · rw [hl, decide_eq_true rfl] at LE
          have LE := Lib.hid LE
          by_cases hd : r < 366
          · have hxy := unhide HE x r (unhide hr) r0 (by omega)
            subst hxy
            clear hs hl hlp
            go_wp2_with fail
            with_reducible refine (LE.out _).mono ?_
            rintro e w' ⟨rfl, rfl⟩
            go_wp2_with fail
            go_meet
            exact ⟨r, rfl, rfl, r0, by omega, hr, rfl⟩
          · have hx9 : x < 9999 := by
              rcases (show x = 9999 ∨ x < 9999 by omega) with e | e
              · subst e
                have := unhide hr
                rw [show (9999 : Int) + 1 = 10000 by rfl, last_day] at hs
                omega
              · exact e
            have hr2 : Hid (D = ahd (x + 1) + (r - 366)) := hide (by have := unhide hr; omega)
            clear hs hl hlp
            go_wp2_with fail
            with_reducible refine (LE.out _).mono ?_
            rintro e w' ⟨rfl, rfl⟩
            go_wp2_with fail
            go_round
            case rel => exact ⟨x + 1, r - 366, rfl, rfl, by omega, by omega, by omega, by omega, hr2⟩
            case measure => simp [intOf]; omega
      · have hxy := unhide HE x r (unhide hr) r0 (by omega)
        subst hxy
        clear hs hlp
        go_wp2_with fail
        go_meet
        exact ⟨r, rfl, rfl, r0, by omega, hr, rfl⟩
  obtain ⟨r9, rfl, rfl, r90, r91, hr9, rfl⟩ := hcut
  obtain ⟨B, hB⟩ : ∃ B, ahd y = B := ⟨_, rfl⟩
  have HB := hide hB
  have hlast : Hid (D < ahd (y + 1)) := hide (unhide HY).in_year.2
  have hst : Hid (D = B + cumd y 1 + r9) := hide (by rw [cumd_one]; have := unhide hr9; omega)
  clear hB
  go_wp2_with fail
  go_loop [4, 7] (fun t u => ∃ k r : Int, t = .int .i64 r ∧ u = .int .i64 k ∧ 1 ≤ k ∧ k ≤ 12 ∧ 0 ≤ r ∧ r ≤ 366 ∧ Hid (D = B + cumd y k + r)) (fun _ u => (12 - intOf u).toNat)
  case atStart => exact ⟨1, r9, rfl, rfl, by decide, by decide, r90, r91, hst⟩
  case round =>
    obtain ⟨k, r, rfl, rfl, k0, k1, r0, r1, hr⟩ := hrel
    obtain ⟨M, hM⟩ : ∃ M, mlen y k = M := ⟨_, rfl⟩
    have hMb := mlen_bd y k
    have MH := fun w => refDays_any y k (by omega) (by omega) k0 k1 w
    rw [hM] at MH hMb
    obtain ⟨M0, M1⟩ := hMb
    replace MH := Lib.hid MH
    have hcs := cumd_succ y k k0 k1
    by_cases hd : M ≤ r
    · have hk12 : k < 12 := by
        rcases (show k = 12 ∨ k < 12 by omega) with e | e
        · exfalso
          subst e
          have c1 := cumd_end y
          rw [show (12 : Int) + 1 = 13 by rfl, c1] at hcs
          have c2 := unhide hlast
          have c3 := ahd_succ y
          have c4 := unhide hr
          have c5 := unhide HB
          omega
        · exact e
      have hr2 : Hid (D = B + cumd y (k + 1) + (r - M)) := hide (by have := unhide hr; omega)
      clear hM hcs
      go_wp2_with fail
      with_reducible refine (MH.out _).mono ?_
      rintro e w' ⟨rfl, rfl⟩
      go_wp2_with fail
      with_reducible refine (MH.out _).mono ?_
      rintro e w' ⟨rfl, rfl⟩
      go_wp2_with fail
      go_round
      case rel => exact ⟨k + 1, r - M, rfl, rfl, by omega, by omega, by omega, by omega, hr2⟩
      case measure => simp [intOf]; omega
    · have hu := Ymd.unique (unhide HY) (show Ymd D y k r from ⟨b1, b2, k0, k1, r0, by omega, by have := unhide hr; have := unhide HB; omega⟩)
      obtain ⟨_, rfl, rfl⟩ := hu
      clear hM hcs
      go_wp2_with fail
      with_reducible refine (MH.out _).mono ?_
      rintro e w' ⟨rfl, rfl⟩
      go_wp2_with fail
      with_reducible refine (P1.out _).mono ?_
      rintro e w1 ⟨rfl, hb1⟩
      have hw1 : Below w.heap.size w w1 := Below.trans (by repeat' (first | (with_reducible assumption) | (with_reducible exact Below.refl _ _) | (with_reducible refine below_drewN ?_ _) | (with_reducible refine Below.drew ?_) | (with_reducible refine Below.setCell ?_ ?_ _) | (with_reducible refine Below.alloc ?_ ?_ _) | omega | (simp; done) | (simp; omega))) (hb1.mono (by first | assumption | (simp; done) | (simp; omega)))
      have hz1 := hw1.size
      clear hb1
      go_wp2_with fail
      with_reducible refine (P2.out _).mono ?_
      rintro e w2 ⟨rfl, hb2⟩
      have hw2 : Below w.heap.size w w2 := Below.trans (by repeat' (first | (with_reducible assumption) | (with_reducible exact Below.refl _ _) | (with_reducible refine below_drewN ?_ _) | (with_reducible refine Below.drew ?_) | (with_reducible refine Below.setCell ?_ ?_ _) | (with_reducible refine Below.alloc ?_ ?_ _) | omega | (simp; done) | (simp; omega))) (hb2.mono (by first | assumption | (simp; done) | (simp; omega)))
      have hz2 := hw2.size
      clear hb2
      go_wp2_with fail
      with_reducible refine (P3.out _).mono ?_
      rintro e w3 ⟨rfl, hb3⟩
      have hw3 : Below w.heap.size w w3 := Below.trans (by repeat' (first | (with_reducible assumption) | (with_reducible exact Below.refl _ _) | (with_reducible refine below_drewN ?_ _) | (with_reducible refine Below.drew ?_) | (with_reducible refine Below.setCell ?_ ?_ _) | (with_reducible refine Below.alloc ?_ ?_ _) | omega | (simp; done) | (simp; omega))) (hb3.mono (by first | assumption | (simp; done) | (simp; omega)))
      have hz3 := hw3.size
      clear hb3
      go_wp2_with fail
      with_reducible refine (P4.out _).mono ?_
      rintro e w4 ⟨rfl, hb4⟩
      have hw4 : Below w.heap.size w w4 := Below.trans (by repeat' (first | (with_reducible assumption) | (with_reducible exact Below.refl _ _) | (with_reducible refine below_drewN ?_ _) | (with_reducible refine Below.drew ?_) | (with_reducible refine Below.setCell ?_ ?_ _) | (with_reducible refine Below.alloc ?_ ?_ _) | omega | (simp; done) | (simp; omega))) (hb4.mono (by first | assumption | (simp; done) | (simp; omega)))
      have hz4 := hw4.size
      clear hb4
      go_wp2_with fail
      with_reducible refine (P5.out _).mono ?_
      rintro e w5 ⟨rfl, hb5⟩
      have hw5 : Below w.heap.size w w5 := Below.trans (by repeat' (first | (with_reducible assumption) | (with_reducible exact Below.refl _ _) | (with_reducible refine below_drewN ?_ _) | (with_reducible refine Below.drew ?_) | (with_reducible refine Below.setCell ?_ ?_ _) | (with_reducible refine Below.alloc ?_ ?_ _) | omega | (simp; done) | (simp; omega))) (hb5.mono (by first | assumption | (simp; done) | (simp; omega)))
      have hz5 := hw5.size
      clear hb5
      go_wp2_with fail
      with_reducible refine (P6.out _).mono ?_
      rintro e w6 ⟨rfl, hb6⟩
      have hw6 : Below w.heap.size w w6 := Below.trans (by repeat' (first | (with_reducible assumption) | (with_reducible exact Below.refl _ _) | (with_reducible refine below_drewN ?_ _) | (with_reducible refine Below.drew ?_) | (with_reducible refine Below.setCell ?_ ?_ _) | (with_reducible refine Below.alloc ?_ ?_ _) | omega | (simp; done) | (simp; omega))) (hb6.mono (by first | assumption | (simp; done) | (simp; omega)))
      have hz6 := hw6.size
      clear hb6
      cases hf : (F != 0)
      · have hF : F.toNat = 0 := by
          have : F = 0 := by simpa using hf
          omega
        have HV : Hid (t1 ++ ({ data := #[45] } : ByteArray) ++ t2 ++ ({ data := #[45] } : ByteArray) ++ t3 ++ ({ data := #[84] } : ByteArray) ++ t4 ++ ({ data := #[58] } : ByteArray) ++ t5 ++ ({ data := #[58] } : ByteArray) ++ t6 ++ ({ data := #[90] } : ByteArray) = ⟨(whenTxt y.toNat m.toNat (d + 1).toNat (R / 3600000).toNat (R / 60000 % 60).toNat (R / 1000 % 60).toNat F.toNat).toArray⟩) := hide (ba_eq (by
          rw [hF]
          simp [whenTxt, unhide Lt1, unhide Lt2, unhide Lt3, unhide Lt4, unhide Lt5, unhide Lt6, unhide Lt7]))
        clear hF
        go_wp2_with fail
        go_ret2
        exact ⟨ret_tb (unhide HV), by repeat' (first | (with_reducible assumption) | (with_reducible exact Below.refl _ _) | (with_reducible refine below_drewN ?_ _) | (with_reducible refine Below.drew ?_) | (with_reducible refine Below.setCell ?_ ?_ _) | (with_reducible refine Below.alloc ?_ ?_ _) | omega | (simp; done) | (simp; omega))⟩
      · have hF : ¬ F.toNat = 0 := by
          have : F ≠ 0 := by simpa using hf
          omega
        have HV : Hid (t1 ++ ({ data := #[45] } : ByteArray) ++ t2 ++ ({ data := #[45] } : ByteArray) ++ t3 ++ ({ data := #[84] } : ByteArray) ++ t4 ++ ({ data := #[58] } : ByteArray) ++ t5 ++ ({ data := #[58] } : ByteArray) ++ t6 ++ ({ data := #[46] } : ByteArray) ++ t7 ++ ({ data := #[90] } : ByteArray) = ⟨(whenTxt y.toNat m.toNat (d + 1).toNat (R / 3600000).toNat (R / 60000 % 60).toNat (R / 1000 % 60).toNat F.toNat).toArray⟩) := hide (ba_eq (by
          simp [whenTxt, hF, unhide Lt1, unhide Lt2, unhide Lt3, unhide Lt4, unhide Lt5, unhide Lt6, unhide Lt7]))
        clear hF
        go_wp2_with fail
        with_reducible refine (P7.out _).mono ?_
        rintro e w7 ⟨rfl, hb7⟩
        have hw7 : Below w.heap.size w w7 := Below.trans (by repeat' (first | (with_reducible assumption) | (with_reducible exact Below.refl _ _) | (with_reducible refine below_drewN ?_ _) | (with_reducible refine Below.drew ?_) | (with_reducible refine Below.setCell ?_ ?_ _) | (with_reducible refine Below.alloc ?_ ?_ _) | omega | (simp; done) | (simp; omega))) (hb7.mono (by first | assumption | (simp; done) | (simp; omega)))
        have hz7 := hw7.size
        clear hb7
        go_wp2_with fail
        go_ret2
        exact ⟨ret_tb (unhide HV), by repeat' (first | (with_reducible assumption) | (with_reducible exact Below.refl _ _) | (with_reducible refine below_drewN ?_ _) | (with_reducible refine Below.drew ?_) | (with_reducible refine Below.setCell ?_ ?_ _) | (with_reducible refine Below.alloc ?_ ?_ _) | omega | (simp; done) | (simp; omega))⟩
end Go.Proofs.YtdfpknomhambcaaDoor
