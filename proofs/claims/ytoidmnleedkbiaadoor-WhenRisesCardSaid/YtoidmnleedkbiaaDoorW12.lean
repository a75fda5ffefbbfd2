/- The contract of when.Text: a time's text. Condition: the time is one that has a text; the table of powers of 10 is laid. -/
import Derived.Test.YtoidmnleedkbiaaDoorW6
import Derived.Outline
namespace Go.Proofs.YtoidmnleedkbiaaDoor
open Go.RowKit
set_option linter.unusedSimpArgs false
set_option linter.unusedVariables false

theorem year_exists (days : Int) (h0 : 0 ≤ days) : ∀ k : Nat, days < ahd (1970 + k) → ∃ y : Int, 1970 ≤ y ∧ y < 1970 + k ∧ ahd y ≤ days ∧ days < ahd (y + 1)
  | 0, h => by
    rw [show (1970 : Int) + ((0 : Nat) : Int) = 1970 by rfl, ahd_1970] at h
    omega
  | k + 1, h => by
    by_cases hc : days < ahd (1970 + k)
    · obtain ⟨y, a, b, c, d⟩ := year_exists days h0 k hc
      exact ⟨y, a, by omega, c, d⟩
    · exact ⟨1970 + k, by omega, by omega, by omega, by rw [show (1970 : Int) + k + 1 = 1970 + ((k + 1 : Nat) : Int) by omega]; exact h⟩
theorem month_exists (y r : Int) (h0 : 0 ≤ r) : ∀ k : Nat, k ≤ 12 → r < cumd y (1 + k) → ∃ m : Int, 1 ≤ m ∧ m < 1 + k ∧ cumd y m ≤ r ∧ r < cumd y (m + 1)
  | 0, _, h => by
    rw [show (1 : Int) + ((0 : Nat) : Int) = 1 by rfl, cumd_one] at h
    omega
  | k + 1, hk, h => by
    by_cases hc : r < cumd y (1 + k)
    · obtain ⟨m, a, b, c, d⟩ := month_exists y r h0 k (by omega) hc
      exact ⟨m, a, by omega, c, d⟩
    · exact ⟨1 + k, by omega, by omega, by omega, by rw [show (1 : Int) + k + 1 = 1 + ((k + 1 : Nat) : Int) by omega]; exact h⟩
theorem ymd_exists (days : Int) (h0 : 0 ≤ days) (h1 : days ≤ 2932896) : ∃ y m d, Ymd days y m d := by
  obtain ⟨y, a, b, c, e⟩ := year_exists days h0 8030 (by rw [show (1970 : Int) + ((8030 : Nat) : Int) = 10000 by rfl, last_day]; omega)
  have hs := ahd_succ y
  have hc := cumd_end y
  obtain ⟨m, f, g, h, i⟩ := month_exists y (days - ahd y) (by omega) 12 (by decide) (by rw [show (1 : Int) + ((12 : Nat) : Int) = 13 by rfl, hc]; omega)
  have hm := cumd_succ y m f (by omega)
  exact ⟨y, m, days - ahd y - cumd y m, a, by omega, f, by omega, by omega, by omega, by omega⟩
theorem ba_eq {a : ByteArray} {l : List UInt8} (h : a.data.toList = l) : a = ⟨l.toArray⟩ := ByteArray.ext (by rw [← h])
theorem ret_tb {a b : ByteArray} (h : a = b) : Ending.returned (.tuple #[.string a, .bool true]) = .returned (.tuple #[.string b, .bool true]) := by rw [h]
set_option maxHeartbeats 400000 in
theorem whenText_none (ms : Int) (h : ms < 0 ∨ 253402300799999 < ms) (w : World) :
    Calls Tryd.prog 8 #[.int .i64 ms] w fun e w' => e = .returned (.tuple #[.string { data := #[] }, .bool false]) ∧ w = w' := by
  rcases h with h | h
  · go_enter Tryd.func8, Tryd.ntmps8
    go_wp2_with fail
    go_ret2
    exact ⟨rfl, rfl⟩
  · have h2 : ¬ ms < 0 := by omega
    go_enter Tryd.func8, Tryd.ntmps8
    go_wp2_with fail
    go_ret2
    exact ⟨rfl, rfl⟩
set_option maxHeartbeats 6400000 in
set_option maxRecDepth 100000 in
theorem whenText_walk (ms D R S F y m d : Int) (h0 : 0 ≤ ms) (h1 : ms ≤ 253402300799999) (eD : ms / 86400000 = D) (eR : ms % 86400000 = R) (eS : R / 1000 = S) (eF : R % 1000 = F)
    (D0 : 0 ≤ D) (D1 : D ≤ 2932896) (R0 : 0 ≤ R) (R1 : R ≤ 86399999) (S0 : 0 ≤ S) (S1 : S ≤ 86399) (F0 : 0 ≤ F) (F1 : F ≤ 999) (hy : Ymd D y m d) (w : World) (htab : PowTab w) :
    Calls Tryd.prog 8 #[.int .i64 ms] w fun e w' => e = .returned (.tuple #[.string ⟨(whenTxt y.toNat m.toNat (d + 1).toNat (S / 3600).toNat (S / 60 % 60).toNat (S % 60).toNat F.toNat).toArray⟩, .bool true]) ∧ Below w.heap.size w w' := by
  have HT := Lib.hid htab
  clear htab
  obtain ⟨b1, b2, b3, b4, b5, b6, b7⟩ := hy
  have b8 : d ≤ 30 := by have := mlen_bd y m; omega
  have HY : Hid (Ymd D y m d) := hide ⟨b1, b2, b3, b4, b5, b6, b7⟩
  have GU := Lib.hid (guess D D0 D1)
  clear b6 b7
  obtain ⟨t1, ht1⟩ : ∃ t : ByteArray, t = ⟨(padK (4 : Int).toNat (y).toNat).toArray⟩ := ⟨_, rfl⟩
  have Lt1 : Hid (t1.data.toList = padK 4 (y).toNat) := hide (by rw [ht1]; rfl)
  have st1 : t1.size = 4 := by rw [ht1]; show (padK _ _).toArray.size = _; rw [List.size_toArray, padK_length]; rfl
  have P1 : ∀ w, PowTab w → Calls Tryd.prog 15 #[.int .i64 (y), .int .i64 4] w fun e w' => e = .returned (.string t1) ∧ Below w.heap.size w w' := fun w h => by rw [ht1]; exact put_any (y) 4 (by omega) (by decide) (by decide) (show (y).toNat < 10000 from by omega) w h
  replace P1 := Lib.hid P1
  clear ht1
  obtain ⟨t2, ht2⟩ : ∃ t : ByteArray, t = ⟨(padK (2 : Int).toNat (m).toNat).toArray⟩ := ⟨_, rfl⟩
  have Lt2 : Hid (t2.data.toList = padK 2 (m).toNat) := hide (by rw [ht2]; rfl)
  have st2 : t2.size = 2 := by rw [ht2]; show (padK _ _).toArray.size = _; rw [List.size_toArray, padK_length]; rfl
  have P2 : ∀ w, PowTab w → Calls Tryd.prog 15 #[.int .i64 (m), .int .i64 2] w fun e w' => e = .returned (.string t2) ∧ Below w.heap.size w w' := fun w h => by rw [ht2]; exact put_any (m) 2 (by omega) (by decide) (by decide) (show (m).toNat < 100 from by omega) w h
  replace P2 := Lib.hid P2
  clear ht2
  obtain ⟨t3, ht3⟩ : ∃ t : ByteArray, t = ⟨(padK (2 : Int).toNat (d + 1).toNat).toArray⟩ := ⟨_, rfl⟩
  have Lt3 : Hid (t3.data.toList = padK 2 (d + 1).toNat) := hide (by rw [ht3]; rfl)
  have st3 : t3.size = 2 := by rw [ht3]; show (padK _ _).toArray.size = _; rw [List.size_toArray, padK_length]; rfl
  have P3 : ∀ w, PowTab w → Calls Tryd.prog 15 #[.int .i64 (d + 1), .int .i64 2] w fun e w' => e = .returned (.string t3) ∧ Below w.heap.size w w' := fun w h => by rw [ht3]; exact put_any (d + 1) 2 (by omega) (by decide) (by decide) (show (d + 1).toNat < 100 from by omega) w h
  replace P3 := Lib.hid P3
  clear ht3
  obtain ⟨t4, ht4⟩ : ∃ t : ByteArray, t = ⟨(padK (2 : Int).toNat (S / 3600).toNat).toArray⟩ := ⟨_, rfl⟩
  have Lt4 : Hid (t4.data.toList = padK 2 (S / 3600).toNat) := hide (by rw [ht4]; rfl)
  have st4 : t4.size = 2 := by rw [ht4]; show (padK _ _).toArray.size = _; rw [List.size_toArray, padK_length]; rfl
  have P4 : ∀ w, PowTab w → Calls Tryd.prog 15 #[.int .i64 (S / 3600), .int .i64 2] w fun e w' => e = .returned (.string t4) ∧ Below w.heap.size w w' := fun w h => by rw [ht4]; exact put_any (S / 3600) 2 (by omega) (by decide) (by decide) (show (S / 3600).toNat < 100 from by omega) w h
  replace P4 := Lib.hid P4
  clear ht4
  obtain ⟨t5, ht5⟩ : ∃ t : ByteArray, t = ⟨(padK (2 : Int).toNat (S / 60 % 60).toNat).toArray⟩ := ⟨_, rfl⟩
  have Lt5 : Hid (t5.data.toList = padK 2 (S / 60 % 60).toNat) := hide (by rw [ht5]; rfl)
  have st5 : t5.size = 2 := by rw [ht5]; show (padK _ _).toArray.size = _; rw [List.size_toArray, padK_length]; rfl
  have P5 : ∀ w, PowTab w → Calls Tryd.prog 15 #[.int .i64 (S / 60 % 60), .int .i64 2] w fun e w' => e = .returned (.string t5) ∧ Below w.heap.size w w' := fun w h => by rw [ht5]; exact put_any (S / 60 % 60) 2 (by omega) (by decide) (by decide) (show (S / 60 % 60).toNat < 100 from by omega) w h
  replace P5 := Lib.hid P5
  clear ht5
  obtain ⟨t6, ht6⟩ : ∃ t : ByteArray, t = ⟨(padK (2 : Int).toNat (S % 60).toNat).toArray⟩ := ⟨_, rfl⟩
  have Lt6 : Hid (t6.data.toList = padK 2 (S % 60).toNat) := hide (by rw [ht6]; rfl)
  have st6 : t6.size = 2 := by rw [ht6]; show (padK _ _).toArray.size = _; rw [List.size_toArray, padK_length]; rfl
  have P6 : ∀ w, PowTab w → Calls Tryd.prog 15 #[.int .i64 (S % 60), .int .i64 2] w fun e w' => e = .returned (.string t6) ∧ Below w.heap.size w w' := fun w h => by rw [ht6]; exact put_any (S % 60) 2 (by omega) (by decide) (by decide) (show (S % 60).toNat < 100 from by omega) w h
  replace P6 := Lib.hid P6
  clear ht6
  obtain ⟨t7, ht7⟩ : ∃ t : ByteArray, t = ⟨(padK (3 : Int).toNat (F).toNat).toArray⟩ := ⟨_, rfl⟩
  have Lt7 : Hid (t7.data.toList = padK 3 (F).toNat) := hide (by rw [ht7]; rfl)
  have st7 : t7.size = 3 := by rw [ht7]; show (padK _ _).toArray.size = _; rw [List.size_toArray, padK_length]; rfl
  have P7 : ∀ w, PowTab w → Calls Tryd.prog 15 #[.int .i64 (F), .int .i64 3] w fun e w' => e = .returned (.string t7) ∧ Below w.heap.size w w' := fun w h => by rw [ht7]; exact put_any (F) 3 (by omega) (by decide) (by decide) (show (F).toNat < 1000 from by omega) w h
  replace P7 := Lib.hid P7
  clear ht7
  have k45 : ({ data := #[45] } : ByteArray).size = 1 := rfl
  have k84 : ({ data := #[84] } : ByteArray).size = 1 := rfl
  have k58 : ({ data := #[58] } : ByteArray).size = 1 := rfl
  have k46 : ({ data := #[46] } : ByteArray).size = 1 := rfl
  have k90 : ({ data := #[90] } : ByteArray).size = 1 := rfl
  have z1 : t1.size + 1 ≤ 100 := by omega
  go_enter Tryd.func8, Tryd.ntmps8
  go_upto_region 3 with fail
  go_cut [4, 5] (fun a b W => a = .int .i64 D ∧ b = .int .i64 R ∧ w = W)
  case first =>
    go_wp2_with fail
    go_meet
    exact ⟨by first | rfl | rw [eD], by first | rfl | rw [eR], rfl⟩
  obtain ⟨rfl, rfl, rfl⟩ := hcut
  clear eD eR
  go_wp2_with fail
  go_loop [6] (fun t => ∃ x : Int, t = .int .i64 x ∧ 1970 ≤ x ∧ x ≤ 9999 ∧ Hid (ahd x ≤ D)) (fun t => (9999 - intOf t).toNat)
  case atStart => exact ⟨1970 + D / 366, rfl, by omega, GU.out.2, hide GU.out.1⟩
  case round =>
    obtain ⟨x, rfl, x0, x1, hx⟩ := hrel
    obtain ⟨A, hA⟩ : ∃ A, ahd (x + 1) = A := ⟨_, rfl⟩
    have AH := fun w => ahead_any (x + 1) (by omega) (by omega) w
    rw [hA] at AH
    replace AH := Lib.hid AH
    by_cases hc : A ≤ D
    · have hx9 : x < 9999 := by
        rcases (show x = 9999 ∨ x < 9999 by omega) with e | e
        · rw [e, show (9999 : Int) + 1 = 10000 by rfl, last_day] at hA; omega
        · exact e
      have hx2 : Hid (ahd (x + 1) ≤ D) := hide (by omega)
      clear hA
      go_wp2_with fail
      with_reducible refine (AH.out _).mono ?_
      rintro e w' ⟨rfl, rfl⟩
      go_wp2_with fail
      go_round
      case rel => exact ⟨x + 1, rfl, by omega, by omega, hx2⟩
      case measure => simp [intOf]; omega
    · have hxy : x = y := by
        have a := (unhide HY).in_year
        have b := unhide hx
        rcases Int.lt_trichotomy x y with c | c | c
        · have := ahd_mono c; omega
        · exact c
        · have := ahd_mono c; omega
      subst hxy
      have hlast : Hid (D < ahd (x + 1)) := hide (by omega)
      clear hA
      obtain ⟨B, hB⟩ : ∃ B, ahd x = B := ⟨_, rfl⟩
      have BH := fun w => ahead_any x (by omega) (by omega) w
      rw [hB] at BH
      replace BH := Lib.hid BH
      have hBD : B ≤ D := by have := unhide hx; omega
      have hBD2 : D - B ≤ 366 := by
        have := unhide hlast
        have := ahd_succ x
        have := lp_01 x
        omega
      have hB0 : 0 ≤ B := by
        rcases (show x = 1970 ∨ 1970 < x by omega) with e | e
        · rw [e, ahd_1970] at hB; omega
        · have := ahd_mono e
          rw [ahd_succ 1970, ahd_1970] at this
          have := lp_01 1970
          omega
      have HB := hide hB
      clear hB
      go_wp2_with fail
      with_reducible refine (AH.out _).mono ?_
      rintro e w' ⟨rfl, rfl⟩
      go_wp2_with fail
      with_reducible refine (BH.out _).mono ?_
      rintro e w' ⟨rfl, rfl⟩
      go_wp2_with fail
      go_loop [7, 8] (fun t u => ∃ k r : Int, t = .int .i64 r ∧ u = .int .i64 k ∧ 1 ≤ k ∧ k ≤ 12 ∧ 0 ≤ r ∧ r ≤ 366 ∧ Hid (D = B + cumd x k + r)) (fun _ u => (12 - intOf u).toNat)
      case atStart => exact ⟨1, D - B, rfl, rfl, by decide, by decide, by omega, hBD2, hide (by rw [cumd_one]; omega)⟩
      case round =>
        obtain ⟨k, r, rfl, rfl, k0, k1, r0, r1, hr⟩ := hrel
        obtain ⟨M, hM⟩ : ∃ M, mlen x k = M := ⟨_, rfl⟩
        have hMb := mlen_bd x k
        have MH := fun w => month_any x k (by omega) (by omega) k0 k1 w
        rw [hM] at MH hMb
        obtain ⟨M0, M1⟩ := hMb
        replace MH := Lib.hid MH
        have hcs := cumd_succ x k k0 k1
        by_cases hd : M ≤ r
        · have hk12 : k < 12 := by
            rcases (show k = 12 ∨ k < 12 by omega) with e | e
            · exfalso
              subst e
              have c1 := cumd_end x
              rw [show (12 : Int) + 1 = 13 by rfl, c1] at hcs
              have c2 := unhide hlast
              have c3 := ahd_succ x
              have c4 := unhide hr
              have c5 := unhide HB
              omega
            · exact e
          have hr2 : Hid (D = B + cumd x (k + 1) + (r - M)) := hide (by have := unhide hr; omega)
          clear hM hcs
          go_wp2_with fail
          with_reducible refine (MH.out _).mono ?_
          rintro e w' ⟨rfl, rfl⟩
          go_wp2_with fail
          with_reducible refine (MH.out _).mono ?_
          rintro e w' ⟨rfl, rfl⟩
          go_wp2_with fail
          go_round
          case rel => exact ⟨k + 1, r - M, rfl, rfl, by omega, by omega, by omega, by omega, hr2⟩
          case measure => simp [intOf]; omega
        · have hu := Ymd.unique (unhide HY) (show Ymd D x k r from ⟨b1, b2, k0, k1, r0, by omega, by have := unhide hr; have := unhide HB; omega⟩)
          obtain ⟨_, rfl, rfl⟩ := hu
          clear hM hcs
          go_wp2_with fail
          with_reducible refine (MH.out _).mono ?_
          rintro e w' ⟨rfl, rfl⟩
          go_wp2_with fail
          with_reducible refine (P1.out _ HT.out).mono ?_
          rintro e w1 ⟨rfl, hb1⟩
          have hw1 : Below w.heap.size w w1 := Below.trans (by repeat' (first | (with_reducible assumption) | (with_reducible exact Below.refl _ _) | (with_reducible refine below_drewN ?_ _) | (with_reducible refine Below.drew ?_) | (with_reducible refine Below.setCell ?_ ?_ _) | (with_reducible refine Below.alloc ?_ ?_ _) | omega | (simp; done) | (simp; omega))) (hb1.mono (by first | assumption | (simp; done) | (simp; omega)))
          have hz1 := hw1.size
          clear hb1
          go_wp2_with fail
          with_reducible refine (P2.out _ (tabIs_below HT.out hw1)).mono ?_
          rintro e w2 ⟨rfl, hb2⟩
          have hw2 : Below w.heap.size w w2 := Below.trans (by repeat' (first | (with_reducible assumption) | (with_reducible exact Below.refl _ _) | (with_reducible refine below_drewN ?_ _) | (with_reducible refine Below.drew ?_) | (with_reducible refine Below.setCell ?_ ?_ _) | (with_reducible refine Below.alloc ?_ ?_ _) | omega | (simp; done) | (simp; omega))) (hb2.mono (by first | assumption | (simp; done) | (simp; omega)))
          have hz2 := hw2.size
          clear hb2
          go_wp2_with fail
          with_reducible refine (P3.out _ (tabIs_below HT.out hw2)).mono ?_
          rintro e w3 ⟨rfl, hb3⟩
          have hw3 : Below w.heap.size w w3 := Below.trans (by repeat' (first | (with_reducible assumption) | (with_reducible exact Below.refl _ _) | (with_reducible refine below_drewN ?_ _) | (with_reducible refine Below.drew ?_) | (with_reducible refine Below.setCell ?_ ?_ _) | (with_reducible refine Below.alloc ?_ ?_ _) | omega | (simp; done) | (simp; omega))) (hb3.mono (by first | assumption | (simp; done) | (simp; omega)))
          have hz3 := hw3.size
          clear hb3
          go_wp2_with fail
          with_reducible refine (P4.out _ (tabIs_below HT.out hw3)).mono ?_
          rintro e w4 ⟨rfl, hb4⟩
          have hw4 : Below w.heap.size w w4 := Below.trans (by repeat' (first | (with_reducible assumption) | (with_reducible exact Below.refl _ _) | (with_reducible refine below_drewN ?_ _) | (with_reducible refine Below.drew ?_) | (with_reducible refine Below.setCell ?_ ?_ _) | (with_reducible refine Below.alloc ?_ ?_ _) | omega | (simp; done) | (simp; omega))) (hb4.mono (by first | assumption | (simp; done) | (simp; omega)))
          have hz4 := hw4.size
          clear hb4
          go_wp2_with fail
          with_reducible refine (P5.out _ (tabIs_below HT.out hw4)).mono ?_
          rintro e w5 ⟨rfl, hb5⟩
          have hw5 : Below w.heap.size w w5 := Below.trans (by repeat' (first | (with_reducible assumption) | (with_reducible exact Below.refl _ _) | (with_reducible refine below_drewN ?_ _) | (with_reducible refine Below.drew ?_) | (with_reducible refine Below.setCell ?_ ?_ _) | (with_reducible refine Below.alloc ?_ ?_ _) | omega | (simp; done) | (simp; omega))) (hb5.mono (by first | assumption | (simp; done) | (simp; omega)))
          have hz5 := hw5.size
          clear hb5
          go_wp2_with fail
          with_reducible refine (P6.out _ (tabIs_below HT.out hw5)).mono ?_
          rintro e w6 ⟨rfl, hb6⟩
          have hw6 : Below w.heap.size w w6 := Below.trans (by repeat' (first | (with_reducible assumption) | (with_reducible exact Below.refl _ _) | (with_reducible refine below_drewN ?_ _) | (with_reducible refine Below.drew ?_) | (with_reducible refine Below.setCell ?_ ?_ _) | (with_reducible refine Below.alloc ?_ ?_ _) | omega | (simp; done) | (simp; omega))) (hb6.mono (by first | assumption | (simp; done) | (simp; omega)))
          have hz6 := hw6.size
          clear hb6
          cases hf : (F != 0)
          · have hF : F.toNat = 0 := by
              have : F = 0 := by simpa using hf
              omega
            have HV : Hid (t1 ++ ({ data := #[45] } : ByteArray) ++ t2 ++ ({ data := #[45] } : ByteArray) ++ t3 ++ ({ data := #[84] } : ByteArray) ++ t4 ++ ({ data := #[58] } : ByteArray) ++ t5 ++ ({ data := #[58] } : ByteArray) ++ t6 ++ ({ data := #[90] } : ByteArray) = ⟨(whenTxt x.toNat m.toNat (d + 1).toNat (S / 3600).toNat (S / 60 % 60).toNat (S % 60).toNat F.toNat).toArray⟩) := hide (ba_eq (by
              rw [hF]
              simp [whenTxt, unhide Lt1, unhide Lt2, unhide Lt3, unhide Lt4, unhide Lt5, unhide Lt6, unhide Lt7]))
            clear hF
            go_wp2_with fail
            go_ret2
            exact ⟨ret_tb (unhide HV), by repeat' (first | (with_reducible assumption) | (with_reducible exact Below.refl _ _) | (with_reducible refine below_drewN ?_ _) | (with_reducible refine Below.drew ?_) | (with_reducible refine Below.setCell ?_ ?_ _) | (with_reducible refine Below.alloc ?_ ?_ _) | omega | (simp; done) | (simp; omega))⟩
          · have hF : ¬ F.toNat = 0 := by
              have : F ≠ 0 := by simpa using hf
              omega
            have HV : Hid (t1 ++ ({ data := #[45] } : ByteArray) ++ t2 ++ ({ data := #[45] } : ByteArray) ++ t3 ++ ({ data := #[84] } : ByteArray) ++ t4 ++ ({ data := #[58] } : ByteArray) ++ t5 ++ ({ data := #[58] } : ByteArray) ++ t6 ++ (({ data := #[46] } : ByteArray) ++ t7) ++ ({ data := #[90] } : ByteArray) = ⟨(whenTxt x.toNat m.toNat (d + 1).toNat (S / 3600).toNat (S / 60 % 60).toNat (S % 60).toNat F.toNat).toArray⟩) := hide (ba_eq (by
              simp [whenTxt, hF, unhide Lt1, unhide Lt2, unhide Lt3, unhide Lt4, unhide Lt5, unhide Lt6, unhide Lt7]))
            clear hF
            go_wp2_with fail
            with_reducible refine (P7.out _ (tabIs_below HT.out hw6)).mono ?_
            rintro e w7 ⟨rfl, hb7⟩
            have hw7 : Below w.heap.size w w7 := Below.trans (by repeat' (first | (with_reducible assumption) | (with_reducible exact Below.refl _ _) | (with_reducible refine below_drewN ?_ _) | (with_reducible refine Below.drew ?_) | (with_reducible refine Below.setCell ?_ ?_ _) | (with_reducible refine Below.alloc ?_ ?_ _) | omega | (simp; done) | (simp; omega))) (hb7.mono (by first | assumption | (simp; done) | (simp; omega)))
            have hz7 := hw7.size
            clear hb7
            go_wp2_with fail
            go_ret2
            exact ⟨ret_tb (unhide HV), by repeat' (first | (with_reducible assumption) | (with_reducible exact Below.refl _ _) | (with_reducible refine below_drewN ?_ _) | (with_reducible refine Below.drew ?_) | (with_reducible refine Below.setCell ?_ ?_ _) | (with_reducible refine Below.alloc ?_ ?_ _) | omega | (simp; done) | (simp; omega))⟩
end Go.Proofs.YtoidmnleedkbiaaDoor
