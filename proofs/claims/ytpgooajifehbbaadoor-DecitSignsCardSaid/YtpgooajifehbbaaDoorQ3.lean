/- The contract of the reference's DecText. No condition. -/
import Derived.Test.YtpgooajifehbbaaDoorQ2
namespace Go.Proofs.YtpgooajifehbbaaDoor
open Go.RowKit
set_option linter.unusedSimpArgs false
set_option linter.unusedVariables false

def sgB (ng : Bool) : ByteArray := if ng then { data := #[45] } else { data := #[] }
theorem sgB_size (ng : Bool) : (sgB ng).size ≤ 1 := by cases ng <;> decide
set_option maxHeartbeats 6400000 in
set_option maxRecDepth 100000 in
theorem decText_any (a b : Int) (a0 : 0 ≤ a) (a1 : a ≤ 18446744073709551615) (b0 : 0 ≤ b) (b1 : b ≤ 18446744073709551615) (w : World) :
    Calls Tryd.prog 10 #[.int .u64 a, .int .u64 b] w fun en w' => en = .returned (.string ⟨(decT (sKind a) (sNeg a) (wN (sHigh a b) (sLow a b)) (sExp a)).toArray⟩) ∧ Below w.heap.size w w' := by
  have SP := Lib.hid (fun w => refSplit_any a b a0 a1 b0 b1 w)
  obtain ⟨s0, s1, s2, s3, s4, s5⟩ := split_bounds a b b0 b1
  have hx := sExp_bd a a0
  have hk := kind_cases a
  generalize sKind a = k at *
  generalize sNeg a = ng at *
  generalize sHigh a b = h at *
  generalize sLow a b = l at *
  generalize sExp a = x at *
  obtain ⟨x0, x1⟩ := hx
  obtain ⟨O, hO⟩ : ∃ O : ByteArray, (⟨(decT k ng (wN h l) x).toArray⟩ : ByteArray) = O := ⟨_, rfl⟩
  rw [hO]
  have hol : O.data.toList = decT k ng (wN h l) x := by rw [← hO]
  clear hO
  have hk1 : ({ data := #[45] } : ByteArray).size = 1 := rfl
  have hk46 : ({ data := #[46] } : ByteArray).size = 1 := rfl
  have hk2 : ({ data := #[69, 45] } : ByteArray).size = 2 := rfl
  have hk3 : ({ data := #[69, 43] } : ByteArray).size = 2 := rfl
  rcases hk with rfl | rfl | rfl
  · have HF : Hid ({ data := #[78, 97, 78] } = O) := Lib.hid (str_ext (by rw [hol]; rfl))
    clear hol
    cases ng
    all_goals
      go_enter Tryd.func10, Tryd.ntmps10
      go_wp2_with fail
      with_reducible refine (SP.out _).mono ?_
      rintro e w1 ⟨rfl, hb1⟩
      have hz1 := hb1.size
      go_wp2_with fail
      go_ret
      exact ⟨ret_sw HF.out, by first | exact hb1 | (repeat' (first | (with_reducible assumption) | (with_reducible exact Below.refl _ _) | (with_reducible refine below_drewN ?_ _) | (with_reducible refine Below.drew ?_) | (with_reducible refine Below.setCell ?_ ?_ _) | (with_reducible refine Below.alloc ?_ ?_ _) | omega | (simp; done) | (simp; omega)))⟩
  · cases ng
    · have HF : Hid ({ data := #[73, 110, 102, 105, 110, 105, 116, 121] } = O) := Lib.hid (str_ext (by rw [hol]; rfl))
      clear hol
      go_enter Tryd.func10, Tryd.ntmps10
      go_wp2_with fail
      with_reducible refine (SP.out _).mono ?_
      rintro e w1 ⟨rfl, hb1⟩
      have hz1 := hb1.size
      go_wp2_with fail
      go_ret
      exact ⟨ret_sw HF.out, by first | exact hb1 | (repeat' (first | (with_reducible assumption) | (with_reducible exact Below.refl _ _) | (with_reducible refine below_drewN ?_ _) | (with_reducible refine Below.drew ?_) | (with_reducible refine Below.setCell ?_ ?_ _) | (with_reducible refine Below.alloc ?_ ?_ _) | omega | (simp; done) | (simp; omega)))⟩
    · have HF : Hid ({ data := #[45, 73, 110, 102, 105, 110, 105, 116, 121] } = O) := Lib.hid (str_ext (by rw [hol]; rfl))
      clear hol
      go_enter Tryd.func10, Tryd.ntmps10
      go_wp2_with fail
      with_reducible refine (SP.out _).mono ?_
      rintro e w1 ⟨rfl, hb1⟩
      have hz1 := hb1.size
      go_wp2_with fail
      go_ret
      exact ⟨ret_sw HF.out, by first | exact hb1 | (repeat' (first | (with_reducible assumption) | (with_reducible exact Below.refl _ _) | (with_reducible refine below_drewN ?_ _) | (with_reducible refine Below.drew ?_) | (with_reducible refine Below.setCell ?_ ?_ _) | (with_reducible refine Below.alloc ?_ ?_ _) | omega | (simp; done) | (simp; omega)))⟩
  · obtain ⟨d1, d39⟩ := wN_digits s0 s1 s2 s3
    obtain ⟨d, hd⟩ : ∃ d : ByteArray, (⟨(Lib.decDigits (wN h l)).toArray⟩ : ByteArray) = d := ⟨_, rfl⟩
    have hdl : d.data.toList = Lib.decDigits (wN h l) := by rw [← hd]
    have hds : d.data.toList.length = d.size := by simp
    have TX := Lib.hid (fun (w : World) => refText_any h l s0 s1 s2 s3 w)
    rw [hd] at TX
    rw [← hdl, hds] at d1 d39
    have HOL : Hid (O.data.toList = (sgB ng).data.toList ++ laidL d.data.toList x) := Lib.hid (by
      rw [hol, hdl]; cases ng <;> rfl)
    have d1i : (1 : Int) ≤ (d.size : Int) := by omega
    clear hol hd hdl hds
    obtain ⟨sg, hsg⟩ : ∃ sg, sgB ng = sg := ⟨_, rfl⟩
    have hsg1 : sg.size ≤ 1 := by rw [← hsg]; exact sgB_size ng
    rw [hsg] at HOL
    have HSG := Lib.hid hsg
    clear hsg
    go_enter Tryd.func10, Tryd.ntmps10
    go_wp2_with fail
    with_reducible refine (SP.out _).mono ?_
    rintro e w1 ⟨rfl, hb1⟩
    have hz1 := hb1.size
    go_upto_if 21 with fail
    go_cut [9] (fun y W => y = .string sg ∧ Below w.heap.size w W ∧ W.cell? ⟨w1.heap.size, 0, none⟩ = some (.int .u64 h) ∧ W.cell? ⟨w1.heap.size, 1, none⟩ = some (.int .u64 l) ∧ w1.heap.size < W.heap.size)
    case first =>
      obtain rfl := HSG.out
      cases ng
      all_goals
        go_wp2_with fail
        go_meet
        exact ⟨rfl, by repeat' (first | (with_reducible assumption) | (with_reducible exact Below.refl _ _) | (with_reducible refine below_drewN ?_ _) | (with_reducible refine Below.drew ?_) | (with_reducible refine Below.setCell ?_ ?_ _) | (with_reducible refine Below.alloc ?_ ?_ _) | omega | (simp; done) | (simp; omega)), by first | assumption | (simp [go_sem]; done), by first | assumption | (simp [go_sem]; done), by simp⟩
    case rest =>
    obtain ⟨rfl, hbw, c0, c1, hlw⟩ := hcut
    have hzw := hbw.size
    clear HSG
    by_cases hx : x = 0
    · subst hx
      have HF : Hid (sg ++ d = O) := Lib.hid (str_ext (by rw [HOL.out]; unfold laidL; rw [if_pos rfl]; simp))
      have hsum : sg.size + d.size ≤ 90 := by omega
      have hsum2 : (0 : Int) + d.size - 1 ≥ -6 := by omega
      go_wp2_with fail
      with_reducible refine (TX.out _).mono ?_
      rintro e w2 ⟨rfl, hb2⟩
      have hw2 : Below w.heap.size w w2 := Below.trans (by repeat' (first | (with_reducible assumption) | (with_reducible exact Below.refl _ _) | (with_reducible refine below_drewN ?_ _) | (with_reducible refine Below.drew ?_) | (with_reducible refine Below.setCell ?_ ?_ _) | (with_reducible refine Below.alloc ?_ ?_ _) | omega | (simp; done) | (simp; omega))) (hb2.mono (by first | assumption | (simp; done) | (simp; omega)))
      have hz2 := hw2.size
      clear hb2
      go_wp2_with fail
      go_ret
      exact ⟨ret_sw HF.out, hw2⟩
    · have xq : (x == 0) = false := beq_eq_false_iff_ne.2 hx
      have hdl : d.data.toList.length = d.size := by simp
      by_cases hc : x < 0 ∧ -6 ≤ x + d.size - 1
      · obtain ⟨c1, c2⟩ := hc
        have NG := Lib.hid (fun w => noughts_any (1 - x - d.size) (by omega) w)
        obtain ⟨R, hR⟩ : ∃ R : ByteArray, (⟨(List.replicate (1 - x - d.size).toNat (48 : UInt8)).toArray⟩ : ByteArray) = R := ⟨_, rfl⟩
        rw [hR] at NG
        have hRl : R.data.toList = List.replicate (1 - x - d.size).toNat 48 := by rw [← hR]
        have hRs : R.size = (1 - x - d.size).toNat := by
          have e : R.data.toList.length = R.size := by simp
          rw [← e, hRl, List.length_replicate]
        have hR6 : R.size ≤ 7 := by omega
        obtain ⟨m, hm⟩ : ∃ m : Nat, (R.size : Int) + d.size + x = (m : Int) := ⟨((R.size : Int) + d.size + x).toNat, by omega⟩
        have HF : Hid (sg ++ (R ++ d).extract 0 m ++ ({ data := #[46] } : ByteArray) ++ (R ++ d).extract m (R.size + d.size) = O) := Lib.hid (str_ext (by
          have e1 : padL d.data.toList x = (R ++ d).data.toList := by
            unfold padL; rw [hdl]; simp [hRl]
          have e2 : ((R ++ d).data.toList.length + x).toNat = m := by
            have : (R ++ d).data.toList.length = R.size + d.size := by simp
            rw [this]; omega
          have e3 : R.size + d.size = (R ++ d).size := by simp
          rw [HOL.out]
          unfold laidL
          rw [if_neg hx, hdl, if_pos ⟨c1, c2⟩, e1, e2, e3]
          simp only [ByteArray.data_append, Array.toList_append]
          rw [ext_head, ext_rest]
          simp))
        have hm1 : m ≤ R.size + d.size := by omega
        have hsum : R.size + d.size ≤ 46 := by omega
        have hs1 : ((R ++ d).extract 0 m).size ≤ 50 := by rw [ByteArray.size_extract, ByteArray.size_append]; omega
        have hs2 : ((R ++ d).extract m (R.size + d.size)).size ≤ 50 := by rw [ByteArray.size_extract, ByteArray.size_append]; omega
        have hs3 : sg.size + ((R ++ d).extract 0 m).size ≤ 60 := by omega
        have hs4 : sg.size + ((R ++ d).extract 0 m).size + 1 ≤ 60 := by omega
        have hs5 : sg.size + ((R ++ d).extract 0 m).size + 1 + ((R ++ d).extract m (R.size + d.size)).size ≤ 160 := by omega
        clear hR hRl hRs hdl
        go_wp2_with fail
        with_reducible refine (TX.out _).mono ?_
        rintro e w2 ⟨rfl, hb2⟩
        have hw2 : Below w.heap.size w w2 := Below.trans (by repeat' (first | (with_reducible assumption) | (with_reducible exact Below.refl _ _) | (with_reducible refine below_drewN ?_ _) | (with_reducible refine Below.drew ?_) | (with_reducible refine Below.setCell ?_ ?_ _) | (with_reducible refine Below.alloc ?_ ?_ _) | omega | (simp; done) | (simp; omega))) (hb2.mono (by first | assumption | (simp; done) | (simp; omega)))
        have hz2 := hw2.size
        clear hb2
        go_wp2_with fail
        with_reducible refine (NG.out _).mono ?_
        rintro e w3 ⟨rfl, hb3⟩
        have hw3 : Below w.heap.size w w3 := hw2.trans (hb3.mono hz2)
        have hz3 := hw3.size
        clear hb3
        go_wp2_with fail
        go_quiet (fail)
        go_wp2_with fail
        go_ret
        exact ⟨ret_sw HF.out, by repeat' (first | (with_reducible assumption) | (with_reducible exact Below.refl _ _) | (with_reducible refine below_drewN ?_ _) | (with_reducible refine Below.drew ?_) | (with_reducible refine Below.setCell ?_ ?_ _) | (with_reducible refine Below.alloc ?_ ?_ _) | omega | (simp; done) | (simp; omega))⟩
      · obtain ⟨A, hA⟩ : ∃ A : Int, x + d.size - 1 = A := ⟨_, rfl⟩
        have hA2 : -10000 ≤ A ∧ A ≤ 30000 := by omega
        obtain ⟨hA3, hA4⟩ := hA2
        have hcc : ¬ (x < 0 ∧ -6 ≤ A) := by rw [← hA]; exact hc
        have hor : 0 < x ∨ (x < 0 ∧ A < -6) := by omega
        obtain ⟨B, hB⟩ : ∃ B : Int, B = if A < 0 then -A else A := ⟨_, rfl⟩
        have hB2 : 0 ≤ B ∧ B ≤ 30000 := by rw [hB]; split <;> omega
        obtain ⟨dB, hdB⟩ : ∃ dB : ByteArray, (⟨(Lib.itoa B).toArray⟩ : ByteArray) = dB := ⟨_, rfl⟩
        have IT := Lib.hid (fun (w : World) => int5_any B (by omega) (by omega) w)
        rw [hdB] at IT
        have hdBl : dB.data.toList = Lib.decDigits B.toNat := by
          rw [← hdB]
          show Lib.itoa B = _
          unfold Lib.itoa; rw [if_neg (by omega)]
        have hdBs : dB.size ≤ 20 := by
          have e2 : dB.data.toList.length = dB.size := by simp
          rw [← e2, hdBl, Lib.decDigits_length]; exact nDigits_of_lt 20 _ (by decide) (by omega)
        have HL : Hid (O.data.toList = (sg).data.toList ++ ((d.data.toList.take 1 ++ (if 1 < d.size then 46 :: d.data.toList.drop 1 else [])) ++ (if A < 0 then 69 :: 45 :: Lib.decDigits (-A).toNat else 69 :: 43 :: Lib.decDigits A.toNat))) := Lib.hid (by
          rw [HOL.out]; unfold laidL
          rw [if_neg hx, hdl, hA, if_neg hcc])
        have hs1 : (d.extract 0 1).size ≤ 1 := by rw [ByteArray.size_extract]; omega
        have hs2 : (d.extract 1 d.size).size ≤ 50 := by rw [ByteArray.size_extract]; omega
        clear hdl hc hcc hdB HOL
        have hsA : sg.size + (d.extract 0 1).size ≤ 60 := by omega
        have hsB : sg.size + (d.extract 0 1).size + 1 ≤ 60 := by omega
        have hsC : sg.size + (d.extract 0 1).size + 1 + (d.extract 1 d.size).size ≤ 120 := by omega
        have hsD : sg.size + (d.extract 0 1).size + 1 + (d.extract 1 d.size).size + 2 ≤ 130 := by omega
        have hsE : sg.size + (d.extract 0 1).size + 1 + (d.extract 1 d.size).size + 2 + dB.size ≤ 160 := by omega
        have hsJ : sg.size + (d.extract 0 1).size + 2 ≤ 130 := by omega
        have hsK : sg.size + (d.extract 0 1).size + 2 + dB.size ≤ 160 := by omega
        by_cases hn1 : 1 < d.size
        · have hn1i : (1 : Int) < (d.size : Int) := by omega
          by_cases hAn : A < 0
          · rw [if_pos hAn] at hB
            subst hB
            have HF : Hid (sg ++ d.extract 0 1 ++ ({ data := #[46] } : ByteArray) ++ d.extract 1 d.size ++ { data := #[69, 45] } ++ dB = O) := Lib.hid (str_ext (by
              rw [HL.out, if_pos hn1, if_pos hAn]
              simp only [ByteArray.data_append, Array.toList_append]
              rw [ext_head, ext_rest, hdBl]
              simp))
            clear hdBl HL
            obtain ⟨hxn, hA6⟩ : x < 0 ∧ A < -6 := by omega
            go_wp2_with fail
            with_reducible refine (TX.out _).mono ?_
            rintro e w2 ⟨rfl, hb2⟩
            have hw2 : Below w.heap.size w w2 := Below.trans (by repeat' (first | (with_reducible assumption) | (with_reducible exact Below.refl _ _) | (with_reducible refine below_drewN ?_ _) | (with_reducible refine Below.drew ?_) | (with_reducible refine Below.setCell ?_ ?_ _) | (with_reducible refine Below.alloc ?_ ?_ _) | omega | (simp; done) | (simp; omega))) (hb2.mono (by first | assumption | (simp; done) | (simp; omega)))
            have hz2 := hw2.size
            clear hb2
            go_wp2_with fail
            with_reducible refine (IT.out _).mono ?_
            rintro e w3 ⟨rfl, hb3⟩
            have hw3 : Below w.heap.size w w3 := hw2.trans (hb3.mono hz2)
            have hz3 := hw3.size
            clear hb3
            go_wp2_with fail
            go_ret
            exact ⟨ret_sw HF.out, by repeat' (first | (with_reducible assumption) | (with_reducible exact Below.refl _ _) | (with_reducible refine below_drewN ?_ _) | (with_reducible refine Below.drew ?_) | (with_reducible refine Below.setCell ?_ ?_ _) | (with_reducible refine Below.alloc ?_ ?_ _) | omega | (simp; done) | (simp; omega))⟩
          · rw [if_neg hAn] at hB
            subst hB
            have HF : Hid (sg ++ d.extract 0 1 ++ ({ data := #[46] } : ByteArray) ++ d.extract 1 d.size ++ { data := #[69, 43] } ++ dB = O) := Lib.hid (str_ext (by
              rw [HL.out, if_pos hn1, if_neg hAn]
              simp only [ByteArray.data_append, Array.toList_append]
              rw [ext_head, ext_rest, hdBl]
              simp))
            clear hdBl HL
            have hxp : 0 < x := by omega
            go_wp2_with fail
            with_reducible refine (TX.out _).mono ?_
            rintro e w2 ⟨rfl, hb2⟩
            have hw2 : Below w.heap.size w w2 := Below.trans (by repeat' (first | (with_reducible assumption) | (with_reducible exact Below.refl _ _) | (with_reducible refine below_drewN ?_ _) | (with_reducible refine Below.drew ?_) | (with_reducible refine Below.setCell ?_ ?_ _) | (with_reducible refine Below.alloc ?_ ?_ _) | omega | (simp; done) | (simp; omega))) (hb2.mono (by first | assumption | (simp; done) | (simp; omega)))
            have hz2 := hw2.size
            clear hb2
            go_wp2_with fail
            with_reducible refine (IT.out _).mono ?_
            rintro e w3 ⟨rfl, hb3⟩
            have hw3 : Below w.heap.size w w3 := hw2.trans (hb3.mono hz2)
            have hz3 := hw3.size
            clear hb3
            go_wp2_with fail
            go_ret
            exact ⟨ret_sw HF.out, by repeat' (first | (with_reducible assumption) | (with_reducible exact Below.refl _ _) | (with_reducible refine below_drewN ?_ _) | (with_reducible refine Below.drew ?_) | (with_reducible refine Below.setCell ?_ ?_ _) | (with_reducible refine Below.alloc ?_ ?_ _) | omega | (simp; done) | (simp; omega))⟩
        · have hn1i : ¬ (1 : Int) < (d.size : Int) := by omega
          by_cases hAn : A < 0
          · rw [if_pos hAn] at hB
            subst hB
            have HF : Hid (sg ++ d.extract 0 1 ++ { data := #[69, 45] } ++ dB = O) := Lib.hid (str_ext (by
              rw [HL.out, if_neg hn1, if_pos hAn]
              simp only [ByteArray.data_append, Array.toList_append]
              rw [ext_head, hdBl]
              simp))
            clear hdBl HL
            obtain ⟨hxn, hA6⟩ : x < 0 ∧ A < -6 := by omega
            go_wp2_with fail
            with_reducible refine (TX.out _).mono ?_
            rintro e w2 ⟨rfl, hb2⟩
            have hw2 : Below w.heap.size w w2 := Below.trans (by repeat' (first | (with_reducible assumption) | (with_reducible exact Below.refl _ _) | (with_reducible refine below_drewN ?_ _) | (with_reducible refine Below.drew ?_) | (with_reducible refine Below.setCell ?_ ?_ _) | (with_reducible refine Below.alloc ?_ ?_ _) | omega | (simp; done) | (simp; omega))) (hb2.mono (by first | assumption | (simp; done) | (simp; omega)))
            have hz2 := hw2.size
            clear hb2
            go_wp2_with fail
            with_reducible refine (IT.out _).mono ?_
            rintro e w3 ⟨rfl, hb3⟩
            have hw3 : Below w.heap.size w w3 := hw2.trans (hb3.mono hz2)
            have hz3 := hw3.size
            clear hb3
            go_wp2_with fail
            go_ret
            exact ⟨ret_sw HF.out, by repeat' (first | (with_reducible assumption) | (with_reducible exact Below.refl _ _) | (with_reducible refine below_drewN ?_ _) | (with_reducible refine Below.drew ?_) | (with_reducible refine Below.setCell ?_ ?_ _) | (with_reducible refine Below.alloc ?_ ?_ _) | omega | (simp; done) | (simp; omega))⟩
          · rw [if_neg hAn] at hB
            subst hB
            have HF : Hid (sg ++ d.extract 0 1 ++ { data := #[69, 43] } ++ dB = O) := Lib.hid (str_ext (by
              rw [HL.out, if_neg hn1, if_neg hAn]
              simp only [ByteArray.data_append, Array.toList_append]
              rw [ext_head, hdBl]
              simp))
            clear hdBl HL
            have hxp : 0 < x := by omega
            go_wp2_with fail
            with_reducible refine (TX.out _).mono ?_
            rintro e w2 ⟨rfl, hb2⟩
            have hw2 : Below w.heap.size w w2 := Below.trans (by repeat' (first | (with_reducible assumption) | (with_reducible exact Below.refl _ _) | (with_reducible refine below_drewN ?_ _) | (with_reducible refine Below.drew ?_) | (with_reducible refine Below.setCell ?_ ?_ _) | (with_reducible refine Below.alloc ?_ ?_ _) | omega | (simp; done) | (simp; omega))) (hb2.mono (by first | assumption | (simp; done) | (simp; omega)))
            have hz2 := hw2.size
            clear hb2
            go_wp2_with fail
            with_reducible refine (IT.out _).mono ?_
            rintro e w3 ⟨rfl, hb3⟩
            have hw3 : Below w.heap.size w w3 := hw2.trans (hb3.mono hz2)
            have hz3 := hw3.size
            clear hb3
            go_wp2_with fail
            go_ret
            exact ⟨ret_sw HF.out, by repeat' (first | (with_reducible assumption) | (with_reducible exact Below.refl _ _) | (with_reducible refine below_drewN ?_ _) | (with_reducible refine Below.drew ?_) | (with_reducible refine Below.setCell ?_ ?_ _) | (with_reducible refine Below.alloc ?_ ?_ _) | omega | (simp; done) | (simp; omega))⟩
end Go.Proofs.YtpgooajifehbbaaDoor
