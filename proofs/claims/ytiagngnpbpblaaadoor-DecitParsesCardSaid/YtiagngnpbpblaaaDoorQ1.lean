/- A decimal's text, in plain words, and the contract of decit.laid. Condition: at most 39 digits, an exponent from -10000 to 20000; the table of powers of 10 is laid. -/
import Derived.Test.YtiagngnpbpblaaaDoorWd5
import Derived.Test.YtiagngnpbpblaaaDoorWd10
import Derived.Test.YtiagngnpbpblaaaDoorDec2
import Derived.Test.YtiagngnpbpblaaaDoorDec3
import Derived.Test.YtiagngnpbpblaaaDoorDec5
import Derived.Deep.RegionHeld
import Derived.Test.YtiagngnpbpblaaaDoorDec8
import Derived.Test.YtiagngnpbpblaaaDoorW2
import Derived.Test.YtiagngnpbpblaaaDoorRTimes
import Derived.Test.YtiagngnpbpblaaaDoorShelf
import Derived.Test.YtiagngnpbpblaaaDoorLex2
import Derived.Test.YtiagngnpbpblaaaDoorFl
import Derived.BigQuiet
import Derived.Outline
import Derived.Lib.AppendIntMem
namespace Go.Proofs.YtiagngnpbpblaaaDoor
open Go.RowKit
set_option linter.unusedSimpArgs false
set_option linter.unusedVariables false

theorem itoa_any (n : Int) (n0 : 0 ≤ n) (n1 : n ≤ 9223372036854775807) (w : World) (ht : PowTab w) :
    Calls Tryd.prog 49 #[.int .i64 n] w fun e w' => e = .returned (.string ⟨(Lib.decDigits n.toNat).toArray⟩) ∧ Below w.heap.size w w' := by
  refine (Tryd.strconv_Itoa n (by omega) n1 w ht).mono ?_
  rintro e w' ⟨rfl, k, os, rfl⟩
  refine ⟨?_, Lib.below_grow _ w (Nat.le_refl _) k os⟩
  unfold Lib.itoa
  rw [if_neg (by omega)]
/-- Digits with noughts ahead, so that one stands ahead of the point. -/
def padL (d : List UInt8) (x : Int) : List UInt8 := List.replicate (1 - x - d.length).toNat 48 ++ d
/-- Digits times 10^x. -/
def laidL (d : List UInt8) (x : Int) : List UInt8 :=
  if x = 0 then d
  else if x < 0 ∧ -6 ≤ x + d.length - 1 then (padL d x).take ((padL d x).length + x).toNat ++ 46 :: (padL d x).drop ((padL d x).length + x).toNat
  else (d.take 1 ++ (if 1 < d.length then 46 :: d.drop 1 else [])) ++ (if x + d.length - 1 < 0 then 69 :: 45 :: Lib.decDigits (-(x + d.length - 1)).toNat else 69 :: 43 :: Lib.decDigits (x + d.length - 1).toNat)
theorem str_ext {a b : ByteArray} (h : a.data.toList = b.data.toList) : a = b := ByteArray.ext (Array.ext' h)
theorem ext_list (s : ByteArray) (f i : Nat) : (s.extract f i).data.toList = (s.data.toList.drop f).take (i - f) := by
  rw [Lib.extract_data]
theorem ext_head (s : ByteArray) (i : Nat) : (s.extract 0 i).data.toList = s.data.toList.take i := by
  rw [ext_list]; simp
theorem ext_rest (s : ByteArray) (f : Nat) : (s.extract f s.size).data.toList = s.data.toList.drop f := by
  rw [ext_list]
  exact List.take_of_length_le (by simp)
set_option maxHeartbeats 3200000 in
set_option maxRecDepth 100000 in
theorem laid_any (d : ByteArray) (x : Int) (d1 : 1 ≤ d.size) (d39 : d.size ≤ 39) (x0 : -10000 ≤ x) (x1 : x ≤ 20000) (w : World) (htab : PowTab w) :
    Calls Tryd.prog 21 #[.string d, .int .i64 x] w fun en w' => en = .returned (.string ⟨(laidL d.data.toList x).toArray⟩) ∧ Below w.heap.size w w' := by
  obtain ⟨O, hO⟩ : ∃ O : ByteArray, (⟨(laidL d.data.toList x).toArray⟩ : ByteArray) = O := ⟨_, rfl⟩
  rw [hO]
  have hol : O.data.toList = laidL d.data.toList x := by rw [← hO]
  have hdl : d.data.toList.length = d.size := by simp
  have HT := Lib.hid htab
  clear hO htab
  by_cases hx : x = 0
  · subst hx
    have HF : Hid (d = O) := Lib.hid (str_ext (by rw [hol]; unfold laidL; rw [if_pos rfl]))
    clear hol hdl
    go_enter Tryd.func21, Tryd.ntmps21
    go_wp2_with fail
    go_ret
    exact ⟨ret_sb HF.out, by repeat' (first | (with_reducible assumption) | (with_reducible exact Below.refl _ _) | (with_reducible refine below_drewN ?_ _) | (with_reducible refine Below.drew ?_) | (with_reducible refine Below.setCell ?_ ?_ _) | (with_reducible refine Below.alloc ?_ ?_ _) | omega | (simp; done) | (simp; omega))⟩
  · have xq : (x == 0) = false := beq_eq_false_iff_ne.2 hx
    by_cases hc : x < 0 ∧ -6 ≤ x + d.size - 1
    · obtain ⟨c1, c2⟩ := hc
      by_cases hp : (d.size : Int) ≤ -x
      · obtain ⟨R, hR, RP⟩ := rep_any (1 - x - d.size) (by omega) (by omega)
        have RP := Lib.hid RP
        have hRs : (R.size : Int) = 1 - x - d.size := by
          have e : R.data.toList.length = R.size := by simp
          rw [hR, List.length_replicate] at e
          omega
        have hsum : R.size + d.size ≤ 46 := by omega
        have HF : Hid ((R ++ d).extract 0 1 ++ ({ data := #[46] } : ByteArray) ++ (R ++ d).extract 1 (R.size + d.size) = O) := Lib.hid (str_ext (by
          have e1 : padL d.data.toList x = (R ++ d).data.toList := by
            unfold padL; rw [hdl]; simp [hR]
          have e2 : ((R ++ d).data.toList.length + x).toNat = 1 := by
            have : (R ++ d).data.toList.length = R.size + d.size := by simp
            rw [this]; omega
          have e3 : R.size + d.size = (R ++ d).size := by simp
          rw [hol]
          unfold laidL
          rw [if_neg hx, hdl, if_pos ⟨c1, c2⟩, e1, e2, e3]
          simp only [ByteArray.data_append, Array.toList_append]
          rw [ext_head, ext_rest]
          simp))
        clear hol hdl hR
        go_enter Tryd.func21, Tryd.ntmps21
        go_wp2_with fail
        with_reducible refine (RP.out _).mono ?_
        rintro e w1 ⟨rfl, hb1⟩
        go_wp2_with fail
        have hg1 : (1 : Int) ≤ ((R ++ d).size : Int) := by rw [ByteArray.size_append]; omega
        have hs1 : ((R ++ d).extract 0 1).size ≤ 50 := by rw [ByteArray.size_extract]; omega
        have hs2 : ((R ++ d).extract 1 (R ++ d).size).size ≤ 50 := by rw [ByteArray.size_extract, ByteArray.size_append]; omega
        go_quiet (fail)
        go_wp2_with fail
        go_ret
        exact ⟨ret_sw HF.out, below_drewN (hb1) _⟩
      · have hp' : ¬ (d.size : Int) ≤ -x := hp
        obtain ⟨m, hm⟩ : ∃ m : Nat, (d.size : Int) + x = (m : Int) := ⟨((d.size : Int) + x).toNat, by omega⟩
        have HF : Hid (d.extract 0 m ++ ({ data := #[46] } : ByteArray) ++ d.extract m d.size = O) := Lib.hid (str_ext (by
          have e0 : (1 - x - d.size).toNat = 0 := by omega
          have e1 : padL d.data.toList x = d.data.toList := by
            unfold padL; rw [hdl, e0]; rfl
          have e2 : (d.data.toList.length + x).toNat = m := by rw [hdl]; omega
          rw [hol]
          unfold laidL
          rw [if_neg hx, hdl, if_pos ⟨c1, c2⟩, e1, e2]
          simp only [ByteArray.data_append, Array.toList_append]
          rw [ext_head, ext_rest]
          simp))
        have hm1 : m ≤ d.size := by omega
        have hs1 : (d.extract 0 m).size ≤ 50 := by rw [ByteArray.size_extract]; omega
        have hs2 : (d.extract m d.size).size ≤ 50 := by rw [ByteArray.size_extract]; omega
        clear hol hdl hp
        go_enter Tryd.func21, Tryd.ntmps21
        go_wp2_with fail
        go_quiet (fail)
        go_wp2_with fail
        go_ret
        exact ⟨ret_sw HF.out, by repeat' (first | (with_reducible assumption) | (with_reducible exact Below.refl _ _) | (with_reducible refine below_drewN ?_ _) | (with_reducible refine Below.drew ?_) | (with_reducible refine Below.setCell ?_ ?_ _) | (with_reducible refine Below.alloc ?_ ?_ _) | omega | (simp; done) | (simp; omega))⟩
    · obtain ⟨A, hA⟩ : ∃ A : Int, x + d.size - 1 = A := ⟨_, rfl⟩
      have hA2 : -10000 ≤ A ∧ A ≤ 30000 := by omega
      obtain ⟨hA3, hA4⟩ := hA2
      have hcc : ¬ (x < 0 ∧ -6 ≤ A) := by rw [← hA]; exact hc
      have hor : 0 < x ∨ (x < 0 ∧ A < -6) := by omega
      obtain ⟨B, hB⟩ : ∃ B : Int, B = if A < 0 then -A else A := ⟨_, rfl⟩
      have hB2 : 0 ≤ B ∧ B ≤ 30000 := by rw [hB]; split <;> omega
      obtain ⟨dB, hdB⟩ : ∃ dB : ByteArray, (⟨(Lib.decDigits B.toNat).toArray⟩ : ByteArray) = dB := ⟨_, rfl⟩
      have IT := Lib.hid (fun (w : World) (h : PowTab w) => itoa_any B hB2.1 (by omega) w h)
      rw [hdB] at IT
      have hdBl : dB.data.toList = Lib.decDigits B.toNat := by rw [← hdB]
      have hdBs : dB.size ≤ 20 := by
        have e2 : dB.data.toList.length = dB.size := by simp
        rw [← e2, hdBl, Lib.decDigits_length]; exact nDigits_of_lt 20 _ (by decide) (by omega)
      have HL : Hid (O.data.toList = (d.data.toList.take 1 ++ (if 1 < d.size then 46 :: d.data.toList.drop 1 else [])) ++ (if A < 0 then 69 :: 45 :: Lib.decDigits (-A).toNat else 69 :: 43 :: Lib.decDigits A.toNat)) := Lib.hid (by
        rw [hol]; unfold laidL
        rw [if_neg hx, hdl, hA, if_neg hcc])
      have d1i : (1 : Int) ≤ (d.size : Int) := by omega
      have hs1 : (d.extract 0 1).size ≤ 50 := by rw [ByteArray.size_extract]; omega
      have hs2 : (d.extract 1 d.size).size ≤ 50 := by rw [ByteArray.size_extract]; omega
      have hk1 : ({ data := #[46] } : ByteArray).size = 1 := rfl
      have hk2 : ({ data := #[69, 45] } : ByteArray).size = 2 := rfl
      have hk3 : ({ data := #[69, 43] } : ByteArray).size = 2 := rfl
      clear hol hdl hc hcc hdB
      by_cases hn1 : 1 < d.size
      · have hn1i : (1 : Int) < (d.size : Int) := by omega
        have hsA : 1 + (d.extract 1 d.size).size ≤ 60 := by omega
        have hsB : (d.extract 0 1).size + (1 + (d.extract 1 d.size).size) ≤ 120 := by omega
        have hsC : (d.extract 0 1).size + (1 + (d.extract 1 d.size).size) + 2 ≤ 130 := by omega
        have hsD : (d.extract 0 1).size + (1 + (d.extract 1 d.size).size) + 2 + dB.size ≤ 160 := by omega
        by_cases hAn : A < 0
        · rw [if_pos hAn] at hB
          subst hB
          have HF : Hid (d.extract 0 1 ++ (({ data := #[46] } : ByteArray) ++ d.extract 1 d.size) ++ { data := #[69, 45] } ++ dB = O) := Lib.hid (str_ext (by
            rw [HL.out, if_pos hn1, if_pos hAn]
            simp only [ByteArray.data_append, Array.toList_append]
            rw [ext_head, ext_rest, hdBl]
            simp))
          clear hdBl
          obtain ⟨hxn, hA6⟩ : x < 0 ∧ A < -6 := by omega
          go_enter Tryd.func21, Tryd.ntmps21
          go_wp2_with fail
          with_reducible refine (IT.out _ HT.out).mono ?_
          rintro e w1 ⟨rfl, hb1⟩
          go_wp2_with fail
          go_ret
          exact ⟨ret_sw HF.out, hb1⟩
        · rw [if_neg hAn] at hB
          subst hB
          have HF : Hid (d.extract 0 1 ++ (({ data := #[46] } : ByteArray) ++ d.extract 1 d.size) ++ { data := #[69, 43] } ++ dB = O) := Lib.hid (str_ext (by
            rw [HL.out, if_pos hn1, if_neg hAn]
            simp only [ByteArray.data_append, Array.toList_append]
            rw [ext_head, ext_rest, hdBl]
            simp))
          clear hdBl
          have hxp : 0 < x := by omega
          go_enter Tryd.func21, Tryd.ntmps21
          go_wp2_with fail
          with_reducible refine (IT.out _ HT.out).mono ?_
          rintro e w1 ⟨rfl, hb1⟩
          go_wp2_with fail
          go_ret
          exact ⟨ret_sw HF.out, hb1⟩
      · have hn1i : ¬ (1 : Int) < (d.size : Int) := by omega
        have hsC : (d.extract 0 1).size + 2 ≤ 130 := by omega
        have hsD : (d.extract 0 1).size + 2 + dB.size ≤ 160 := by omega
        by_cases hAn : A < 0
        · rw [if_pos hAn] at hB
          subst hB
          have HF : Hid (d.extract 0 1 ++ { data := #[69, 45] } ++ dB = O) := Lib.hid (str_ext (by
            rw [HL.out, if_neg hn1, if_pos hAn]
            simp only [ByteArray.data_append, Array.toList_append]
            rw [ext_head, hdBl]
            simp))
          clear hdBl
          obtain ⟨hxn, hA6⟩ : x < 0 ∧ A < -6 := by omega
          go_enter Tryd.func21, Tryd.ntmps21
          go_wp2_with fail
          with_reducible refine (IT.out _ HT.out).mono ?_
          rintro e w1 ⟨rfl, hb1⟩
          go_wp2_with fail
          go_ret
          exact ⟨ret_sw HF.out, hb1⟩
        · rw [if_neg hAn] at hB
          subst hB
          have HF : Hid (d.extract 0 1 ++ { data := #[69, 43] } ++ dB = O) := Lib.hid (str_ext (by
            rw [HL.out, if_neg hn1, if_neg hAn]
            simp only [ByteArray.data_append, Array.toList_append]
            rw [ext_head, hdBl]
            simp))
          clear hdBl
          have hxp : 0 < x := by omega
          go_enter Tryd.func21, Tryd.ntmps21
          go_wp2_with fail
          with_reducible refine (IT.out _ HT.out).mono ?_
          rintro e w1 ⟨rfl, hb1⟩
          go_wp2_with fail
          go_ret
          exact ⟨ret_sw HF.out, hb1⟩
end Go.Proofs.YtiagngnpbpblaaaDoor
