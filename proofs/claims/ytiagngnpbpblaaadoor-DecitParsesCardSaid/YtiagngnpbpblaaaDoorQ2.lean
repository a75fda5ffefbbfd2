/- The contracts of decit.Text and of the reference's noughts and DecText. Condition: the table of powers of 10 is laid. -/
import Derived.Test.YtiagngnpbpblaaaDoorQ1
namespace Go.Proofs.YtiagngnpbpblaaaDoor
open Go.RowKit
set_option linter.unusedSimpArgs false
set_option linter.unusedVariables false

/-- A decimal's text. -/
def decT (k : Int) (neg : Bool) (n : Nat) (x : Int) : List UInt8 :=
  if k = 3 then [78, 97, 78] else (if neg then [45] else []) ++ (if k = 2 then [73, 110, 102, 105, 110, 105, 116, 121] else laidL (Lib.decDigits n) x)
theorem laidL_len (d : List UInt8) (x : Int) (h1 : 1 ≤ d.length) (h39 : d.length ≤ 39) (x0 : -10000 ≤ x) (x1 : x ≤ 20000) : (laidL d x).length ≤ 80 := by
  have hd : ∀ n : Nat, n ≤ 30000 → (Lib.decDigits n).length ≤ 5 := fun n hn => by rw [Lib.decDigits_length]; exact nDigits_of_lt 5 _ (by decide) (by omega)
  unfold laidL
  split
  · omega
  · split
    · rename_i h0 h
      have hp : (padL d x).length ≤ 50 := by
        unfold padL
        rw [List.length_append, List.length_replicate]
        omega
      rw [List.length_append, List.length_cons, List.length_take, List.length_drop]
      omega
    · rename_i h0 h
      have h2 : (if 1 < d.length then 46 :: d.drop 1 else []).length ≤ 39 := by
        split
        · rw [List.length_cons, List.length_drop]; omega
        · simp
      have h3 : (if x + d.length - 1 < 0 then 69 :: 45 :: Lib.decDigits (-(x + d.length - 1)).toNat else 69 :: 43 :: Lib.decDigits (x + d.length - 1).toNat).length ≤ 7 := by
        split
        · have := hd (-(x + d.length - 1)).toNat (by omega)
          simp only [List.length_cons]; omega
        · have := hd (x + d.length - 1).toNat (by omega)
          simp only [List.length_cons]; omega
      rw [List.length_append, List.length_append, List.length_take]
      omega
theorem wN_digits {h l : Int} (h0 : 0 ≤ h) (h1 : h ≤ 18446744073709551615) (l0 : 0 ≤ l) (l1 : l ≤ 18446744073709551615) : 1 ≤ (Lib.decDigits (wN h l)).length ∧ (Lib.decDigits (wN h l)).length ≤ 39 := by
  have hb := wV_bd h l h0 h1 l0 l1
  rw [Lib.decDigits_length]
  exact ⟨Lib.nDigits_pos _, nDigits_of_lt 39 _ (by decide) (by unfold wN; omega)⟩
theorem kind_cases (a : Int) : sKind a = 3 ∨ sKind a = 2 ∨ sKind a = 1 := by
  unfold sKind
  split
  · exact Or.inl rfl
  · split
    · exact Or.inr (Or.inl rfl)
    · exact Or.inr (Or.inr rfl)
theorem sExp_bd (a : Int) (a0 : 0 ≤ a) : -10000 ≤ sExp a ∧ sExp a ≤ 20000 := by
  unfold sExp
  split
  · omega
  · split <;> omega
set_option maxHeartbeats 3200000 in
set_option maxRecDepth 100000 in
theorem decitText_any (a b : Int) (a0 : 0 ≤ a) (a1 : a ≤ 18446744073709551615) (b0 : 0 ≤ b) (b1 : b ≤ 18446744073709551615) (w : World) (htab : PowTab w) :
    Calls Tryd.prog 8 #[.int .u64 a, .int .u64 b] w fun en w' => en = .returned (.string ⟨(decT (sKind a) (sNeg a) (wN (sHigh a b) (sLow a b)) (sExp a)).toArray⟩) ∧ Below w.heap.size w w' := by
  have HT := Lib.hid htab
  clear htab
  have SP := Lib.hid (fun w => deciSplit_any a b a0 a1 b0 b1 w)
  obtain ⟨s0, s1, s2, s3, s4, s5⟩ := split_bounds a b b0 b1
  have hx := sExp_bd a a0
  have hk := kind_cases a
  generalize sKind a = k at *
  generalize sNeg a = ng at *
  generalize sHigh a b = h at *
  generalize sLow a b = l at *
  generalize sExp a = x at *
  obtain ⟨x0, x1⟩ := hx
  obtain ⟨O, hO⟩ : ∃ O : ByteArray, (⟨(decT k ng (wN h l) x).toArray⟩ : ByteArray) = O := ⟨_, rfl⟩
  rw [hO]
  have hol : O.data.toList = decT k ng (wN h l) x := by rw [← hO]
  clear hO
  have hk1 : ({ data := #[45] } : ByteArray).size = 1 := rfl
  rcases hk with rfl | rfl | rfl
  · have HF : Hid ({ data := #[78, 97, 78] } = O) := Lib.hid (str_ext (by rw [hol]; rfl))
    clear hol
    go_enter Tryd.func8, Tryd.ntmps8
    go_wp2_with fail
    with_reducible refine (SP.out _).mono ?_
    rintro e w1 ⟨rfl, hb1⟩
    have hz1 := hb1.size
    go_wp2_with fail
    go_ret
    exact ⟨ret_sw HF.out, by first | exact hb1 | (repeat' (first | (with_reducible assumption) | (with_reducible exact Below.refl _ _) | (with_reducible refine below_drewN ?_ _) | (with_reducible refine Below.drew ?_) | (with_reducible refine Below.setCell ?_ ?_ _) | (with_reducible refine Below.alloc ?_ ?_ _) | omega | (simp; done) | (simp; omega)))⟩
  · cases ng
    · have HF : Hid ({ data := #[73, 110, 102, 105, 110, 105, 116, 121] } = O) := Lib.hid (str_ext (by rw [hol]; rfl))
      clear hol
      go_enter Tryd.func8, Tryd.ntmps8
      go_wp2_with fail
      with_reducible refine (SP.out _).mono ?_
      rintro e w1 ⟨rfl, hb1⟩
      have hz1 := hb1.size
      go_wp2_with fail
      go_ret
      exact ⟨ret_sw HF.out, by first | exact hb1 | (repeat' (first | (with_reducible assumption) | (with_reducible exact Below.refl _ _) | (with_reducible refine below_drewN ?_ _) | (with_reducible refine Below.drew ?_) | (with_reducible refine Below.setCell ?_ ?_ _) | (with_reducible refine Below.alloc ?_ ?_ _) | omega | (simp; done) | (simp; omega)))⟩
    · have HF : Hid ({ data := #[45, 73, 110, 102, 105, 110, 105, 116, 121] } = O) := Lib.hid (str_ext (by rw [hol]; rfl))
      clear hol
      go_enter Tryd.func8, Tryd.ntmps8
      go_wp2_with fail
      with_reducible refine (SP.out _).mono ?_
      rintro e w1 ⟨rfl, hb1⟩
      have hz1 := hb1.size
      go_wp2_with fail
      go_ret
      exact ⟨ret_sw HF.out, by first | exact hb1 | (repeat' (first | (with_reducible assumption) | (with_reducible exact Below.refl _ _) | (with_reducible refine below_drewN ?_ _) | (with_reducible refine Below.drew ?_) | (with_reducible refine Below.setCell ?_ ?_ _) | (with_reducible refine Below.alloc ?_ ?_ _) | omega | (simp; done) | (simp; omega)))⟩
  · obtain ⟨d1, d39⟩ := wN_digits s0 s1 s2 s3
    obtain ⟨d, hd⟩ : ∃ d : ByteArray, (⟨(Lib.decDigits (wN h l)).toArray⟩ : ByteArray) = d := ⟨_, rfl⟩
    have hdl : d.data.toList = Lib.decDigits (wN h l) := by rw [← hd]
    have hds : d.data.toList.length = d.size := by simp
    have TX := Lib.hid (fun (w : World) (ht : PowTab w) => wideText_any h l s0 s1 s2 s3 w ht)
    rw [hd] at TX
    obtain ⟨L, hL⟩ : ∃ L : ByteArray, (⟨(laidL d.data.toList x).toArray⟩ : ByteArray) = L := ⟨_, rfl⟩
    have hLl : L.data.toList = laidL (Lib.decDigits (wN h l)) x := by rw [← hL, hdl]
    have hLs : L.size ≤ 80 := by
      have e : L.data.toList.length = L.size := by simp
      rw [← e, hLl]
      exact laidL_len _ _ d1 d39 x0 x1
    rw [← hdl] at d1 d39
    have LD := Lib.hid (fun (w : World) (ht : PowTab w) => laid_any d x (by omega) (by omega) x0 x1 w ht)
    rw [hL] at LD
    have hsum : 1 + L.size ≤ 90 := by omega
    cases ng
    · have HF : Hid (L = O) := Lib.hid (str_ext (by rw [hol, hLl]; rfl))
      clear hol hLl hL hd hdl d1 d39 hds
      go_enter Tryd.func8, Tryd.ntmps8
      go_wp2_with fail
      with_reducible refine (SP.out _).mono ?_
      rintro e w1 ⟨rfl, hb1⟩
      have hz1 := hb1.size
      go_wp2_with fail
      with_reducible refine (TX.out _ (tabIs_below HT.out (by repeat' (first | (with_reducible assumption) | (with_reducible exact Below.refl _ _) | (with_reducible refine below_drewN ?_ _) | (with_reducible refine Below.drew ?_) | (with_reducible refine Below.setCell ?_ ?_ _) | (with_reducible refine Below.alloc ?_ ?_ _) | omega | (simp; done) | (simp; omega))))).mono ?_
      rintro e w2 ⟨rfl, hb2⟩
      have hw2 : Below w.heap.size w w2 := Below.trans (by repeat' (first | (with_reducible assumption) | (with_reducible exact Below.refl _ _) | (with_reducible refine below_drewN ?_ _) | (with_reducible refine Below.drew ?_) | (with_reducible refine Below.setCell ?_ ?_ _) | (with_reducible refine Below.alloc ?_ ?_ _) | omega | (simp; done) | (simp; omega))) (hb2.mono (by first | assumption | (simp; done) | (simp; omega)))
      have hz2 := hw2.size
      clear hb2
      go_wp2_with fail
      with_reducible refine (LD.out _ (tabIs_below HT.out hw2)).mono ?_
      rintro e w3 ⟨rfl, hb3⟩
      have hw3 : Below w.heap.size w w3 := hw2.trans (hb3.mono hz2)
      go_wp2_with fail
      go_ret
      exact ⟨ret_sw HF.out, hw3⟩
    · have HF : Hid (({ data := #[45] } : ByteArray) ++ L = O) := Lib.hid (str_ext (by rw [one_cat, hol, hLl]; rfl))
      clear hol hLl hL hd hdl d1 d39 hds
      go_enter Tryd.func8, Tryd.ntmps8
      go_wp2_with fail
      with_reducible refine (SP.out _).mono ?_
      rintro e w1 ⟨rfl, hb1⟩
      have hz1 := hb1.size
      go_wp2_with fail
      with_reducible refine (TX.out _ (tabIs_below HT.out (by repeat' (first | (with_reducible assumption) | (with_reducible exact Below.refl _ _) | (with_reducible refine below_drewN ?_ _) | (with_reducible refine Below.drew ?_) | (with_reducible refine Below.setCell ?_ ?_ _) | (with_reducible refine Below.alloc ?_ ?_ _) | omega | (simp; done) | (simp; omega))))).mono ?_
      rintro e w2 ⟨rfl, hb2⟩
      have hw2 : Below w.heap.size w w2 := Below.trans (by repeat' (first | (with_reducible assumption) | (with_reducible exact Below.refl _ _) | (with_reducible refine below_drewN ?_ _) | (with_reducible refine Below.drew ?_) | (with_reducible refine Below.setCell ?_ ?_ _) | (with_reducible refine Below.alloc ?_ ?_ _) | omega | (simp; done) | (simp; omega))) (hb2.mono (by first | assumption | (simp; done) | (simp; omega)))
      have hz2 := hw2.size
      clear hb2
      go_wp2_with fail
      with_reducible refine (LD.out _ (tabIs_below HT.out hw2)).mono ?_
      rintro e w3 ⟨rfl, hb3⟩
      have hw3 : Below w.heap.size w w3 := hw2.trans (hb3.mono hz2)
      go_wp2_with fail
      go_ret
      exact ⟨ret_sw HF.out, hw3⟩
set_option maxRecDepth 100000 in
set_option maxHeartbeats 1600000 in
theorem noughts_any (n : Int) (n1 : n ≤ 10000) (w : World) :
    Calls Tryd.prog 16 #[.int .i64 n] w fun en w' => en = .returned (.string ⟨(List.replicate n.toNat (48 : UInt8)).toArray⟩) ∧ Below w.heap.size w w' := by
  obtain ⟨O, hO⟩ : ∃ O : ByteArray, (⟨(List.replicate n.toNat (48 : UInt8)).toArray⟩ : ByteArray) = O := ⟨_, rfl⟩
  rw [hO]
  have HO := Lib.hid (show O.data.toList = List.replicate n.toNat 48 by rw [← hO])
  clear hO
  have hk : ({ data := #[48] } : ByteArray).size = 1 := rfl
  go_enter Tryd.func16, Tryd.ntmps16
  go_wp2_with fail
  go_loopw [3, 4] (fun t i wr => ∃ (K : Nat) (tb : ByteArray), t = .string tb ∧ i = .int .i64 K ∧ K ≤ n.toNat ∧ Hid (tb.data.toList = List.replicate K 48) ∧ tb.size ≤ K ∧ Below w.heap.size w wr) (fun _ i _ => n.toNat - (intOf i).toNat)
  case atStart => exact ⟨0, _, rfl, rfl, Nat.zero_le _, Lib.hid rfl, by decide, by repeat' (first | (with_reducible assumption) | (with_reducible exact Below.refl _ _) | (with_reducible refine below_drewN ?_ _) | (with_reducible refine Below.drew ?_) | (with_reducible refine Below.setCell ?_ ?_ _) | (with_reducible refine Below.alloc ?_ ?_ _) | omega | (simp; done) | (simp; omega))⟩
  case round =>
    obtain ⟨K, tb, rfl, rfl, hK, HT, hts, hbw⟩ := hrel
    by_cases hlt : (K : Int) < n
    · have hs : tb.size + 1 ≤ 20000 := by omega
      have HN : Hid ((tb ++ ({ data := #[48] } : ByteArray)).data.toList = List.replicate (K + 1) 48) := Lib.hid (by
        rw [List.replicate_succ']; simp [HT.out])
      go_wp2_with fail
      go_roundw
      case rel => exact ⟨K + 1, _, rfl, by go_num, by omega, HN, by rw [ByteArray.size_append, hk]; omega, hbw⟩
      case measure => first | (simp [intOf]; done) | (simp [intOf]; omega)
    · have HF : Hid (tb = O) := Lib.hid (str_ext (by rw [HT.out, HO.out]; congr 1; omega))
      go_wp2_with fail
      go_ret
      exact ⟨ret_sw HF.out, hbw⟩
end Go.Proofs.YtiagngnpbpblaaaDoor
