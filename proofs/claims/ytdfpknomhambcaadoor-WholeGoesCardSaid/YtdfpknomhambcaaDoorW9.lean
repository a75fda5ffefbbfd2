/- awake (layer 10), WholeLexes, WholeIs, WholeTexts: the walks. Condition: the table of powers of 10 and the two errors of strconv are laid. -/
import Derived.Test.YtdfpknomhambcaaDoorW4
import Derived.Test.YtdfpknomhambcaaDoorW7
namespace Go.Proofs.YtdfpknomhambcaaDoor
open Go.RowKit
set_option linter.unusedSimpArgs false
set_option linter.unusedVariables false

theorem errAt_below {w w' : World} {g : Nat} (h : ErrAt w g) (hb : Below w.heap.size w w') : ErrAt w' g := by
  obtain ⟨ev, h1, h2⟩ := h
  have hlt : g < w.heap.size := by
    rcases Nat.lt_or_ge g w.heap.size with h' | h'
    · exact h'
    · simp [World.cell?, Array.getElem?_eq_none h'] at h1
  exact ⟨ev, (hb.cell (p := ⟨g, 0, none⟩) hlt).trans h1, h2⟩
def Laid10 (w : World) : Prop := PowTab w ∧ ErrAt w 1 ∧ ErrAt w 2
theorem laid_below {w w' : World} (h : Laid10 w) (hb : Below w.heap.size w w') : Laid10 w' := ⟨tabIs_below h.1 hb, errAt_below h.2.1 hb, errAt_below h.2.2 hb⟩
theorem canon_m0 : canonInt [45, 48] = none := by
  have h : Lib.parseIntB 64 [45, 48] = .ok 0 := by decide
  unfold canonInt
  rw [h]
  have e : Lib.itoa 0 = [48] := by unfold Lib.itoa; rw [if_neg (by decide)]; exact Lib.decDigits_one (by decide)
  simp only [e]
  rw [if_neg (by decide)]
theorem itoa_m12 : Lib.itoa (-12) = [45, 49, 50] := by
  unfold Lib.itoa
  rw [if_pos (by decide), show (-12 : Int).natAbs = 12 from rfl, Lib.decDigits_two (by decide) (by decide)]
  rfl
theorem canon_m12 : canonInt [45, 49, 50] = some (-12) := by rw [← itoa_m12]; exact canon_itoa _ (by decide) (by decide)
theorem par_m0 (w : World) (h : Laid10 w) : Calls Tryd.prog 18 #[.string { data := #[45, 48] }] w fun e w' => e = .returned (.tuple #[.int .i64 0, .bool false]) ∧ Below w.heap.size w w' := by
  refine (wholeParse_any { data := #[45, 48] } (by decide) w h.1 h.2.1 h.2.2).mono ?_
  rintro e w' ⟨rfl, hb⟩
  have e2 : ({ data := #[45, 48] } : ByteArray).data.toList = [45, 48] := rfl
  rw [e2, canon_m0]
  exact ⟨rfl, hb⟩
theorem par_m12 (w : World) (h : Laid10 w) : Calls Tryd.prog 18 #[.string { data := #[45, 49, 50] }] w fun e w' => e = .returned (.tuple #[.int .i64 (-12), .bool true]) ∧ Below w.heap.size w w' := by
  refine (wholeParse_any { data := #[45, 49, 50] } (by decide) w h.1 h.2.1 h.2.2).mono ?_
  rintro e w' ⟨rfl, hb⟩
  have e2 : ({ data := #[45, 49, 50] } : ByteArray).data.toList = [45, 49, 50] := rfl
  rw [e2, canon_m12]
  exact ⟨rfl, hb⟩
theorem txt_m12 (w : World) (h : Laid10 w) : Calls Tryd.prog 17 #[.int .i64 (-12)] w fun e w' => e = .returned (.string { data := #[45, 49, 50] }) ∧ Below w.heap.size w w' := by
  refine (wholeText_any (-12) (by decide) (by decide) w h.1).mono ?_
  rintro e w' ⟨rfl, hb⟩
  rw [itoa_m12]
  exact ⟨rfl, hb⟩
theorem lex_m0 (w : World) : Calls Tryd.prog 21 #[.string { data := #[45, 48] }] w fun e w' => e = .returned (.int .i64 1) ∧ w = w' := by
  refine (lexeme_any { data := #[45, 48] } (by decide) w).mono ?_
  rintro e w' ⟨rfl, rfl⟩
  exact ⟨ret_li (by decide), rfl⟩
theorem lex_e5 (w : World) : Calls Tryd.prog 21 #[.string { data := #[49, 101, 53] }] w fun e w' => e = .returned (.int .i64 2) ∧ w = w' := by
  refine (lexeme_any { data := #[49, 101, 53] } (by decide) w).mono ?_
  rintro e w' ⟨rfl, rfl⟩
  exact ⟨ret_li (by decide), rfl⟩
set_option maxHeartbeats 1600000 in
set_option maxRecDepth 100000 in
theorem awake10 (w : World) (hL : Laid10 w) : Calls Tryd.prog 16 #[] w fun e w' => e = .returned (.bool true) ∧ Below w.heap.size w w' := by
  have HL := Lib.hid hL
  clear hL
  have P := Lib.hid par_m0
  have Q := Lib.hid par_m12
  have X := Lib.hid txt_m12
  have A := Lib.hid lex_m0
  have B := Lib.hid lex_e5
  go_enter Tryd.func16, Tryd.ntmps16
  go_wp2_with fail
  with_reducible refine (P.out _ HL.out).mono ?_
  rintro e w1 ⟨rfl, hb1⟩
  have hw1 : Below w.heap.size w w1 := Below.trans (by repeat' (first | (with_reducible assumption) | (with_reducible exact Below.refl _ _) | (with_reducible refine below_drewN ?_ _) | (with_reducible refine Below.drew ?_) | (with_reducible refine Below.setCell ?_ ?_ _) | (with_reducible refine Below.alloc ?_ ?_ _) | omega | (simp; done) | (simp; omega))) (hb1.mono (by first | assumption | (simp; done) | (simp; omega)))
  have hz1 := hw1.size
  clear hb1
  go_wp2_with fail
  with_reducible refine (Q.out _ (laid_below HL.out hw1)).mono ?_
  rintro e w2 ⟨rfl, hb2⟩
  have hw2 : Below w.heap.size w w2 := Below.trans (by repeat' (first | (with_reducible assumption) | (with_reducible exact Below.refl _ _) | (with_reducible refine below_drewN ?_ _) | (with_reducible refine Below.drew ?_) | (with_reducible refine Below.setCell ?_ ?_ _) | (with_reducible refine Below.alloc ?_ ?_ _) | omega | (simp; done) | (simp; omega))) (hb2.mono (by first | assumption | (simp; done) | (simp; omega)))
  have hz2 := hw2.size
  clear hb2
  go_wp2_with fail
  with_reducible refine (A.out _).mono ?_
  rintro e w' ⟨rfl, rfl⟩
  go_wp2_with fail
  with_reducible refine (B.out _).mono ?_
  rintro e w' ⟨rfl, rfl⟩
  go_wp2_with fail
  with_reducible refine (X.out _ (laid_below HL.out hw2)).mono ?_
  rintro e w3 ⟨rfl, hb3⟩
  have hw3 : Below w.heap.size w w3 := Below.trans (by repeat' (first | (with_reducible assumption) | (with_reducible exact Below.refl _ _) | (with_reducible refine below_drewN ?_ _) | (with_reducible refine Below.drew ?_) | (with_reducible refine Below.setCell ?_ ?_ _) | (with_reducible refine Below.alloc ?_ ?_ _) | omega | (simp; done) | (simp; omega))) (hb3.mono (by first | assumption | (simp; done) | (simp; omega)))
  have hz3 := hw3.size
  clear hb3
  go_wp2_with fail
  go_ret
  exact ⟨rfl, by repeat' (first | (with_reducible assumption) | (with_reducible exact Below.refl _ _) | (with_reducible refine below_drewN ?_ _) | (with_reducible refine Below.drew ?_) | (with_reducible refine Below.setCell ?_ ?_ _) | (with_reducible refine Below.alloc ?_ ?_ _) | omega | (simp; done) | (simp; omega))⟩

set_option maxHeartbeats 3200000 in
set_option maxRecDepth 100000 in
theorem wholeTexts_long (v : Int) (s : ByteArray) (hs : 100 < s.size) (w : World) (hL : Laid10 w) :
    Calls Tryd.prog 7 #[.int .i64 v, .string s] w fun e w' => e = .returned (.bool true) ∧ Below w.heap.size w w' := by
  have HL := Lib.hid hL
  clear hL
  have AW := Lib.hid awake10

  go_enter Tryd.func7, Tryd.ntmps7
  go_wp2_with fail
  with_reducible refine (AW.out _ HL.out).mono ?_
  rintro e w1 ⟨rfl, hb1⟩
  have hw1 : Below w.heap.size w w1 := Below.trans (by repeat' (first | (with_reducible assumption) | (with_reducible exact Below.refl _ _) | (with_reducible refine below_drewN ?_ _) | (with_reducible refine Below.drew ?_) | (with_reducible refine Below.setCell ?_ ?_ _) | (with_reducible refine Below.alloc ?_ ?_ _) | omega | (simp; done) | (simp; omega))) (hb1.mono (by first | assumption | (simp; done) | (simp; omega)))
  have hz1 := hw1.size
  clear hb1
  go_wp2_with fail
  go_ret
  exact ⟨rfl, by repeat' (first | (with_reducible assumption) | (with_reducible exact Below.refl _ _) | (with_reducible refine below_drewN ?_ _) | (with_reducible refine Below.drew ?_) | (with_reducible refine Below.setCell ?_ ?_ _) | (with_reducible refine Below.alloc ?_ ?_ _) | omega | (simp; done) | (simp; omega))⟩

set_option maxHeartbeats 3200000 in
set_option maxRecDepth 100000 in
theorem wholeTexts_law (v x : Int) (pb : Bool) (s t : ByteArray) (hs : s.size ≤ 100) (TX : ∀ w, Laid10 w → Calls Tryd.prog 17 #[.int .i64 v] w fun e w' => e = .returned (.string t) ∧ Below w.heap.size w w')
    (PT : ∀ w, Laid10 w → Calls Tryd.prog 18 #[.string t] w fun e w' => e = .returned (.tuple #[.int .i64 v, .bool true]) ∧ Below w.heap.size w w')
    (PS : ∀ w, Laid10 w → Calls Tryd.prog 18 #[.string s] w fun e w' => e = .returned (.tuple #[.int .i64 x, .bool pb]) ∧ Below w.heap.size w w')
    (RP : ∀ w, Calls Tryd.prog 19 #[.string s] w fun e w' => e = .returned (.tuple #[.int .i64 x, .bool pb]) ∧ w = w')
    (RI : ∀ w, Calls Tryd.prog 20 #[.int .i64 v] w fun e w' => e = .returned (.string t) ∧ Below w.heap.size w w') (w : World) (hL : Laid10 w) :
    Calls Tryd.prog 7 #[.int .i64 v, .string s] w fun e w' => e = .returned (.bool true) ∧ Below w.heap.size w w' := by
  have HL := Lib.hid hL
  clear hL
  have AW := Lib.hid awake10
  replace TX := Lib.hid TX
  replace PT := Lib.hid PT
  replace PS := Lib.hid PS
  replace RP := Lib.hid RP
  replace RI := Lib.hid RI
  go_enter Tryd.func7, Tryd.ntmps7
  go_wp2_with fail
  with_reducible refine (AW.out _ HL.out).mono ?_
  rintro e w1 ⟨rfl, hb1⟩
  have hw1 : Below w.heap.size w w1 := Below.trans (by repeat' (first | (with_reducible assumption) | (with_reducible exact Below.refl _ _) | (with_reducible refine below_drewN ?_ _) | (with_reducible refine Below.drew ?_) | (with_reducible refine Below.setCell ?_ ?_ _) | (with_reducible refine Below.alloc ?_ ?_ _) | omega | (simp; done) | (simp; omega))) (hb1.mono (by first | assumption | (simp; done) | (simp; omega)))
  have hz1 := hw1.size
  clear hb1
  go_wp2_with fail
  with_reducible refine (TX.out _ (laid_below HL.out hw1)).mono ?_
  rintro e w2 ⟨rfl, hb2⟩
  have hw2 : Below w.heap.size w w2 := Below.trans (by repeat' (first | (with_reducible assumption) | (with_reducible exact Below.refl _ _) | (with_reducible refine below_drewN ?_ _) | (with_reducible refine Below.drew ?_) | (with_reducible refine Below.setCell ?_ ?_ _) | (with_reducible refine Below.alloc ?_ ?_ _) | omega | (simp; done) | (simp; omega))) (hb2.mono (by first | assumption | (simp; done) | (simp; omega)))
  have hz2 := hw2.size
  clear hb2
  go_wp2_with fail
  with_reducible refine (PT.out _ (laid_below HL.out hw2)).mono ?_
  rintro e w3 ⟨rfl, hb3⟩
  have hw3 : Below w.heap.size w w3 := Below.trans (by repeat' (first | (with_reducible assumption) | (with_reducible exact Below.refl _ _) | (with_reducible refine below_drewN ?_ _) | (with_reducible refine Below.drew ?_) | (with_reducible refine Below.setCell ?_ ?_ _) | (with_reducible refine Below.alloc ?_ ?_ _) | omega | (simp; done) | (simp; omega))) (hb3.mono (by first | assumption | (simp; done) | (simp; omega)))
  have hz3 := hw3.size
  clear hb3
  go_wp2_with fail
  with_reducible refine (PS.out _ (laid_below HL.out hw3)).mono ?_
  rintro e w4 ⟨rfl, hb4⟩
  have hw4 : Below w.heap.size w w4 := Below.trans (by repeat' (first | (with_reducible assumption) | (with_reducible exact Below.refl _ _) | (with_reducible refine below_drewN ?_ _) | (with_reducible refine Below.drew ?_) | (with_reducible refine Below.setCell ?_ ?_ _) | (with_reducible refine Below.alloc ?_ ?_ _) | omega | (simp; done) | (simp; omega))) (hb4.mono (by first | assumption | (simp; done) | (simp; omega)))
  have hz4 := hw4.size
  clear hb4
  go_wp2_with fail
  with_reducible refine (RP.out _).mono ?_
  rintro e w' ⟨rfl, rfl⟩
  go_wp2_with fail
  with_reducible refine (RI.out _).mono ?_
  rintro e w5 ⟨rfl, hb5⟩
  have hw5 : Below w.heap.size w w5 := Below.trans (by repeat' (first | (with_reducible assumption) | (with_reducible exact Below.refl _ _) | (with_reducible refine below_drewN ?_ _) | (with_reducible refine Below.drew ?_) | (with_reducible refine Below.setCell ?_ ?_ _) | (with_reducible refine Below.alloc ?_ ?_ _) | omega | (simp; done) | (simp; omega))) (hb5.mono (by first | assumption | (simp; done) | (simp; omega)))
  have hz5 := hw5.size
  clear hb5
  go_wp2_with fail
  go_ret
  exact ⟨rfl, by repeat' (first | (with_reducible assumption) | (with_reducible exact Below.refl _ _) | (with_reducible refine below_drewN ?_ _) | (with_reducible refine Below.drew ?_) | (with_reducible refine Below.setCell ?_ ?_ _) | (with_reducible refine Below.alloc ?_ ?_ _) | omega | (simp; done) | (simp; omega))⟩

set_option maxHeartbeats 3200000 in
set_option maxRecDepth 100000 in
theorem wholeIs_same (v : Int) (t : ByteArray) (TX : ∀ w, Laid10 w → Calls Tryd.prog 17 #[.int .i64 v] w fun e w' => e = .returned (.string t) ∧ Below w.heap.size w w')
    (LX : ∀ w, Calls Tryd.prog 21 #[.string t] w fun e w' => e = .returned (.int .i64 1) ∧ w = w') (w : World) (hL : Laid10 w) :
    Calls Tryd.prog 9 #[.int .i64 v, .int .i64 v] w fun e w' => e = .returned (.bool true) ∧ Below w.heap.size w w' := by
  have HL := Lib.hid hL
  clear hL
  have AW := Lib.hid awake10
  replace TX := Lib.hid TX
  replace LX := Lib.hid LX
  go_enter Tryd.func9, Tryd.ntmps9
  go_wp2_with fail
  with_reducible refine (AW.out _ HL.out).mono ?_
  rintro e w1 ⟨rfl, hb1⟩
  have hw1 : Below w.heap.size w w1 := Below.trans (by repeat' (first | (with_reducible assumption) | (with_reducible exact Below.refl _ _) | (with_reducible refine below_drewN ?_ _) | (with_reducible refine Below.drew ?_) | (with_reducible refine Below.setCell ?_ ?_ _) | (with_reducible refine Below.alloc ?_ ?_ _) | omega | (simp; done) | (simp; omega))) (hb1.mono (by first | assumption | (simp; done) | (simp; omega)))
  have hz1 := hw1.size
  clear hb1
  go_wp2_with fail
  with_reducible refine (TX.out _ (laid_below HL.out hw1)).mono ?_
  rintro e w2 ⟨rfl, hb2⟩
  have hw2 : Below w.heap.size w w2 := Below.trans (by repeat' (first | (with_reducible assumption) | (with_reducible exact Below.refl _ _) | (with_reducible refine below_drewN ?_ _) | (with_reducible refine Below.drew ?_) | (with_reducible refine Below.setCell ?_ ?_ _) | (with_reducible refine Below.alloc ?_ ?_ _) | omega | (simp; done) | (simp; omega))) (hb2.mono (by first | assumption | (simp; done) | (simp; omega)))
  have hz2 := hw2.size
  clear hb2
  go_wp2_with fail
  with_reducible refine (LX.out _).mono ?_
  rintro e w' ⟨rfl, rfl⟩
  go_wp2_with fail
  with_reducible refine (TX.out _ (laid_below HL.out hw2)).mono ?_
  rintro e w3 ⟨rfl, hb3⟩
  have hw3 : Below w.heap.size w w3 := Below.trans (by repeat' (first | (with_reducible assumption) | (with_reducible exact Below.refl _ _) | (with_reducible refine below_drewN ?_ _) | (with_reducible refine Below.drew ?_) | (with_reducible refine Below.setCell ?_ ?_ _) | (with_reducible refine Below.alloc ?_ ?_ _) | omega | (simp; done) | (simp; omega))) (hb3.mono (by first | assumption | (simp; done) | (simp; omega)))
  have hz3 := hw3.size
  clear hb3
  go_wp2_with fail
  with_reducible refine (TX.out _ (laid_below HL.out hw3)).mono ?_
  rintro e w4 ⟨rfl, hb4⟩
  have hw4 : Below w.heap.size w w4 := Below.trans (by repeat' (first | (with_reducible assumption) | (with_reducible exact Below.refl _ _) | (with_reducible refine below_drewN ?_ _) | (with_reducible refine Below.drew ?_) | (with_reducible refine Below.setCell ?_ ?_ _) | (with_reducible refine Below.alloc ?_ ?_ _) | omega | (simp; done) | (simp; omega))) (hb4.mono (by first | assumption | (simp; done) | (simp; omega)))
  have hz4 := hw4.size
  clear hb4
  go_wp2_with fail
  go_ret
  exact ⟨rfl, by repeat' (first | (with_reducible assumption) | (with_reducible exact Below.refl _ _) | (with_reducible refine below_drewN ?_ _) | (with_reducible refine Below.drew ?_) | (with_reducible refine Below.setCell ?_ ?_ _) | (with_reducible refine Below.alloc ?_ ?_ _) | omega | (simp; done) | (simp; omega))⟩

set_option maxHeartbeats 3200000 in
set_option maxRecDepth 100000 in
theorem wholeIs_other (v y : Int) (t u : ByteArray) (hvy : (v == y) = false) (htu : (t == u) = false) (htu2 : (t.toList == u.toList) = false) (TX : ∀ w, Laid10 w → Calls Tryd.prog 17 #[.int .i64 v] w fun e w' => e = .returned (.string t) ∧ Below w.heap.size w w')
    (LX : ∀ w, Calls Tryd.prog 21 #[.string t] w fun e w' => e = .returned (.int .i64 1) ∧ w = w')
    (TU : ∀ w, Laid10 w → Calls Tryd.prog 17 #[.int .i64 y] w fun e w' => e = .returned (.string u) ∧ Below w.heap.size w w') (w : World) (hL : Laid10 w) :
    Calls Tryd.prog 9 #[.int .i64 v, .int .i64 y] w fun e w' => e = .returned (.bool true) ∧ Below w.heap.size w w' := by
  have HL := Lib.hid hL
  clear hL
  have AW := Lib.hid awake10
  replace TX := Lib.hid TX
  replace LX := Lib.hid LX
  replace TU := Lib.hid TU
  go_enter Tryd.func9, Tryd.ntmps9
  go_wp2_with fail
  with_reducible refine (AW.out _ HL.out).mono ?_
  rintro e w1 ⟨rfl, hb1⟩
  have hw1 : Below w.heap.size w w1 := Below.trans (by repeat' (first | (with_reducible assumption) | (with_reducible exact Below.refl _ _) | (with_reducible refine below_drewN ?_ _) | (with_reducible refine Below.drew ?_) | (with_reducible refine Below.setCell ?_ ?_ _) | (with_reducible refine Below.alloc ?_ ?_ _) | omega | (simp; done) | (simp; omega))) (hb1.mono (by first | assumption | (simp; done) | (simp; omega)))
  have hz1 := hw1.size
  clear hb1
  go_wp2_with fail
  with_reducible refine (TX.out _ (laid_below HL.out hw1)).mono ?_
  rintro e w2 ⟨rfl, hb2⟩
  have hw2 : Below w.heap.size w w2 := Below.trans (by repeat' (first | (with_reducible assumption) | (with_reducible exact Below.refl _ _) | (with_reducible refine below_drewN ?_ _) | (with_reducible refine Below.drew ?_) | (with_reducible refine Below.setCell ?_ ?_ _) | (with_reducible refine Below.alloc ?_ ?_ _) | omega | (simp; done) | (simp; omega))) (hb2.mono (by first | assumption | (simp; done) | (simp; omega)))
  have hz2 := hw2.size
  clear hb2
  go_wp2_with fail
  with_reducible refine (LX.out _).mono ?_
  rintro e w' ⟨rfl, rfl⟩
  go_wp2_with fail
  with_reducible refine (TX.out _ (laid_below HL.out hw2)).mono ?_
  rintro e w3 ⟨rfl, hb3⟩
  have hw3 : Below w.heap.size w w3 := Below.trans (by repeat' (first | (with_reducible assumption) | (with_reducible exact Below.refl _ _) | (with_reducible refine below_drewN ?_ _) | (with_reducible refine Below.drew ?_) | (with_reducible refine Below.setCell ?_ ?_ _) | (with_reducible refine Below.alloc ?_ ?_ _) | omega | (simp; done) | (simp; omega))) (hb3.mono (by first | assumption | (simp; done) | (simp; omega)))
  have hz3 := hw3.size
  clear hb3
  go_wp2_with fail
  with_reducible refine (TU.out _ (laid_below HL.out hw3)).mono ?_
  rintro e w4 ⟨rfl, hb4⟩
  have hw4 : Below w.heap.size w w4 := Below.trans (by repeat' (first | (with_reducible assumption) | (with_reducible exact Below.refl _ _) | (with_reducible refine below_drewN ?_ _) | (with_reducible refine Below.drew ?_) | (with_reducible refine Below.setCell ?_ ?_ _) | (with_reducible refine Below.alloc ?_ ?_ _) | omega | (simp; done) | (simp; omega))) (hb4.mono (by first | assumption | (simp; done) | (simp; omega)))
  have hz4 := hw4.size
  clear hb4
  go_wp2_with fail
  go_ret
  exact ⟨rfl, by repeat' (first | (with_reducible assumption) | (with_reducible exact Below.refl _ _) | (with_reducible refine below_drewN ?_ _) | (with_reducible refine Below.drew ?_) | (with_reducible refine Below.setCell ?_ ?_ _) | (with_reducible refine Below.alloc ?_ ?_ _) | omega | (simp; done) | (simp; omega))⟩

theorem itoa_len (v : Int) (v0 : -9223372036854775808 ≤ v) (v1 : v ≤ 9223372036854775807) : (Lib.itoa v).length ≤ 21 := by
  unfold Lib.itoa
  split
  · have := nDigits_of_lt 20 v.natAbs (by decide) (by omega)
    rw [List.length_cons, Lib.decDigits_length]; omega
  · have := nDigits_of_lt 20 v.toNat (by decide) (by omega)
    rw [Lib.decDigits_length]; omega
theorem itoa_size (v : Int) (v0 : -9223372036854775808 ≤ v) (v1 : v ≤ 9223372036854775807) : (⟨(Lib.itoa v).toArray⟩ : ByteArray).size ≤ 1000 := by
  have := itoa_len v v0 v1
  show (Lib.itoa v).toArray.size ≤ 1000
  rw [List.size_toArray]; omega
theorem wholeTexts_all (v : Int) (s : ByteArray) (hs : s.size ≤ maxLen) (v0 : -9223372036854775808 ≤ v) (v1 : v ≤ 9223372036854775807) (w : World) (hL : Laid10 w) :
    Calls Tryd.prog 7 #[.int .i64 v, .string s] w fun e w' => e = .returned (.bool true) ∧ Below w.heap.size w w' := by
  by_cases hl : 100 < s.size
  · exact wholeTexts_long v s hl w hL
  · refine wholeTexts_law v (iV (refInt s.data.toList)) (refInt s.data.toList).isSome s ⟨(Lib.itoa v).toArray⟩ (by omega) (fun w h => wholeText_any v v0 v1 w h.1) ?_ ?_ (fun w => parseInt5_any s (by omega) w) (fun w => int5_any v v0 v1 w) w hL
    · intro w h
      refine (wholeParse_any ⟨(Lib.itoa v).toArray⟩ (itoa_size v v0 v1) w h.1 h.2.1 h.2.2).mono ?_
      rintro e w' ⟨rfl, hb⟩
      have e2 : (⟨(Lib.itoa v).toArray⟩ : ByteArray).data.toList = Lib.itoa v := rfl
      rw [e2, canon_itoa v v0 v1]
      exact ⟨rfl, hb⟩
    · intro w h
      refine (wholeParse_any s (by omega) w h.1 h.2.1 h.2.2).mono ?_
      rintro e w' ⟨rfl, hb⟩
      rw [canon_ref]
      exact ⟨rfl, hb⟩
theorem wholeIs_all (v y : Int) (v0 : -9223372036854775808 ≤ v) (v1 : v ≤ 9223372036854775807) (y0 : -9223372036854775808 ≤ y) (y1 : y ≤ 9223372036854775807) (w : World) (hL : Laid10 w) :
    Calls Tryd.prog 9 #[.int .i64 v, .int .i64 y] w fun e w' => e = .returned (.bool true) ∧ Below w.heap.size w w' := by
  have LX : ∀ w, Calls Tryd.prog 21 #[.string ⟨(Lib.itoa v).toArray⟩] w fun e w' => e = .returned (.int .i64 1) ∧ w = w' := fun w => by
    refine (lexeme_any ⟨(Lib.itoa v).toArray⟩ (itoa_size v v0 v1) w).mono ?_
    rintro e w' ⟨rfl, rfl⟩
    have e2 : (⟨(Lib.itoa v).toArray⟩ : ByteArray).data.toList = Lib.itoa v := rfl
    rw [e2, lexOf_itoa]
    exact ⟨rfl, rfl⟩
  by_cases h : v = y
  · subst h
    exact wholeIs_same v _ (fun w h => wholeText_any v v0 v1 w h.1) LX w hL
  · have hne : Lib.itoa v ≠ Lib.itoa y := fun e => h (itoa_inj v y v0 v1 e)
    have hb : (⟨(Lib.itoa v).toArray⟩ : ByteArray) ≠ ⟨(Lib.itoa y).toArray⟩ := fun e => hne (by have := congrArg (fun b : ByteArray => b.data.toList) e; exact this)
    exact wholeIs_other v y _ _ (beq_f h) (bs_ne hb) (by rw [ByteArray.toList_eq, ByteArray.toList_eq, beq_eq_false_iff_ne]; exact hne) (fun w h => wholeText_any v v0 v1 w h.1) LX (fun w h => wholeText_any y y0 y1 w h.1) w hL

end Go.Proofs.YtdfpknomhambcaaDoor
