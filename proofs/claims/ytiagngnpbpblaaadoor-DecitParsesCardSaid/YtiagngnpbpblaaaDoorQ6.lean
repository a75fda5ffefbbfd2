/- awake (layer 15) and the walk of DecitTexts. Condition: the table of powers of 10 is laid; some integer stands at the library's MaxLen. -/
import Derived.Test.YtiagngnpbpblaaaDoorQ2
import Derived.Test.YtiagngnpbpblaaaDoorQ5
namespace Go.Proofs.YtiagngnpbpblaaaDoor
open Go.RowKit
set_option linter.unusedSimpArgs false
set_option linter.unusedVariables false

def Laid15 (w : World) : Prop := PowTab w ∧ MaxAt w
theorem laid15_below {w w' : World} (h : Laid15 w) (hb : Below w.heap.size w w') : Laid15 w' := ⟨tabIs_below h.1 hb, maxAt_below h.2 hb⟩
theorem laid15_pow {w : World} (h : Laid15 w) : PowTab w := h.1
theorem laid15_max {w : World} (h : Laid15 w) : MaxAt w := h.2
theorem dec15 : Lib.decDigits 15 = [49, 53] := by rw [Lib.decDigits_two (by decide) (by decide)]; rfl
theorem par15 : parseOf [49, 53] = some 15 := by
  have e : decVal [49, 53] = 15 := by decide
  have h := parseOf_some (l := [49, 53]) (by decide) (by decide) (by rw [e]; decide) (by rw [e]; exact dec15)
  rw [e] at h
  exact h
theorem decP15 : decP [49, 46, 53] = (3476215962376601600, 15, 0) := by
  unfold decP
  rw [if_neg (by decide), if_neg (by decide), if_neg (by decide), if_neg (by decide), if_neg (by decide)]
  have h1 : hdIs [49, 46, 53] 45 45 = false := by decide
  have h2 : qOf [49, 46, 53] = -1 := by decide
  have h3 : dOf [49, 46, 53] = [49, 53] := by decide
  rw [h1, h2, h3]
  have hc : Lib.trimRightB [49, 53] 48 = [49, 53] := by decide
  have hV : cofV [49, 53] ((-1 : Int) + ([49, 53] : List UInt8).length - ([49, 53] : List UInt8).length - (-1)) = 15 := by
    unfold cofV coefL
    rw [if_neg (by decide)]
    have e : ([49, 53] : List UInt8) ++ List.replicate ((-1 : Int) + ([49, 53] : List UInt8).length - ([49, 53] : List UInt8).length - (-1)).toNat 48 = [49, 53] := by decide
    rw [e, par15]; rfl
  rw [fin_ok (ng := false) hc (by decide) (by decide) hV]
  decide
theorem decT15 : decT (sKind 3476215962376601600) (sNeg 3476215962376601600) (wN (sHigh 3476215962376601600 15) (sLow 3476215962376601600 15)) (sExp 3476215962376601600) = [49, 46, 53] := by
  have h1 : sKind 3476215962376601600 = 1 := by decide
  have h2 : sNeg 3476215962376601600 = false := by decide
  have h3 : wN (sHigh 3476215962376601600 15) (sLow 3476215962376601600 15) = 15 := by decide
  have h4 : sExp 3476215962376601600 = -1 := by decide
  rw [h1, h2, h3, h4]
  unfold decT
  rw [dec15]
  decide
theorem join15 (w : World) : Calls Tryd.prog 7 #[.bool false, .agg #[.int .u64 0, .int .u64 15], .int .i64 (-1)] w fun e w' => e = .returned (.tuple #[.int .u64 3476215962376601600, .int .u64 15, .bool true]) ∧ Below w.heap.size w w' := by
  refine (deciJoin_any false 0 15 (-1) (by decide) (by decide) (by decide) (by decide) (by decide) (by decide) w).mono ?_
  rintro e w' ⟨rfl, hb⟩
  exact ⟨by rw [show jHigh false 0 15 (-1) = 3476215962376601600 by decide, show jLow 0 15 (-1) = 15 by decide, show jOk 0 15 (-1) = true by decide], hb⟩
theorem parse15 (w : World) (hM : MaxAt w) : Calls Tryd.prog 5 #[.string { data := #[49, 46, 53] }] w fun e w' => e = .returned (.tuple #[.int .u64 3476215962376601600, .int .u64 15, .int .i64 0]) ∧ Below w.heap.size w w' := by
  have ha : ∀ b ∈ ({ data := #[49, 46, 53] } : ByteArray).data.toList, b.toNat < 128 := by decide
  refine (decParse_any { data := #[49, 46, 53] } (by decide) (idx_ascii _ (by decide) ha) (fun _ => idx_ascii _ (by rw [ByteArray.size_extract]; decide) (fun b hb => ?_)) w hM).mono ?_
  · rw [ext_rest] at hb
    exact ha b (List.mem_of_mem_drop hb)
  · rintro e w' ⟨h, hb⟩
    refine ⟨?_, hb⟩
    unfold DecRet at h
    rw [h]
    show Ending.returned (.tuple #[.int .u64 (decP [49, 46, 53]).1, .int .u64 (decP [49, 46, 53]).2.1, .int .i64 (decP [49, 46, 53]).2.2]) = _
    rw [decP15]
theorem text15 (w : World) (ht : PowTab w) : Calls Tryd.prog 8 #[.int .u64 3476215962376601600, .int .u64 15] w fun e w' => e = .returned (.string { data := #[49, 46, 53] }) ∧ Below w.heap.size w w' := by
  refine (decitText_any 3476215962376601600 15 (by decide) (by decide) (by decide) (by decide) w ht).mono ?_
  rintro e w' ⟨rfl, hb⟩
  rw [decT15]
  exact ⟨rfl, hb⟩
set_option maxHeartbeats 1600000 in
set_option maxRecDepth 100000 in
theorem awake15 (w : World) (hL : Laid15 w) : Calls Tryd.prog 4 #[] w fun e w' => e = .returned (.bool true) ∧ Below w.heap.size w w' := by
  have HL := Lib.hid hL
  clear hL
  have J := Lib.hid join15
  have P := Lib.hid parse15
  have X := Lib.hid text15
  go_enter Tryd.func4, Tryd.ntmps4
  go_wp2_with fail
  with_reducible refine (J.out _).mono ?_
  rintro e w1 ⟨rfl, hb1⟩
  have hw1 : Below w.heap.size w w1 := Below.trans (by repeat' (first | (with_reducible assumption) | (with_reducible exact Below.refl _ _) | (with_reducible refine below_drewN ?_ _) | (with_reducible refine Below.drew ?_) | (with_reducible refine Below.setCell ?_ ?_ _) | (with_reducible refine Below.alloc ?_ ?_ _) | omega | (simp; done) | (simp; omega))) (hb1.mono (by first | assumption | (simp; done) | (simp; omega)))
  have hz1 := hw1.size
  clear hb1
  go_wp2_with fail
  with_reducible refine (P.out _ (laid15_max (laid15_below HL.out hw1))).mono ?_
  rintro e w2 ⟨rfl, hb2⟩
  have hw2 : Below w.heap.size w w2 := Below.trans (by repeat' (first | (with_reducible assumption) | (with_reducible exact Below.refl _ _) | (with_reducible refine below_drewN ?_ _) | (with_reducible refine Below.drew ?_) | (with_reducible refine Below.setCell ?_ ?_ _) | (with_reducible refine Below.alloc ?_ ?_ _) | omega | (simp; done) | (simp; omega))) (hb2.mono (by first | assumption | (simp; done) | (simp; omega)))
  have hz2 := hw2.size
  clear hb2
  go_wp2_with fail
  with_reducible refine (X.out _ (laid15_pow (laid15_below HL.out hw2))).mono ?_
  rintro e w3 ⟨rfl, hb3⟩
  have hw3 : Below w.heap.size w w3 := Below.trans (by repeat' (first | (with_reducible assumption) | (with_reducible exact Below.refl _ _) | (with_reducible refine below_drewN ?_ _) | (with_reducible refine Below.drew ?_) | (with_reducible refine Below.setCell ?_ ?_ _) | (with_reducible refine Below.alloc ?_ ?_ _) | omega | (simp; done) | (simp; omega))) (hb3.mono (by first | assumption | (simp; done) | (simp; omega)))
  have hz3 := hw3.size
  clear hb3
  go_wp2_with fail
  go_ret
  exact ⟨by first | rfl | (simp; done), by repeat' (first | (with_reducible assumption) | (with_reducible exact Below.refl _ _) | (with_reducible refine below_drewN ?_ _) | (with_reducible refine Below.drew ?_) | (with_reducible refine Below.setCell ?_ ?_ _) | (with_reducible refine Below.alloc ?_ ?_ _) | omega | (simp; done) | (simp; omega))⟩
end Go.Proofs.YtiagngnpbpblaaaDoor
