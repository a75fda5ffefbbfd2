/- Parts of the proof of TopLooks: U92, U93. No condition. -/
import Derived.Test.YtihnfhhopldllaaGreatDoorJ1
import Derived.Test.YtihnfhhopldllaaGreatDoorJ42
import Derived.Test.YtihnfhhopldllaaGreatDoorJ43
import Derived.Test.YtihnfhhopldllaaGreatDoorJ45
import Derived.Test.YtihnfhhopldllaaGreatDoorJ46
namespace Go.Proofs.YtihnfhhopldllaaGreatDoor
set_option linter.unusedSimpArgs false
set_option linter.unusedVariables false
set_option maxHeartbeats 6400000
set_option maxRecDepth 100000
section
open Go.RowKit
theorem value_c (g c : Nat) (w : World) (h : ItM w g) : Calls Tryz.prog 45 #[.agg #[.int .i64 6, .int .u64 0, .slice none 0 0, .string { data := #[] }, .slice (some ⟨g, 0, none⟩) 2 c]] w fun e w' => (∃ s, e = .returned (.tuple #[.agg #[.int .i64 3, .int .u64 0, .int .u64 0, .int .u64 0, .string { data := #[] }, .string { data := #[] }, .int .i64 0, .slice none 0 0, s], .agg #[.int .i64 0, .int .i64 0, .slice none 0 0]]) ∧ Kd .V (fun b => w.heap.size ≤ b) w' 1 iKids s) ∧ Below w.heap.size w w' := by
  have HC := Lib.hid (fun w h => ccheck_M g c w h)
  have HW := Lib.hid (fun w h => dwith_M g c w h)
  have HI := Lib.hid h
  clear h
  go_enter Tryz.func45, Tryz.ntmps45
  go_wp2_with fail
  with_reducible refine (HC.out _ ?h1).mono ?_
  case h1 => exact HI.out.beyond bel
  rintro e w1 ⟨rfl, hb1⟩
  obtain ⟨c1_0, f1_0⟩ := cf hb1 w.heap.size 0 (.int .i64 6)
  obtain ⟨c1_1, f1_1⟩ := cf hb1 w.heap.size 1 (.int .u64 0)
  obtain ⟨c1_2, f1_2⟩ := cf hb1 w.heap.size 2 (.slice none 0 0)
  obtain ⟨c1_3, f1_3⟩ := cf hb1 w.heap.size 3 (.string { data := #[] })
  obtain ⟨c1_4, f1_4⟩ := cf hb1 w.heap.size 4 (.slice (some ⟨g, 0, none⟩) 2 c)
  obtain ⟨c1_5, f1_5⟩ := cf hb1 (w.heap.size + 1) 0 (.int .i64 0)
  obtain ⟨c1_6, f1_6⟩ := cf hb1 (w.heap.size + 1) 1 (.int .u64 0)
  obtain ⟨c1_7, f1_7⟩ := cf hb1 (w.heap.size + 1) 2 (.int .u64 0)
  obtain ⟨c1_8, f1_8⟩ := cf hb1 (w.heap.size + 1) 3 (.int .u64 0)
  obtain ⟨c1_9, f1_9⟩ := cf hb1 (w.heap.size + 1) 4 (.string { data := #[] })
  obtain ⟨c1_10, f1_10⟩ := cf hb1 (w.heap.size + 1) 5 (.string { data := #[] })
  obtain ⟨c1_11, f1_11⟩ := cf hb1 (w.heap.size + 1) 6 (.int .i64 0)
  obtain ⟨c1_12, f1_12⟩ := cf hb1 (w.heap.size + 1) 7 (.slice none 0 0)
  obtain ⟨c1_13, f1_13⟩ := cf hb1 (w.heap.size + 1) 8 (.slice none 0 0)
  obtain ⟨c1_14, f1_14⟩ := cf hb1 (w.heap.size + 1 + 1) 0 (.int .i64 0)
  obtain ⟨c1_15, f1_15⟩ := cf hb1 (w.heap.size + 1 + 1) 1 (.int .i64 0)
  obtain ⟨c1_16, f1_16⟩ := cf hb1 (w.heap.size + 1 + 1) 2 (.slice none 0 0)
  have hl1_0 := ltB hb1 w.heap.size
  have hl1_1 := ltB hb1 (w.heap.size + 1)
  have hl1_2 := ltB hb1 (w.heap.size + 1 + 1)
  have hw1 := bwB hb1 w.heap.size w
  have hz1 := hw1.size
  clear hb1
  go_wp2_with fail
  with_reducible refine (HW.out _ ?h2).mono ?_
  case h2 => exact HI.out.beyond bel
  rintro e w2 ⟨⟨s, rfl, hk⟩, hb2⟩
  have hk2 := Lib.hid (hk.mono (Q' := fun b => w.heap.size + 1 + 1 < b) (fun b hb _ => by first | omega | (simp at hb; omega)))
  clear hk
  obtain ⟨sa, sc, rfl⟩ : ∃ ad c, s = .slice ad 1 c := hk2.out.slice
  obtain ⟨c2_0, f2_0⟩ := cf hb2 (w.heap.size + 1) 0 (.int .i64 0)
  obtain ⟨c2_1, f2_1⟩ := cf hb2 (w.heap.size + 1) 1 (.int .u64 0)
  obtain ⟨c2_2, f2_2⟩ := cf hb2 (w.heap.size + 1) 2 (.int .u64 0)
  obtain ⟨c2_3, f2_3⟩ := cf hb2 (w.heap.size + 1) 3 (.int .u64 0)
  obtain ⟨c2_4, f2_4⟩ := cf hb2 (w.heap.size + 1) 4 (.string { data := #[] })
  obtain ⟨c2_5, f2_5⟩ := cf hb2 (w.heap.size + 1) 5 (.string { data := #[] })
  obtain ⟨c2_6, f2_6⟩ := cf hb2 (w.heap.size + 1) 6 (.int .i64 0)
  obtain ⟨c2_7, f2_7⟩ := cf hb2 (w.heap.size + 1) 7 (.slice none 0 0)
  obtain ⟨c2_8, f2_8⟩ := cf hb2 (w.heap.size + 1) 8 (.slice none 0 0)
  obtain ⟨c2_9, f2_9⟩ := cf hb2 (w.heap.size + 1 + 1) 0 (.int .i64 0)
  obtain ⟨c2_10, f2_10⟩ := cf hb2 (w.heap.size + 1 + 1) 1 (.int .i64 0)
  obtain ⟨c2_11, f2_11⟩ := cf hb2 (w.heap.size + 1 + 1) 2 (.slice none 0 0)
  have hl2_0 := ltB hb2 (w.heap.size + 1)
  have hl2_1 := ltB hb2 (w.heap.size + 1 + 1)
  have hw2 := bwB hb2 w.heap.size w
  have hz2 := hw2.size
  clear hb2
  go_wp2_with fail
  refine bodyPost_ret (v := .tuple #[.agg #[.int .i64 3, .int .u64 0, .int .u64 0, .int .u64 0, .string { data := #[] }, .string { data := #[] }, .int .i64 0, .slice none 0 0, .slice sa 1 sc], .agg #[.int .i64 0, .int .i64 0, .slice none 0 0]]) (by simp (maxDischargeDepth := 4) [results, Tryz.results45, go_sem, c2_0, f2_0, c2_1, f2_1, c2_2, f2_2, c2_3, f2_3, c2_4, f2_4, c2_5, f2_5, c2_6, f2_6, c2_7, f2_7, c2_8, f2_8, c2_9, f2_9, c2_10, f2_10, c2_11, f2_11]) rfl ?_
  refine ⟨⟨_, rfl, (hk2.out.keeps ?_).mono (fun b hb _ => by omega)⟩, bel⟩
  repeat' (first | (with_reducible assumption) | (with_reducible exact Keeps.refl _ _) | (with_reducible refine keeps_drew ?_) | (with_reducible refine keeps_set ?_ (by dsimp only; omega) _) | (with_reducible refine keeps_alloc ?_ _))
theorem items_4 (b c : Nat) (w : World) (h : Bs w b 0 cborL) : Calls Tryz.prog 26 #[.int .i64 4, .agg #[.int .i64 200, .int .i64 65536, .int .i64 262144], .slice (some ⟨b, 0, none⟩) 4 c] w fun e w' => (∃ s, e = .returned (.tuple #[.agg #[.int .i64 3, .int .u64 0, .int .u64 0, .int .u64 0, .string { data := #[] }, .string { data := #[] }, .int .i64 0, .slice none 0 0, s], .agg #[.int .i64 0, .int .i64 0, .slice none 0 0]]) ∧ Kd .V (fun b => w.heap.size ≤ b) w' 1 iKids s) ∧ Below w.heap.size w w' := by
  have HD := Lib.hid (fun w h => decode_c b c w h)
  have HV := Lib.hid (fun g c w h => value_c g c w h)
  have HB := Lib.hid h
  clear h
  go_enter Tryz.func26, Tryz.ntmps26
  go_wp2_with fail
  with_reducible refine (HD.out _ ?h1).mono ?_
  case h1 => exact HB.out.beyond bel
  rintro e w1 ⟨⟨q, cap, rfl, hI, hq⟩, hb1⟩
  have hI1 := Lib.hid hI
  clear hI hq
  obtain ⟨c1_0, f1_0⟩ := cf hb1 (w.heap.size + 1) 0 (.int .i64 0)
  obtain ⟨c1_1, f1_1⟩ := cf hb1 (w.heap.size + 1) 1 (.int .u64 0)
  obtain ⟨c1_2, f1_2⟩ := cf hb1 (w.heap.size + 1) 2 (.int .u64 0)
  obtain ⟨c1_3, f1_3⟩ := cf hb1 (w.heap.size + 1) 3 (.int .u64 0)
  obtain ⟨c1_4, f1_4⟩ := cf hb1 (w.heap.size + 1) 4 (.string { data := #[] })
  obtain ⟨c1_5, f1_5⟩ := cf hb1 (w.heap.size + 1) 5 (.string { data := #[] })
  obtain ⟨c1_6, f1_6⟩ := cf hb1 (w.heap.size + 1) 6 (.int .i64 0)
  obtain ⟨c1_7, f1_7⟩ := cf hb1 (w.heap.size + 1) 7 (.slice none 0 0)
  obtain ⟨c1_8, f1_8⟩ := cf hb1 (w.heap.size + 1) 8 (.slice none 0 0)
  obtain ⟨c1_9, f1_9⟩ := cf hb1 (w.heap.size + 1 + 1) 0 (.int .i64 0)
  obtain ⟨c1_10, f1_10⟩ := cf hb1 (w.heap.size + 1 + 1) 1 (.int .i64 0)
  obtain ⟨c1_11, f1_11⟩ := cf hb1 (w.heap.size + 1 + 1) 2 (.slice none 0 0)
  have hl1_0 := ltB hb1 (w.heap.size + 1)
  have hl1_1 := ltB hb1 (w.heap.size + 1 + 1)
  have hw1 := bwB hb1 w.heap.size w
  have hz1 := hw1.size
  clear hb1
  go_wp2_with fail
  with_reducible refine (HV.out _ _ _ ?h2).mono ?_
  case h2 => exact hI1.out.beyond bel
  rintro e w2 ⟨⟨s, rfl, hk⟩, hb2⟩
  have hk2 := Lib.hid (hk.mono (Q' := fun b => w.heap.size + 1 + 1 < b) (fun b hb _ => by first | omega | (simp at hb; omega)))
  clear hk
  obtain ⟨sa, sc, rfl⟩ : ∃ ad c, s = .slice ad 1 c := hk2.out.slice
  obtain ⟨c2_0, f2_0⟩ := cf hb2 (w.heap.size + 1) 0 (.int .i64 0)
  obtain ⟨c2_1, f2_1⟩ := cf hb2 (w.heap.size + 1) 1 (.int .u64 0)
  obtain ⟨c2_2, f2_2⟩ := cf hb2 (w.heap.size + 1) 2 (.int .u64 0)
  obtain ⟨c2_3, f2_3⟩ := cf hb2 (w.heap.size + 1) 3 (.int .u64 0)
  obtain ⟨c2_4, f2_4⟩ := cf hb2 (w.heap.size + 1) 4 (.string { data := #[] })
  obtain ⟨c2_5, f2_5⟩ := cf hb2 (w.heap.size + 1) 5 (.string { data := #[] })
  obtain ⟨c2_6, f2_6⟩ := cf hb2 (w.heap.size + 1) 6 (.int .i64 0)
  obtain ⟨c2_7, f2_7⟩ := cf hb2 (w.heap.size + 1) 7 (.slice none 0 0)
  obtain ⟨c2_8, f2_8⟩ := cf hb2 (w.heap.size + 1) 8 (.slice none 0 0)
  obtain ⟨c2_9, f2_9⟩ := cf hb2 (w.heap.size + 1 + 1) 0 (.int .i64 0)
  obtain ⟨c2_10, f2_10⟩ := cf hb2 (w.heap.size + 1 + 1) 1 (.int .i64 0)
  obtain ⟨c2_11, f2_11⟩ := cf hb2 (w.heap.size + 1 + 1) 2 (.slice none 0 0)
  have hl2_0 := ltB hb2 (w.heap.size + 1)
  have hl2_1 := ltB hb2 (w.heap.size + 1 + 1)
  have hw2 := bwB hb2 w.heap.size w
  have hz2 := hw2.size
  clear hb2
  go_wp2_with fail
  refine bodyPost_ret (v := .tuple #[.agg #[.int .i64 3, .int .u64 0, .int .u64 0, .int .u64 0, .string { data := #[] }, .string { data := #[] }, .int .i64 0, .slice none 0 0, .slice sa 1 sc], .agg #[.int .i64 0, .int .i64 0, .slice none 0 0]]) (by simp (maxDischargeDepth := 4) [results, Tryz.results26, go_sem, c2_0, f2_0, c2_1, f2_1, c2_2, f2_2, c2_3, f2_3, c2_4, f2_4, c2_5, f2_5, c2_6, f2_6, c2_7, f2_7, c2_8, f2_8, c2_9, f2_9, c2_10, f2_10, c2_11, f2_11]) rfl ?_
  refine ⟨⟨_, rfl, (hk2.out.keeps ?_).mono (fun b hb _ => by omega)⟩, bel⟩
  repeat' (first | (with_reducible assumption) | (with_reducible exact Keeps.refl _ _) | (with_reducible refine keeps_drew ?_) | (with_reducible refine keeps_set ?_ (by dsimp only; omega) _) | (with_reducible refine keeps_alloc ?_ _))
theorem read_4 (b c : Nat) (w : World) (h : Bs w b 0 cborL) : Calls Tryz.prog 10 #[.int .i64 4, .agg #[.int .i64 200, .int .i64 65536, .int .i64 262144], .slice (some ⟨b, 0, none⟩) 4 c] w fun e w' => (∃ s, e = .returned (.tuple #[.agg #[.int .i64 3, .int .u64 0, .int .u64 0, .int .u64 0, .string { data := #[] }, .string { data := #[] }, .int .i64 0, .slice none 0 0, s], .agg #[.int .i64 0, .int .i64 0, .slice none 0 0]]) ∧ Kd .V (fun b => w.heap.size ≤ b) w' 1 iKids s) ∧ Below w.heap.size w w' := by
  have HM := Lib.hid may_4
  have HD := Lib.hid (fun w h => items_4 b c w h)
  have HF := Lib.hid (fun Q w v h => fits_any 1 iKids 200 65536 262144 (by decide) (by decide) (by decide) (by decide) (by decide) (by decide) (by decide) (by decide) (by decide) (by decide) dk_i Q w v h)
  have HB := Lib.hid h
  clear h
  go_enter Tryz.func10, Tryz.ntmps10
  go_wp2_with fail
  with_reducible refine (HM.out _).mono ?_
  rintro e w1 ⟨rfl, hb1⟩
  obtain ⟨c1_0, f1_0⟩ := cf hb1 w.heap.size 0 (.int .i64 200)
  obtain ⟨c1_1, f1_1⟩ := cf hb1 w.heap.size 1 (.int .i64 65536)
  obtain ⟨c1_2, f1_2⟩ := cf hb1 w.heap.size 2 (.int .i64 262144)
  obtain ⟨c1_3, f1_3⟩ := cf hb1 (w.heap.size + 1) 0 (.int .i64 0)
  obtain ⟨c1_4, f1_4⟩ := cf hb1 (w.heap.size + 1) 1 (.int .u64 0)
  obtain ⟨c1_5, f1_5⟩ := cf hb1 (w.heap.size + 1) 2 (.int .u64 0)
  obtain ⟨c1_6, f1_6⟩ := cf hb1 (w.heap.size + 1) 3 (.int .u64 0)
  obtain ⟨c1_7, f1_7⟩ := cf hb1 (w.heap.size + 1) 4 (.string { data := #[] })
  obtain ⟨c1_8, f1_8⟩ := cf hb1 (w.heap.size + 1) 5 (.string { data := #[] })
  obtain ⟨c1_9, f1_9⟩ := cf hb1 (w.heap.size + 1) 6 (.int .i64 0)
  obtain ⟨c1_10, f1_10⟩ := cf hb1 (w.heap.size + 1) 7 (.slice none 0 0)
  obtain ⟨c1_11, f1_11⟩ := cf hb1 (w.heap.size + 1) 8 (.slice none 0 0)
  obtain ⟨c1_12, f1_12⟩ := cf hb1 (w.heap.size + 1 + 1) 0 (.int .i64 0)
  obtain ⟨c1_13, f1_13⟩ := cf hb1 (w.heap.size + 1 + 1) 1 (.int .i64 0)
  obtain ⟨c1_14, f1_14⟩ := cf hb1 (w.heap.size + 1 + 1) 2 (.slice none 0 0)
  have hl1_0 := ltB hb1 w.heap.size
  have hl1_1 := ltB hb1 (w.heap.size + 1)
  have hl1_2 := ltB hb1 (w.heap.size + 1 + 1)
  have hw1 := bwB hb1 w.heap.size w
  have hz1 := hw1.size
  clear hb1
  go_wp2_with fail
  with_reducible refine (HD.out _ ?h2).mono ?_
  case h2 => exact HB.out.beyond bel
  rintro e w2 ⟨⟨s, rfl, hk⟩, hb2⟩
  have hk2 := Lib.hid (hk.mono (Q' := fun b => w.heap.size + 1 + 1 < b) (fun b hb _ => by first | omega | (simp at hb; omega)))
  clear hk
  obtain ⟨sa, sc, rfl⟩ : ∃ ad c, s = .slice ad 1 c := hk2.out.slice
  obtain ⟨c2_0, f2_0⟩ := cf hb2 w.heap.size 0 (.int .i64 200)
  obtain ⟨c2_1, f2_1⟩ := cf hb2 w.heap.size 1 (.int .i64 65536)
  obtain ⟨c2_2, f2_2⟩ := cf hb2 w.heap.size 2 (.int .i64 262144)
  obtain ⟨c2_3, f2_3⟩ := cf hb2 (w.heap.size + 1) 0 (.int .i64 0)
  obtain ⟨c2_4, f2_4⟩ := cf hb2 (w.heap.size + 1) 1 (.int .u64 0)
  obtain ⟨c2_5, f2_5⟩ := cf hb2 (w.heap.size + 1) 2 (.int .u64 0)
  obtain ⟨c2_6, f2_6⟩ := cf hb2 (w.heap.size + 1) 3 (.int .u64 0)
  obtain ⟨c2_7, f2_7⟩ := cf hb2 (w.heap.size + 1) 4 (.string { data := #[] })
  obtain ⟨c2_8, f2_8⟩ := cf hb2 (w.heap.size + 1) 5 (.string { data := #[] })
  obtain ⟨c2_9, f2_9⟩ := cf hb2 (w.heap.size + 1) 6 (.int .i64 0)
  obtain ⟨c2_10, f2_10⟩ := cf hb2 (w.heap.size + 1) 7 (.slice none 0 0)
  obtain ⟨c2_11, f2_11⟩ := cf hb2 (w.heap.size + 1) 8 (.slice none 0 0)
  obtain ⟨c2_12, f2_12⟩ := cf hb2 (w.heap.size + 1 + 1) 0 (.int .i64 0)
  obtain ⟨c2_13, f2_13⟩ := cf hb2 (w.heap.size + 1 + 1) 1 (.int .i64 0)
  obtain ⟨c2_14, f2_14⟩ := cf hb2 (w.heap.size + 1 + 1) 2 (.slice none 0 0)
  have hl2_0 := ltB hb2 w.heap.size
  have hl2_1 := ltB hb2 (w.heap.size + 1)
  have hl2_2 := ltB hb2 (w.heap.size + 1 + 1)
  have hw2 := bwB hb2 w.heap.size w
  have hz2 := hw2.size
  clear hb2
  go_wp2_with fail
  with_reducible refine (HF.out (fun b => w.heap.size + 1 + 1 < b) _ _ ?h3).mono ?_
  case h3 => exact ⟨.slice none 0 0, _, rfl, By.nil _ _, hk2.out.beyond bel⟩
  rintro e w3 ⟨rfl, hb3⟩
  have hb23 := bwB hb3 w2.heap.size w2
  have hk3 := Lib.hid (hk2.out.beyond hb23)
  obtain ⟨c3_0, f3_0⟩ := cf hb3 (w.heap.size + 1) 0 (.int .i64 0)
  obtain ⟨c3_1, f3_1⟩ := cf hb3 (w.heap.size + 1) 1 (.int .u64 0)
  obtain ⟨c3_2, f3_2⟩ := cf hb3 (w.heap.size + 1) 2 (.int .u64 0)
  obtain ⟨c3_3, f3_3⟩ := cf hb3 (w.heap.size + 1) 3 (.int .u64 0)
  obtain ⟨c3_4, f3_4⟩ := cf hb3 (w.heap.size + 1) 4 (.string { data := #[] })
  obtain ⟨c3_5, f3_5⟩ := cf hb3 (w.heap.size + 1) 5 (.string { data := #[] })
  obtain ⟨c3_6, f3_6⟩ := cf hb3 (w.heap.size + 1) 6 (.int .i64 0)
  obtain ⟨c3_7, f3_7⟩ := cf hb3 (w.heap.size + 1) 7 (.slice none 0 0)
  obtain ⟨c3_8, f3_8⟩ := cf hb3 (w.heap.size + 1) 8 (.slice none 0 0)
  obtain ⟨c3_9, f3_9⟩ := cf hb3 (w.heap.size + 1 + 1) 0 (.int .i64 0)
  obtain ⟨c3_10, f3_10⟩ := cf hb3 (w.heap.size + 1 + 1) 1 (.int .i64 0)
  obtain ⟨c3_11, f3_11⟩ := cf hb3 (w.heap.size + 1 + 1) 2 (.slice none 0 0)
  obtain ⟨c3_12, f3_12⟩ := cf hb3 w2.heap.size 0 (.int .i64 3)
  obtain ⟨c3_13, f3_13⟩ := cf hb3 w2.heap.size 1 (.int .u64 0)
  obtain ⟨c3_14, f3_14⟩ := cf hb3 w2.heap.size 2 (.int .u64 0)
  obtain ⟨c3_15, f3_15⟩ := cf hb3 w2.heap.size 3 (.int .u64 0)
  obtain ⟨c3_16, f3_16⟩ := cf hb3 w2.heap.size 4 (.string { data := #[] })
  obtain ⟨c3_17, f3_17⟩ := cf hb3 w2.heap.size 5 (.string { data := #[] })
  obtain ⟨c3_18, f3_18⟩ := cf hb3 w2.heap.size 6 (.int .i64 0)
  obtain ⟨c3_19, f3_19⟩ := cf hb3 w2.heap.size 7 (.slice none 0 0)
  obtain ⟨c3_20, f3_20⟩ := cf hb3 w2.heap.size 8 (.slice sa 1 sc)
  have hl3_0 := ltB hb3 (w.heap.size + 1)
  have hl3_1 := ltB hb3 (w.heap.size + 1 + 1)
  have hl3_2 := ltB hb3 w2.heap.size
  have hw3 := bwB hb3 w.heap.size w
  have hz3 := hw3.size
  clear hb3
  go_wp2_with fail
  refine bodyPost_ret (v := .tuple #[.agg #[.int .i64 3, .int .u64 0, .int .u64 0, .int .u64 0, .string { data := #[] }, .string { data := #[] }, .int .i64 0, .slice none 0 0, .slice sa 1 sc], .agg #[.int .i64 0, .int .i64 0, .slice none 0 0]]) (by simp (maxDischargeDepth := 4) [results, Tryz.results10, go_sem, c3_0, f3_0, c3_1, f3_1, c3_2, f3_2, c3_3, f3_3, c3_4, f3_4, c3_5, f3_5, c3_6, f3_6, c3_7, f3_7, c3_8, f3_8, c3_9, f3_9, c3_10, f3_10, c3_11, f3_11, c3_12, f3_12, c3_13, f3_13, c3_14, f3_14, c3_15, f3_15, c3_16, f3_16, c3_17, f3_17, c3_18, f3_18, c3_19, f3_19, c3_20, f3_20]) rfl ?_
  refine ⟨⟨_, rfl, (hk3.out.keeps ?_).mono (fun b hb _ => by omega)⟩, bel⟩
  repeat' (first | (with_reducible assumption) | (with_reducible exact Keeps.refl _ _) | (with_reducible refine keeps_drew ?_) | (with_reducible refine keeps_set ?_ (by dsimp only; omega) _) | (with_reducible refine keeps_alloc ?_ _))
theorem write_4 (Q : Nat → Prop) (ad : Option Addr) (ac : Nat) (w : World) (h : Is .V Q w 1 (vD iKids) (.agg #[.int .i64 3, .int .u64 0, .int .u64 0, .int .u64 0, .string { data := #[] }, .string { data := #[] }, .int .i64 0, .slice none 0 0, .slice ad 1 ac])) : Calls Tryz.prog 11 #[.int .i64 4, .agg #[.int .i64 200, .int .i64 65536, .int .i64 262144], .agg #[.int .i64 3, .int .u64 0, .int .u64 0, .int .u64 0, .string { data := #[] }, .string { data := #[] }, .int .i64 0, .slice none 0 0, .slice ad 1 ac]] w fun e w' => (∃ g c2, e = .returned (.tuple #[.slice (some ⟨g, 0, none⟩) 4 c2, .slice none 0 0, .agg #[.int .i64 0, .int .i64 0, .slice none 0 0]]) ∧ Bs w' g 0 cborL ∧ w.heap.size ≤ g) ∧ Below w.heap.size w w' := by
  have HM := Lib.hid may_4
  have HLd : Hid (∀ w, Is .V Q w 1 (vD iKids) (.agg #[.int .i64 3, .int .u64 0, .int .u64 0, .int .u64 0, .string { data := #[] }, .string { data := #[] }, .int .i64 0, .slice none 0 0, .slice ad 1 ac]) → Calls Tryz.prog 27 #[.int .i64 4, .agg #[.int .i64 3, .int .u64 0, .int .u64 0, .int .u64 0, .string { data := #[] }, .string { data := #[] }, .int .i64 0, .slice none 0 0, .slice ad 1 ac]] w fun e w' => (∃ g c2, e = .returned (.tuple #[.slice (some ⟨g, 0, none⟩) 4 c2, .agg #[.int .i64 0, .int .i64 0, .slice none 0 0]]) ∧ Bs w' g 0 cborL ∧ w.heap.size ≤ g) ∧ Below w.heap.size w w') := Lib.hid (fun w h => laid_4 Q none ad 0 ac w h)
  have HK := Lib.hid h
  clear h
  go_enter Tryz.func11, Tryz.ntmps11
  go_wp2_with fail
  with_reducible refine (HM.out _).mono ?_
  rintro e w1 ⟨rfl, hb1⟩
  obtain ⟨c1_0, f1_0⟩ := cf hb1 w.heap.size 0 (.int .i64 200)
  obtain ⟨c1_1, f1_1⟩ := cf hb1 w.heap.size 1 (.int .i64 65536)
  obtain ⟨c1_2, f1_2⟩ := cf hb1 w.heap.size 2 (.int .i64 262144)
  obtain ⟨c1_3, f1_3⟩ := cf hb1 (w.heap.size + 1) 0 (.int .i64 3)
  obtain ⟨c1_4, f1_4⟩ := cf hb1 (w.heap.size + 1) 1 (.int .u64 0)
  obtain ⟨c1_5, f1_5⟩ := cf hb1 (w.heap.size + 1) 2 (.int .u64 0)
  obtain ⟨c1_6, f1_6⟩ := cf hb1 (w.heap.size + 1) 3 (.int .u64 0)
  obtain ⟨c1_7, f1_7⟩ := cf hb1 (w.heap.size + 1) 4 (.string { data := #[] })
  obtain ⟨c1_8, f1_8⟩ := cf hb1 (w.heap.size + 1) 5 (.string { data := #[] })
  obtain ⟨c1_9, f1_9⟩ := cf hb1 (w.heap.size + 1) 6 (.int .i64 0)
  obtain ⟨c1_10, f1_10⟩ := cf hb1 (w.heap.size + 1) 7 (.slice none 0 0)
  obtain ⟨c1_11, f1_11⟩ := cf hb1 (w.heap.size + 1) 8 (.slice ad 1 ac)
  obtain ⟨c1_12, f1_12⟩ := cf hb1 (w.heap.size + 1 + 1) 0 (.int .i64 0)
  obtain ⟨c1_13, f1_13⟩ := cf hb1 (w.heap.size + 1 + 1) 1 (.int .i64 0)
  obtain ⟨c1_14, f1_14⟩ := cf hb1 (w.heap.size + 1 + 1) 2 (.slice none 0 0)
  have hl1_0 := ltB hb1 w.heap.size
  have hl1_1 := ltB hb1 (w.heap.size + 1)
  have hl1_2 := ltB hb1 (w.heap.size + 1 + 1)
  have hw1 := bwB hb1 w.heap.size w
  have hz1 := hw1.size
  clear hb1
  go_wp2_with fail
  with_reducible refine (HLd.out _ ?h2).mono ?_
  case h2 => exact HK.out.beyond bel
  rintro e w2 ⟨⟨g, c2, rfl, hbs, hgl⟩, hb2⟩
  have hb2' := Lib.hid hbs
  have hgl' : w.heap.size + 1 + 1 < g := by first | omega | (simp at hgl; omega)
  clear hgl hbs
  obtain ⟨c2_0, f2_0⟩ := cf hb2 w.heap.size 0 (.int .i64 200)
  obtain ⟨c2_1, f2_1⟩ := cf hb2 w.heap.size 1 (.int .i64 65536)
  obtain ⟨c2_2, f2_2⟩ := cf hb2 w.heap.size 2 (.int .i64 262144)
  obtain ⟨c2_3, f2_3⟩ := cf hb2 (w.heap.size + 1) 0 (.int .i64 3)
  obtain ⟨c2_4, f2_4⟩ := cf hb2 (w.heap.size + 1) 1 (.int .u64 0)
  obtain ⟨c2_5, f2_5⟩ := cf hb2 (w.heap.size + 1) 2 (.int .u64 0)
  obtain ⟨c2_6, f2_6⟩ := cf hb2 (w.heap.size + 1) 3 (.int .u64 0)
  obtain ⟨c2_7, f2_7⟩ := cf hb2 (w.heap.size + 1) 4 (.string { data := #[] })
  obtain ⟨c2_8, f2_8⟩ := cf hb2 (w.heap.size + 1) 5 (.string { data := #[] })
  obtain ⟨c2_9, f2_9⟩ := cf hb2 (w.heap.size + 1) 6 (.int .i64 0)
  obtain ⟨c2_10, f2_10⟩ := cf hb2 (w.heap.size + 1) 7 (.slice none 0 0)
  obtain ⟨c2_11, f2_11⟩ := cf hb2 (w.heap.size + 1) 8 (.slice ad 1 ac)
  obtain ⟨c2_12, f2_12⟩ := cf hb2 (w.heap.size + 1 + 1) 0 (.int .i64 0)
  obtain ⟨c2_13, f2_13⟩ := cf hb2 (w.heap.size + 1 + 1) 1 (.int .i64 0)
  obtain ⟨c2_14, f2_14⟩ := cf hb2 (w.heap.size + 1 + 1) 2 (.slice none 0 0)
  have hl2_0 := ltB hb2 w.heap.size
  have hl2_1 := ltB hb2 (w.heap.size + 1)
  have hl2_2 := ltB hb2 (w.heap.size + 1 + 1)
  have hw2 := bwB hb2 w.heap.size w
  have hz2 := hw2.size
  clear hb2
  go_wp2_with fail
  refine bodyPost_ret (v := .tuple #[.slice (some ⟨g, 0, none⟩) 4 c2, .slice none 0 0, .agg #[.int .i64 0, .int .i64 0, .slice none 0 0]]) (by simp (maxDischargeDepth := 4) [results, Tryz.results11, go_sem, hl2_0, hl2_1, hl2_2, c2_12, f2_12, c2_13, f2_13, c2_14, f2_14]) rfl ?_
  refine ⟨⟨_, _, rfl, ?_, by omega⟩, bel⟩
  repeat' (first | (with_reducible refine Bs.set ?_ (by dsimp only; omega) _) | (with_reducible refine Bs.drew ?_) | (with_reducible refine Bs.alloc ?_ _) | (with_reducible exact hb2'.out))
theorem trans_24 (b c : Nat) (w : World) (h : Bs w b 0 canL) : Calls Tryz.prog 9 #[.int .i64 2, .int .i64 4, .agg #[.int .i64 200, .int .i64 65536, .int .i64 262144], .slice (some ⟨b, 0, none⟩) 24 c] w fun e w' => (∃ g c2, e = .returned (.tuple #[.slice (some ⟨g, 0, none⟩) 4 c2, .slice none 0 0, .agg #[.int .i64 0, .int .i64 0, .slice none 0 0]]) ∧ Bs w' g 0 cborL ∧ w.heap.size ≤ g) ∧ Below w.heap.size w w' := by
  have HM1 := Lib.hid may_2
  have HM2 := Lib.hid may_4
  have HR := Lib.hid (fun w h => read_2 b c w h)
  have HW : Hid (∀ (ad : Option Addr) (ac : Nat) (w' : World), Is .V (fun b => w.heap.size + 1 < b) w' 1 (vD iKids) (.agg #[.int .i64 3, .int .u64 0, .int .u64 0, .int .u64 0, .string { data := #[] }, .string { data := #[] }, .int .i64 0, .slice none 0 0, .slice ad 1 ac]) → Calls Tryz.prog 11 #[.int .i64 4, .agg #[.int .i64 200, .int .i64 65536, .int .i64 262144], .agg #[.int .i64 3, .int .u64 0, .int .u64 0, .int .u64 0, .string { data := #[] }, .string { data := #[] }, .int .i64 0, .slice none 0 0, .slice ad 1 ac]] w' fun e w'' => (∃ g c2, e = .returned (.tuple #[.slice (some ⟨g, 0, none⟩) 4 c2, .slice none 0 0, .agg #[.int .i64 0, .int .i64 0, .slice none 0 0]]) ∧ Bs w'' g 0 cborL ∧ w'.heap.size ≤ g) ∧ Below w'.heap.size w' w'') := Lib.hid (fun ad ac w h => write_4 _ ad ac w h)
  have HB := Lib.hid h
  clear h
  go_enter Tryz.func9, Tryz.ntmps9
  go_wp2_with fail
  with_reducible refine (HM1.out _).mono ?_
  rintro e w1 ⟨rfl, hb1⟩
  obtain ⟨c1_0, f1_0⟩ := cf hb1 w.heap.size 0 (.int .i64 200)
  obtain ⟨c1_1, f1_1⟩ := cf hb1 w.heap.size 1 (.int .i64 65536)
  obtain ⟨c1_2, f1_2⟩ := cf hb1 w.heap.size 2 (.int .i64 262144)
  obtain ⟨c1_3, f1_3⟩ := cf hb1 (w.heap.size + 1) 0 (.int .i64 0)
  obtain ⟨c1_4, f1_4⟩ := cf hb1 (w.heap.size + 1) 1 (.int .i64 0)
  obtain ⟨c1_5, f1_5⟩ := cf hb1 (w.heap.size + 1) 2 (.slice none 0 0)
  have hl1_0 := ltB hb1 w.heap.size
  have hl1_1 := ltB hb1 (w.heap.size + 1)
  have hw1 := bwB hb1 w.heap.size w
  have hz1 := hw1.size
  clear hb1
  go_wp2_with fail
  with_reducible refine (HM2.out _).mono ?_
  rintro e w2 ⟨rfl, hb2⟩
  obtain ⟨c2_0, f2_0⟩ := cf hb2 w.heap.size 0 (.int .i64 200)
  obtain ⟨c2_1, f2_1⟩ := cf hb2 w.heap.size 1 (.int .i64 65536)
  obtain ⟨c2_2, f2_2⟩ := cf hb2 w.heap.size 2 (.int .i64 262144)
  obtain ⟨c2_3, f2_3⟩ := cf hb2 (w.heap.size + 1) 0 (.int .i64 0)
  obtain ⟨c2_4, f2_4⟩ := cf hb2 (w.heap.size + 1) 1 (.int .i64 0)
  obtain ⟨c2_5, f2_5⟩ := cf hb2 (w.heap.size + 1) 2 (.slice none 0 0)
  have hl2_0 := ltB hb2 w.heap.size
  have hl2_1 := ltB hb2 (w.heap.size + 1)
  have hw2 := bwB hb2 w.heap.size w
  have hz2 := hw2.size
  clear hb2
  go_wp2_with fail
  with_reducible refine (HR.out _ ?h3).mono ?_
  case h3 => exact HB.out.beyond bel
  rintro e w3 ⟨⟨s, rfl, hk⟩, hb3⟩
  have hk3 := Lib.hid (hk.mono (Q' := fun b => w.heap.size + 1 < b) (fun b hb _ => by first | omega | (simp at hb; omega)))
  clear hk
  obtain ⟨ad, ac, rfl⟩ : ∃ ad c, s = .slice ad 1 c := hk3.out.slice
  obtain ⟨c3_0, f3_0⟩ := cf hb3 w.heap.size 0 (.int .i64 200)
  obtain ⟨c3_1, f3_1⟩ := cf hb3 w.heap.size 1 (.int .i64 65536)
  obtain ⟨c3_2, f3_2⟩ := cf hb3 w.heap.size 2 (.int .i64 262144)
  obtain ⟨c3_3, f3_3⟩ := cf hb3 (w.heap.size + 1) 0 (.int .i64 0)
  obtain ⟨c3_4, f3_4⟩ := cf hb3 (w.heap.size + 1) 1 (.int .i64 0)
  obtain ⟨c3_5, f3_5⟩ := cf hb3 (w.heap.size + 1) 2 (.slice none 0 0)
  have hl3_0 := ltB hb3 w.heap.size
  have hl3_1 := ltB hb3 (w.heap.size + 1)
  have hw3 := bwB hb3 w.heap.size w
  have hz3 := hw3.size
  clear hb3
  go_wp2_with fail
  with_reducible refine (HW.out _ _ _ ?h4).mono ?_
  case h4 => exact ⟨.slice none 0 0, _, rfl, By.nil _ _, hk3.out.beyond bel⟩
  rintro e w4 ⟨⟨g, c2, rfl, hbs, hgl⟩, hb4⟩
  have hb4' := Lib.hid hbs
  have hgl' : w.heap.size + 1 < g := by first | omega | (simp at hgl; omega)
  clear hgl hbs
  obtain ⟨c4_0, f4_0⟩ := cf hb4 w.heap.size 0 (.int .i64 200)
  obtain ⟨c4_1, f4_1⟩ := cf hb4 w.heap.size 1 (.int .i64 65536)
  obtain ⟨c4_2, f4_2⟩ := cf hb4 w.heap.size 2 (.int .i64 262144)
  obtain ⟨c4_3, f4_3⟩ := cf hb4 (w.heap.size + 1) 0 (.int .i64 0)
  obtain ⟨c4_4, f4_4⟩ := cf hb4 (w.heap.size + 1) 1 (.int .i64 0)
  obtain ⟨c4_5, f4_5⟩ := cf hb4 (w.heap.size + 1) 2 (.slice none 0 0)
  have hl4_0 := ltB hb4 w.heap.size
  have hl4_1 := ltB hb4 (w.heap.size + 1)
  have hw4 := bwB hb4 w.heap.size w
  have hz4 := hw4.size
  clear hb4
  go_wp2_with fail
  refine bodyPost_ret (v := .tuple #[.slice (some ⟨g, 0, none⟩) 4 c2, .slice none 0 0, .agg #[.int .i64 0, .int .i64 0, .slice none 0 0]]) (by simp (maxDischargeDepth := 4) [results, Tryz.results9, go_sem, c4_3, f4_3, c4_4, f4_4, c4_5, f4_5]) rfl ?_
  refine ⟨⟨_, _, rfl, ?_, by omega⟩, bel⟩
  repeat' (first | (with_reducible refine Bs.set ?_ (by dsimp only; omega) _) | (with_reducible refine Bs.drew ?_) | (with_reducible refine Bs.alloc ?_ _) | (with_reducible exact hb4'.out))
theorem trans_43 (b c : Nat) (w : World) (h : Bs w b 0 cborL) : Calls Tryz.prog 9 #[.int .i64 4, .int .i64 3, .agg #[.int .i64 200, .int .i64 65536, .int .i64 262144], .slice (some ⟨b, 0, none⟩) 4 c] w fun e w' => (∃ g c2, e = .returned (.tuple #[.slice (some ⟨g, 0, none⟩) 7 c2, .slice none 0 0, .agg #[.int .i64 0, .int .i64 0, .slice none 0 0]]) ∧ Bs w' g 0 relL ∧ w.heap.size ≤ g) ∧ Below w.heap.size w w' := by
  have HM1 := Lib.hid may_4
  have HM2 := Lib.hid may_3
  have HR := Lib.hid (fun w h => read_4 b c w h)
  have HW : Hid (∀ (ad : Option Addr) (ac : Nat) (w' : World), Is .V (fun b => w.heap.size + 1 < b) w' 1 (vD iKids) (.agg #[.int .i64 3, .int .u64 0, .int .u64 0, .int .u64 0, .string { data := #[] }, .string { data := #[] }, .int .i64 0, .slice none 0 0, .slice ad 1 ac]) → Calls Tryz.prog 11 #[.int .i64 3, .agg #[.int .i64 200, .int .i64 65536, .int .i64 262144], .agg #[.int .i64 3, .int .u64 0, .int .u64 0, .int .u64 0, .string { data := #[] }, .string { data := #[] }, .int .i64 0, .slice none 0 0, .slice ad 1 ac]] w' fun e w'' => (∃ g c2, e = .returned (.tuple #[.slice (some ⟨g, 0, none⟩) 7 c2, .slice none 0 0, .agg #[.int .i64 0, .int .i64 0, .slice none 0 0]]) ∧ Bs w'' g 0 relL ∧ w'.heap.size ≤ g) ∧ Below w'.heap.size w' w'') := Lib.hid (fun ad ac w h => write_3 _ ad ac w h)
  have HB := Lib.hid h
  clear h
  go_enter Tryz.func9, Tryz.ntmps9
  go_wp2_with fail
  with_reducible refine (HM1.out _).mono ?_
  rintro e w1 ⟨rfl, hb1⟩
  obtain ⟨c1_0, f1_0⟩ := cf hb1 w.heap.size 0 (.int .i64 200)
  obtain ⟨c1_1, f1_1⟩ := cf hb1 w.heap.size 1 (.int .i64 65536)
  obtain ⟨c1_2, f1_2⟩ := cf hb1 w.heap.size 2 (.int .i64 262144)
  obtain ⟨c1_3, f1_3⟩ := cf hb1 (w.heap.size + 1) 0 (.int .i64 0)
  obtain ⟨c1_4, f1_4⟩ := cf hb1 (w.heap.size + 1) 1 (.int .i64 0)
  obtain ⟨c1_5, f1_5⟩ := cf hb1 (w.heap.size + 1) 2 (.slice none 0 0)
  have hl1_0 := ltB hb1 w.heap.size
  have hl1_1 := ltB hb1 (w.heap.size + 1)
  have hw1 := bwB hb1 w.heap.size w
  have hz1 := hw1.size
  clear hb1
  go_wp2_with fail
  with_reducible refine (HM2.out _).mono ?_
  rintro e w2 ⟨rfl, hb2⟩
  obtain ⟨c2_0, f2_0⟩ := cf hb2 w.heap.size 0 (.int .i64 200)
  obtain ⟨c2_1, f2_1⟩ := cf hb2 w.heap.size 1 (.int .i64 65536)
  obtain ⟨c2_2, f2_2⟩ := cf hb2 w.heap.size 2 (.int .i64 262144)
  obtain ⟨c2_3, f2_3⟩ := cf hb2 (w.heap.size + 1) 0 (.int .i64 0)
  obtain ⟨c2_4, f2_4⟩ := cf hb2 (w.heap.size + 1) 1 (.int .i64 0)
  obtain ⟨c2_5, f2_5⟩ := cf hb2 (w.heap.size + 1) 2 (.slice none 0 0)
  have hl2_0 := ltB hb2 w.heap.size
  have hl2_1 := ltB hb2 (w.heap.size + 1)
  have hw2 := bwB hb2 w.heap.size w
  have hz2 := hw2.size
  clear hb2
  go_wp2_with fail
  with_reducible refine (HR.out _ ?h3).mono ?_
  case h3 => exact HB.out.beyond bel
  rintro e w3 ⟨⟨s, rfl, hk⟩, hb3⟩
  have hk3 := Lib.hid (hk.mono (Q' := fun b => w.heap.size + 1 < b) (fun b hb _ => by first | omega | (simp at hb; omega)))
  clear hk
  obtain ⟨ad, ac, rfl⟩ : ∃ ad c, s = .slice ad 1 c := hk3.out.slice
  obtain ⟨c3_0, f3_0⟩ := cf hb3 w.heap.size 0 (.int .i64 200)
  obtain ⟨c3_1, f3_1⟩ := cf hb3 w.heap.size 1 (.int .i64 65536)
  obtain ⟨c3_2, f3_2⟩ := cf hb3 w.heap.size 2 (.int .i64 262144)
  obtain ⟨c3_3, f3_3⟩ := cf hb3 (w.heap.size + 1) 0 (.int .i64 0)
  obtain ⟨c3_4, f3_4⟩ := cf hb3 (w.heap.size + 1) 1 (.int .i64 0)
  obtain ⟨c3_5, f3_5⟩ := cf hb3 (w.heap.size + 1) 2 (.slice none 0 0)
  have hl3_0 := ltB hb3 w.heap.size
  have hl3_1 := ltB hb3 (w.heap.size + 1)
  have hw3 := bwB hb3 w.heap.size w
  have hz3 := hw3.size
  clear hb3
  go_wp2_with fail
  with_reducible refine (HW.out _ _ _ ?h4).mono ?_
  case h4 => exact ⟨.slice none 0 0, _, rfl, By.nil _ _, hk3.out.beyond bel⟩
  rintro e w4 ⟨⟨g, c2, rfl, hbs, hgl⟩, hb4⟩
  have hb4' := Lib.hid hbs
  have hgl' : w.heap.size + 1 < g := by first | omega | (simp at hgl; omega)
  clear hgl hbs
  obtain ⟨c4_0, f4_0⟩ := cf hb4 w.heap.size 0 (.int .i64 200)
  obtain ⟨c4_1, f4_1⟩ := cf hb4 w.heap.size 1 (.int .i64 65536)
  obtain ⟨c4_2, f4_2⟩ := cf hb4 w.heap.size 2 (.int .i64 262144)
  obtain ⟨c4_3, f4_3⟩ := cf hb4 (w.heap.size + 1) 0 (.int .i64 0)
  obtain ⟨c4_4, f4_4⟩ := cf hb4 (w.heap.size + 1) 1 (.int .i64 0)
  obtain ⟨c4_5, f4_5⟩ := cf hb4 (w.heap.size + 1) 2 (.slice none 0 0)
  have hl4_0 := ltB hb4 w.heap.size
  have hl4_1 := ltB hb4 (w.heap.size + 1)
  have hw4 := bwB hb4 w.heap.size w
  have hz4 := hw4.size
  clear hb4
  go_wp2_with fail
  refine bodyPost_ret (v := .tuple #[.slice (some ⟨g, 0, none⟩) 7 c2, .slice none 0 0, .agg #[.int .i64 0, .int .i64 0, .slice none 0 0]]) (by simp (maxDischargeDepth := 4) [results, Tryz.results9, go_sem, c4_3, f4_3, c4_4, f4_4, c4_5, f4_5]) rfl ?_
  refine ⟨⟨_, _, rfl, ?_, by omega⟩, bel⟩
  repeat' (first | (with_reducible refine Bs.set ?_ (by dsimp only; omega) _) | (with_reducible refine Bs.drew ?_) | (with_reducible refine Bs.alloc ?_ _) | (with_reducible exact hb4'.out))
end
section
open Go.RowKit
theorem limits_b (w : World) : Calls Tryz.prog 8 #[] w fun e w' => e = .returned (.agg #[.int .i64 200, .int .i64 65536, .int .i64 262144]) ∧ Below w.heap.size w w' := by
  go_enter Tryz.func8, Tryz.ntmps8
  go_wp2_with fail
  refine bodyPost_ret (v := .agg #[.int .i64 200, .int .i64 65536, .int .i64 262144]) (by simp (maxDischargeDepth := 4) [results, Tryz.results8, go_sem]) rfl ?_
  exact ⟨rfl, bel⟩
theorem bs_new (w : World) (l : List UInt8) (t : TypeId) (cs : Array Value) (h : cs = (cel l).toArray) : Bs (w.alloc (.cells cs t)) w.heap.size 0 l := by
  refine ⟨by simp, fun j x hj => ?_⟩
  rw [cell_of_row _ _ _ _ _ _ (heap_alloc_last w _), h, Nat.zero_add]
  simp [cel, hj]
theorem awake_top (w : World) : Calls Tryz.prog 7 #[] w fun e w' => e = .returned (.bool true) ∧ Below w.heap.size w w' := by
  have HL := Lib.hid limits_b
  have H1 := Lib.hid (fun b c (hc : 12 ≤ c) w h => trans_12 b c hc w h)
  have H2 := Lib.hid (fun b c w h => trans_24 b c w h)
  have H3 := Lib.hid (fun b c w h => trans_43 b c w h)
  go_enter Tryz.func7, Tryz.ntmps7
  go_wp2_with fail
  with_reducible refine (HL.out _).mono ?_
  rintro e w1 ⟨rfl, hb1⟩
  have hw1 := bwB hb1 w.heap.size w
  have hB0 : Bs w1 w.heap.size 0 bsonL := (bs_new w bsonL _ _ (by rfl)).beyond hb1
  have HB0 := Lib.hid hB0
  clear hB0 hb1
  go_wp2_with fail
  with_reducible refine (H1.out _ _ (by decide) _ ?q2).mono ?_
  case q2 => exact HB0.out
  rintro e w2 ⟨⟨g1, c1, rfl, hbs2, hge2⟩, hb2⟩
  have hw2 : Below w.heap.size w w2 := hw1.trans (hb2.mono hw1.size)
  have hz2 := hb2.size
  have HB1 := Lib.hid hbs2
  clear hbs2
  go_wp2_with fail
  with_reducible refine (HL.out _).mono ?_
  rintro e w3 ⟨rfl, hb3⟩
  have hv3 := bwB hb3 w2.heap.size w2
  have hs3 : w2.heap.size < w3.heap.size := by have := hb3.size; simp at this; omega
  have p3_w2 := cB hb3 w2.heap.size 0 (.int .i64 0)
  have hw3 : Below w.heap.size w w3 := hw2.trans (hv3.mono hw2.size)
  have HB1' := Lib.hid (HB1.out.beyond hv3)
  clear hb3
  go_wp2_with fail
  with_reducible refine (H2.out _ _ _ ?q4).mono ?_
  case q4 => exact HB1'.out
  rintro e w4 ⟨⟨g2, c2, rfl, hbs4, hge4⟩, hb4⟩
  have hw4 : Below w.heap.size w w4 := hw3.trans (hb4.mono hw3.size)
  have hz4 := hb4.size
  have p4_w2 := cT hb4 p3_w2
  have HB1b := Lib.hid (HB1'.out.beyond hb4)
  have HB2 := Lib.hid hbs4
  clear hbs4
  go_wp2_with fail
  with_reducible refine (HL.out _).mono ?_
  rintro e w5 ⟨rfl, hb5⟩
  have hv5 := bwB hb5 w4.heap.size w4
  have hs5 : w4.heap.size < w5.heap.size := by have := hb5.size; simp at this; omega
  have p5_w4 := cB hb5 w4.heap.size 0 (.int .i64 0)
  have hw5 : Below w.heap.size w w5 := hw4.trans (hv5.mono hw4.size)
  have p5_w2 := cT hv5 p4_w2
  have HB1c := Lib.hid (HB1b.out.beyond hv5)
  have HB2c := Lib.hid (HB2.out.beyond hv5)
  clear hb5
  go_wp2_with fail
  with_reducible refine (H3.out _ _ _ ?q6).mono ?_
  case q6 => exact HB2c.out
  rintro e w6 ⟨⟨g3, c3, rfl, hbs6, hge6⟩, hb6⟩
  have hw6 : Below w.heap.size w w6 := hw5.trans (hb6.mono hw5.size)
  have hz6 := hb6.size
  have p6_w2 := cT hb6 p5_w2
  have p6_w4 := cT hb6 p5_w4
  have HB1d := Lib.hid (HB1c.out.beyond hb6)
  have HB2d := Lib.hid (HB2c.out.beyond hb6)
  have HB3 := Lib.hid hbs6
  clear hbs6
  go_upto_region 5 with fail
  obtain ⟨x, hx⟩ : ∃ X, X = w6.alloc (Obj.cells #[.int .i64 0, .int .i64 0, .slice none 0 0] 33) := ⟨_, rfl⟩
  rw [← hx]
  have hbx : Below w6.heap.size w6 x := by rw [hx]; exact bel
  have px6 : x.cell? ⟨w6.heap.size, 0, none⟩ = some (.int .i64 0) := by rw [hx]; simp [go_sem]
  have px4 := cT hbx p6_w4
  have px2 := cT hbx p6_w2
  have hcv1 : (convert 24 9 (.slice (some ⟨g1, 0, none⟩) 24 c1)).run Tryz.prog x = .ok (.string { data := #[123, 34, 97, 34, 58, 123, 34, 36, 110, 117, 109, 98, 101, 114, 73, 110, 116, 34, 58, 34, 49, 34, 125, 125] }) x := (HB1d.out.beyond hbx).conv rfl
  have hcv2 : (convert 24 9 (.slice (some ⟨g2, 0, none⟩) 4 c2)).run Tryz.prog x = .ok (.string { data := #[161, 97, 97, 1] }) x := (HB2d.out.beyond hbx).conv rfl
  have hcv3 : (convert 24 9 (.slice (some ⟨g3, 0, none⟩) 7 c3)).run Tryz.prog x = .ok (.string { data := #[123, 34, 97, 34, 58, 49, 125] }) x := (HB3.out.beyond hbx).conv rfl
  have hwx : Below w.heap.size w x := hw6.trans (hbx.mono hw6.size)
  clear hx
  go_wp2_with fail
  go_ret
  exact ⟨rfl, hwx⟩
end
end Go.Proofs.YtihnfhhopldllaaGreatDoor
