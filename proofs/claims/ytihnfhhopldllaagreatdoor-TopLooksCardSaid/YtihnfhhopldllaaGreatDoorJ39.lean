/- Parts of the proof of TopLooks: U73. No condition. -/
import Derived.Test.YtihnfhhopldllaaGreatDoorJ1
import Derived.Test.YtihnfhhopldllaaGreatDoorJ27
import Derived.Test.YtihnfhhopldllaaGreatDoorJ36
namespace Go.Proofs.YtihnfhhopldllaaGreatDoor
set_option linter.unusedSimpArgs false
set_option linter.unusedVariables false
set_option maxHeartbeats 6400000
set_option maxRecDepth 100000
section
open Go.RowKit
theorem doc_b (r b c : Nat) (w : World) (h : BinR w r b c) : Calls Tryz.prog 43 #[.pointer (some ⟨r, 0, none⟩), .int .i64 0, .int .i64 12, .int .i64 0, .int .i64 1] w fun e w' => (∃ s, e = .returned (.tuple #[s, .int .i64 12, .agg #[.int .i64 0, .int .i64 0, .slice none 0 0]]) ∧ Kd .V (fun b => w.heap.size ≤ b) w' 1 [([97], vI)] s) ∧ Below w.heap.size w w' := by
  have HL := Lib.hid (fun w h => length_0 r b c w h)
  have HV := Lib.hid (fun w h => value_16 r b c w h)
  have h12 := h.2.2
  have HC := Lib.hid (fun w (h : Bs w b 0 bsonL) => ctext_a b c h12 w h)
  have HN := Lib.hid name_16
  have HB := Lib.hid h
  obtain ⟨r0, r1⟩ := h.cells
  have hr := h.lt
  have hbl := h.2.1.1
  have hb0 : b ≠ w.heap.size := by omega
  have hb1' : b ≠ w.heap.size + 1 := by omega
  have hr0 : r ≠ w.heap.size := by omega
  have hr1' : r ≠ w.heap.size + 1 := by omega
  obtain ⟨i0, hi, iz0, iz1, iz2⟩ := hi_field
  clear h
  go_enter Tryz.func43, Tryz.ntmps43
  go_wp2_with fail
  refine wp_scope_all (fun l' a' w' => match l' with
    | 0 => ∃ s, (BinR w' r b c ∧ (w'.cell? ⟨w.heap.size, 0, none⟩ = some (.int .i64 0) ∧ w'.frozen? ⟨w.heap.size, 0, none⟩ = false ∧ w'.cell? ⟨w.heap.size, 1, none⟩ = some (.int .i64 0) ∧ w'.frozen? ⟨w.heap.size, 1, none⟩ = false ∧ w'.cell? ⟨w.heap.size, 2, none⟩ = some (.slice none 0 0) ∧ w'.frozen? ⟨w.heap.size, 2, none⟩ = false) ∧ Kd .V (fun b => w.heap.size + 1 < b) w' 1 [([97], vI)] s ∧ Below w.heap.size w w' ∧ w.heap.size + 1 < w'.heap.size) ∧ Fr a' (fun f => #[.pointer (some ⟨r, 0, none⟩), .int .i64 0, .int .i64 12, .int .i64 0, .int .i64 1, f 5, f 6, f 7, f 8, f 9, s, .int .i64 12, .pointer (some ⟨w.heap.size, 0, none⟩), .int .i64 11, f 14, f 15, f 16, .pointer (some ⟨w.heap.size + 1, 0, none⟩), f 18, f 19, f 20, f 21, f 22, f 23, f 24, f 25, f 26, f 27, f 28, f 29, f 30, f 31, f 32, f 33, f 34, f 35, f 36, f 37, f 38, f 39, f 40, f 41, f 42, f 43, f 44, f 45, f 46, f 47, f 48, f 49, f 50, f 51, f 52, f 53, f 54, f 55, f 56, f 57, f 58, f 59, f 60, f 61, f 62, f 63, f 64, f 65, f 66, f 67, f 68, f 69, f 70, f 71, f 72, f 73, f 74, f 75, f 76, f 77, f 78, f 79, f 80, f 81, f 82, f 83, f 84, f 85, f 86, f 87, f 88, f 89, f 90, f 91, f 92, f 93, f 94, f 95, f 96, f 97, f 98, f 99, f 100, f 101, f 102, f 103, f 104, f 105, f 106, f 107, f 108, f 109, f 110, f 111, f 112, f 113, f 114, f 115, f 116, f 117, f 118, f 119, f 120, f 121, f 122, f 123, f 124, f 125, f 126, f 127, f 128, f 129, f 130, f 131, f 132, f 133, f 134, f 135, f 136, f 137, f 138, f 139, f 140, f 141, f 142, f 143, f 144, f 145, f 146, f 147, f 148, f 149, f 150, f 151, f 152])
    | 1 => ∃ s, (BinR w' r b c ∧ (w'.cell? ⟨w.heap.size, 0, none⟩ = some (.int .i64 0) ∧ w'.frozen? ⟨w.heap.size, 0, none⟩ = false ∧ w'.cell? ⟨w.heap.size, 1, none⟩ = some (.int .i64 0) ∧ w'.frozen? ⟨w.heap.size, 1, none⟩ = false ∧ w'.cell? ⟨w.heap.size, 2, none⟩ = some (.slice none 0 0) ∧ w'.frozen? ⟨w.heap.size, 2, none⟩ = false) ∧ Kd .V (fun b => w.heap.size + 1 < b) w' 1 [([97], vI)] s ∧ Below w.heap.size w w' ∧ w.heap.size + 1 < w'.heap.size) ∧ Fr a' (fun f => #[.pointer (some ⟨r, 0, none⟩), .int .i64 0, .int .i64 12, .int .i64 0, .int .i64 1, f 5, f 6, f 7, f 8, f 9, s, .int .i64 12, .pointer (some ⟨w.heap.size, 0, none⟩), .int .i64 11, f 14, f 15, f 16, .pointer (some ⟨w.heap.size + 1, 0, none⟩), f 18, f 19, f 20, f 21, f 22, f 23, f 24, f 25, f 26, f 27, f 28, f 29, f 30, f 31, f 32, f 33, f 34, f 35, f 36, f 37, f 38, f 39, f 40, f 41, f 42, f 43, f 44, f 45, f 46, f 47, f 48, f 49, f 50, f 51, f 52, f 53, f 54, f 55, f 56, f 57, f 58, f 59, f 60, f 61, f 62, f 63, f 64, f 65, f 66, f 67, f 68, f 69, f 70, f 71, f 72, f 73, f 74, f 75, f 76, f 77, f 78, f 79, f 80, f 81, f 82, f 83, f 84, f 85, f 86, f 87, f 88, f 89, f 90, f 91, f 92, f 93, f 94, f 95, f 96, f 97, f 98, f 99, f 100, f 101, f 102, f 103, f 104, f 105, f 106, f 107, f 108, f 109, f 110, f 111, f 112, f 113, f 114, f 115, f 116, f 117, f 118, f 119, f 120, f 121, f 122, f 123, f 124, f 125, f 126, f 127, f 128, f 129, f 130, f 131, f 132, f 133, f 134, f 135, f 136, f 137, f 138, f 139, f 140, f 141, f 142, f 143, f 144, f 145, f 146, f 147, f 148, f 149, f 150, f 151, f 152])
    | _ => False) (fun l' _ _ => l') ?first ?pass
  case first =>
    go_wp2_with fail
    with_reducible refine (HL.out _ ?h1).mono ?_
    case h1 => exact HB.out.beyond bel
    rintro e w1 ⟨rfl, hb1⟩
    obtain ⟨c1_0, f1_0⟩ := cf hb1 w.heap.size 0 (.int .i64 0)
    obtain ⟨c1_1, f1_1⟩ := cf hb1 w.heap.size 1 (.int .i64 0)
    obtain ⟨c1_2, f1_2⟩ := cf hb1 w.heap.size 2 (.slice none 0 0)
    obtain ⟨c1_3, f1_3⟩ := cf hb1 (w.heap.size + 1) 0 (.int .i64 0)
    obtain ⟨c1_4, f1_4⟩ := cf hb1 (w.heap.size + 1) 1 (.int .u64 0)
    obtain ⟨c1_5, f1_5⟩ := cf hb1 (w.heap.size + 1) 2 (.int .u64 0)
    obtain ⟨c1_6, f1_6⟩ := cf hb1 (w.heap.size + 1) 3 (.int .u64 0)
    obtain ⟨c1_7, f1_7⟩ := cf hb1 (w.heap.size + 1) 4 (.string { data := #[] })
    obtain ⟨c1_8, f1_8⟩ := cf hb1 (w.heap.size + 1) 5 (.string { data := #[] })
    obtain ⟨c1_9, f1_9⟩ := cf hb1 (w.heap.size + 1) 6 (.int .i64 0)
    obtain ⟨c1_10, f1_10⟩ := cf hb1 (w.heap.size + 1) 7 (.slice none 0 0)
    obtain ⟨c1_11, f1_11⟩ := cf hb1 (w.heap.size + 1) 8 (.slice none 0 0)
    have hl1_0 := ltB hb1 w.heap.size
    have hl1_1 := ltB hb1 (w.heap.size + 1)
    have hw1 := bwB hb1 w.heap.size w
    have hz1 := hw1.size
    clear hb1
    have HB1 := Lib.hid (HB.out.beyond hw1)
    obtain ⟨q0, q1⟩ := HB1.out.cells
    have hr1 := HB1.out.lt
    have hbyte4 : w1.cell? ⟨b, 4, none⟩ = some (.int .u8 16) := HB1.out.2.1.2 4 16 rfl
    go_wp2_with fail
    go_step3
    go_wp2_with fail
    with_reducible refine (HN.out _).mono ?_
    rintro e w2 ⟨rfl, hb2⟩
    obtain ⟨c2_0, f2_0⟩ := cf hb2 w.heap.size 0 (.int .i64 0)
    obtain ⟨c2_1, f2_1⟩ := cf hb2 w.heap.size 1 (.int .i64 0)
    obtain ⟨c2_2, f2_2⟩ := cf hb2 w.heap.size 2 (.slice none 0 0)
    obtain ⟨c2_3, f2_3⟩ := cf hb2 (w.heap.size + 1) 0 (.int .i64 16)
    obtain ⟨c2_4, f2_4⟩ := cf hb2 (w.heap.size + 1) 1 (.int .u64 0)
    obtain ⟨c2_5, f2_5⟩ := cf hb2 (w.heap.size + 1) 2 (.int .u64 0)
    obtain ⟨c2_6, f2_6⟩ := cf hb2 (w.heap.size + 1) 3 (.int .u64 0)
    obtain ⟨c2_7, f2_7⟩ := cf hb2 (w.heap.size + 1) 4 (.string { data := #[] })
    obtain ⟨c2_8, f2_8⟩ := cf hb2 (w.heap.size + 1) 5 (.string { data := #[] })
    obtain ⟨c2_9, f2_9⟩ := cf hb2 (w.heap.size + 1) 6 (.int .i64 0)
    obtain ⟨c2_10, f2_10⟩ := cf hb2 (w.heap.size + 1) 7 (.slice none 0 0)
    obtain ⟨c2_11, f2_11⟩ := cf hb2 (w.heap.size + 1) 8 (.slice none 0 0)
    have hl2_0 := ltB hb2 w.heap.size
    have hl2_1 := ltB hb2 (w.heap.size + 1)
    have hw2 := bwB hb2 w.heap.size w
    have hz2 := hw2.size
    clear hb2
    have HB2 := Lib.hid (HB.out.beyond hw2)
    obtain ⟨p0, p1⟩ := HB2.out.cells
    have hr2 := HB2.out.lt
    go_wp2_with fail
    with_reducible refine (HC.out _ ?h3).mono ?_
    case h3 => exact HB2.out.2.1
    rintro e w3 ⟨rfl, hb3⟩
    obtain ⟨c3_0, f3_0⟩ := cf hb3 w.heap.size 0 (.int .i64 0)
    obtain ⟨c3_1, f3_1⟩ := cf hb3 w.heap.size 1 (.int .i64 0)
    obtain ⟨c3_2, f3_2⟩ := cf hb3 w.heap.size 2 (.slice none 0 0)
    obtain ⟨c3_3, f3_3⟩ := cf hb3 (w.heap.size + 1) 0 (.int .i64 16)
    obtain ⟨c3_4, f3_4⟩ := cf hb3 (w.heap.size + 1) 1 (.int .u64 0)
    obtain ⟨c3_5, f3_5⟩ := cf hb3 (w.heap.size + 1) 2 (.int .u64 0)
    obtain ⟨c3_6, f3_6⟩ := cf hb3 (w.heap.size + 1) 3 (.int .u64 0)
    obtain ⟨c3_7, f3_7⟩ := cf hb3 (w.heap.size + 1) 4 (.string { data := #[] })
    obtain ⟨c3_8, f3_8⟩ := cf hb3 (w.heap.size + 1) 5 (.string { data := #[] })
    obtain ⟨c3_9, f3_9⟩ := cf hb3 (w.heap.size + 1) 6 (.int .i64 0)
    obtain ⟨c3_10, f3_10⟩ := cf hb3 (w.heap.size + 1) 7 (.slice none 0 0)
    obtain ⟨c3_11, f3_11⟩ := cf hb3 (w.heap.size + 1) 8 (.slice none 0 0)
    have hl3_0 := ltB hb3 w.heap.size
    have hl3_1 := ltB hb3 (w.heap.size + 1)
    have hw3 := bwB hb3 w.heap.size w
    have hz3 := hw3.size
    clear hb3
    have HB3 := Lib.hid (HB.out.beyond hw3)
    obtain ⟨t0, t1⟩ := HB3.out.cells
    have hr3 := HB3.out.lt
    go_wp2_with fail
    with_reducible refine (HV.out _ ?h4).mono ?_
    case h4 => exact HB3.out
    rintro e w4 ⟨rfl, hb4⟩
    obtain ⟨c4_0, f4_0⟩ := cf hb4 w.heap.size 0 (.int .i64 0)
    obtain ⟨c4_1, f4_1⟩ := cf hb4 w.heap.size 1 (.int .i64 0)
    obtain ⟨c4_2, f4_2⟩ := cf hb4 w.heap.size 2 (.slice none 0 0)
    obtain ⟨c4_3, f4_3⟩ := cf hb4 (w.heap.size + 1) 0 (.int .i64 16)
    obtain ⟨c4_4, f4_4⟩ := cf hb4 (w.heap.size + 1) 1 (.int .u64 0)
    obtain ⟨c4_5, f4_5⟩ := cf hb4 (w.heap.size + 1) 2 (.int .u64 0)
    obtain ⟨c4_6, f4_6⟩ := cf hb4 (w.heap.size + 1) 3 (.int .u64 0)
    obtain ⟨c4_7, f4_7⟩ := cf hb4 (w.heap.size + 1) 4 (.string { data := #[] })
    obtain ⟨c4_8, f4_8⟩ := cf hb4 (w.heap.size + 1) 5 (.string { data := #[] })
    obtain ⟨c4_9, f4_9⟩ := cf hb4 (w.heap.size + 1) 6 (.int .i64 0)
    obtain ⟨c4_10, f4_10⟩ := cf hb4 (w.heap.size + 1) 7 (.slice none 0 0)
    obtain ⟨c4_11, f4_11⟩ := cf hb4 (w.heap.size + 1) 8 (.slice none 0 0)
    have hl4_0 := ltB hb4 w.heap.size
    have hl4_1 := ltB hb4 (w.heap.size + 1)
    have hw4 := bwB hb4 w.heap.size w
    have hz4 := hw4.size
    clear hb4
    have HB4 := Lib.hid (HB.out.beyond hw4)
    go_upto_region 25 with fail
    obtain ⟨x, hx⟩ : ∃ X, X = ((((((((((((w4.setCell ⟨w.heap.size + 1, 0, none⟩ (.int .i64 16)).setCell ⟨w.heap.size + 1, 1, none⟩ (.int .u64 1)).setCell ⟨w.heap.size + 1, 2, none⟩ (.int .u64 0)).setCell ⟨w.heap.size + 1, 3, none⟩ (.int .u64 0)).setCell ⟨w.heap.size + 1, 4, none⟩ (.string { data := #[] })).setCell ⟨w.heap.size + 1, 5, none⟩ (.string { data := #[] })).setCell ⟨w.heap.size + 1, 6, none⟩ (.int .i64 0)).setCell ⟨w.heap.size + 1, 7, none⟩ (.slice none 0 0)).setCell ⟨w.heap.size + 1, 8, none⟩ (.slice none 0 0)).setCell ⟨w.heap.size, 0, none⟩ (.int .i64 0)).setCell ⟨w.heap.size, 1, none⟩ (.int .i64 0)).setCell ⟨w.heap.size, 2, none⟩ (.slice none 0 0)) := ⟨_, rfl⟩
    rw [← hx]
    have hkx : Keeps (fun b => b ≠ w.heap.size ∧ b ≠ w.heap.size + 1) w4 x := by
      rw [hx]
      repeat' (first | (with_reducible assumption) | (with_reducible exact Keeps.refl _ _) | (with_reducible refine keeps_drew ?_) | (with_reducible refine keeps_set ?_ (by dsimp only; omega) _) | (with_reducible refine keeps_alloc ?_ _))
    have hsx : x.heap.size = w4.heap.size + 0 := by rw [hx]; simp
    have hwx : Below w.heap.size w x := by
      rw [hx]
      exact bel
    have HBx := Lib.hid (HB4.out.keeps (hkx.mono (fun b hb => by rcases hb with rfl | rfl <;> (constructor <;> omega))))
    have d0 : x.cell? ⟨w.heap.size, 0, none⟩ = some (.int .i64 0) := by rw [hx]; simp [go_sem, c4_0, f4_0, c4_1, f4_1, c4_2, f4_2, c4_3, f4_3, c4_4, f4_4, c4_5, f4_5, c4_6, f4_6, c4_7, f4_7, c4_8, f4_8, c4_9, f4_9, c4_10, f4_10, c4_11, f4_11]
    have df0 : x.frozen? ⟨w.heap.size, 0, none⟩ = false := by rw [hx]; simp [go_sem, c4_0, f4_0, c4_1, f4_1, c4_2, f4_2, c4_3, f4_3, c4_4, f4_4, c4_5, f4_5, c4_6, f4_6, c4_7, f4_7, c4_8, f4_8, c4_9, f4_9, c4_10, f4_10, c4_11, f4_11]
    have d1 : x.cell? ⟨w.heap.size, 1, none⟩ = some (.int .i64 0) := by rw [hx]; simp [go_sem, c4_0, f4_0, c4_1, f4_1, c4_2, f4_2, c4_3, f4_3, c4_4, f4_4, c4_5, f4_5, c4_6, f4_6, c4_7, f4_7, c4_8, f4_8, c4_9, f4_9, c4_10, f4_10, c4_11, f4_11]
    have df1 : x.frozen? ⟨w.heap.size, 1, none⟩ = false := by rw [hx]; simp [go_sem, c4_0, f4_0, c4_1, f4_1, c4_2, f4_2, c4_3, f4_3, c4_4, f4_4, c4_5, f4_5, c4_6, f4_6, c4_7, f4_7, c4_8, f4_8, c4_9, f4_9, c4_10, f4_10, c4_11, f4_11]
    have d2 : x.cell? ⟨w.heap.size, 2, none⟩ = some (.slice none 0 0) := by rw [hx]; simp [go_sem, c4_0, f4_0, c4_1, f4_1, c4_2, f4_2, c4_3, f4_3, c4_4, f4_4, c4_5, f4_5, c4_6, f4_6, c4_7, f4_7, c4_8, f4_8, c4_9, f4_9, c4_10, f4_10, c4_11, f4_11]
    have df2 : x.frozen? ⟨w.heap.size, 2, none⟩ = false := by rw [hx]; simp [go_sem, c4_0, f4_0, c4_1, f4_1, c4_2, f4_2, c4_3, f4_3, c4_4, f4_4, c4_5, f4_5, c4_6, f4_6, c4_7, f4_7, c4_8, f4_8, c4_9, f4_9, c4_10, f4_10, c4_11, f4_11]
    have d3 : x.cell? ⟨w.heap.size + 1, 0, none⟩ = some (.int .i64 16) := by rw [hx]; simp [go_sem, c4_0, f4_0, c4_1, f4_1, c4_2, f4_2, c4_3, f4_3, c4_4, f4_4, c4_5, f4_5, c4_6, f4_6, c4_7, f4_7, c4_8, f4_8, c4_9, f4_9, c4_10, f4_10, c4_11, f4_11]
    have d4 : x.cell? ⟨w.heap.size + 1, 1, none⟩ = some (.int .u64 1) := by rw [hx]; simp [go_sem, c4_0, f4_0, c4_1, f4_1, c4_2, f4_2, c4_3, f4_3, c4_4, f4_4, c4_5, f4_5, c4_6, f4_6, c4_7, f4_7, c4_8, f4_8, c4_9, f4_9, c4_10, f4_10, c4_11, f4_11]
    have d5 : x.cell? ⟨w.heap.size + 1, 2, none⟩ = some (.int .u64 0) := by rw [hx]; simp [go_sem, c4_0, f4_0, c4_1, f4_1, c4_2, f4_2, c4_3, f4_3, c4_4, f4_4, c4_5, f4_5, c4_6, f4_6, c4_7, f4_7, c4_8, f4_8, c4_9, f4_9, c4_10, f4_10, c4_11, f4_11]
    have d6 : x.cell? ⟨w.heap.size + 1, 3, none⟩ = some (.int .u64 0) := by rw [hx]; simp [go_sem, c4_0, f4_0, c4_1, f4_1, c4_2, f4_2, c4_3, f4_3, c4_4, f4_4, c4_5, f4_5, c4_6, f4_6, c4_7, f4_7, c4_8, f4_8, c4_9, f4_9, c4_10, f4_10, c4_11, f4_11]
    have d7 : x.cell? ⟨w.heap.size + 1, 4, none⟩ = some (.string { data := #[] }) := by rw [hx]; simp [go_sem, c4_0, f4_0, c4_1, f4_1, c4_2, f4_2, c4_3, f4_3, c4_4, f4_4, c4_5, f4_5, c4_6, f4_6, c4_7, f4_7, c4_8, f4_8, c4_9, f4_9, c4_10, f4_10, c4_11, f4_11]
    have d8 : x.cell? ⟨w.heap.size + 1, 5, none⟩ = some (.string { data := #[] }) := by rw [hx]; simp [go_sem, c4_0, f4_0, c4_1, f4_1, c4_2, f4_2, c4_3, f4_3, c4_4, f4_4, c4_5, f4_5, c4_6, f4_6, c4_7, f4_7, c4_8, f4_8, c4_9, f4_9, c4_10, f4_10, c4_11, f4_11]
    have d9 : x.cell? ⟨w.heap.size + 1, 6, none⟩ = some (.int .i64 0) := by rw [hx]; simp [go_sem, c4_0, f4_0, c4_1, f4_1, c4_2, f4_2, c4_3, f4_3, c4_4, f4_4, c4_5, f4_5, c4_6, f4_6, c4_7, f4_7, c4_8, f4_8, c4_9, f4_9, c4_10, f4_10, c4_11, f4_11]
    have d10 : x.cell? ⟨w.heap.size + 1, 7, none⟩ = some (.slice none 0 0) := by rw [hx]; simp [go_sem, c4_0, f4_0, c4_1, f4_1, c4_2, f4_2, c4_3, f4_3, c4_4, f4_4, c4_5, f4_5, c4_6, f4_6, c4_7, f4_7, c4_8, f4_8, c4_9, f4_9, c4_10, f4_10, c4_11, f4_11]
    have d11 : x.cell? ⟨w.heap.size + 1, 8, none⟩ = some (.slice none 0 0) := by rw [hx]; simp [go_sem, c4_0, f4_0, c4_1, f4_1, c4_2, f4_2, c4_3, f4_3, c4_4, f4_4, c4_5, f4_5, c4_6, f4_6, c4_7, f4_7, c4_8, f4_8, c4_9, f4_9, c4_10, f4_10, c4_11, f4_11]
    have hzx := hwx.size
    have hlx : w.heap.size + 1 < x.heap.size := by omega
    replace hsx := Lib.hid hsx
    clear hx hkx
    go_wp2_with (at_builtin; go_loud (refine wpList_append_lies _ rfl _ _ 37 rfl (w.heap.size + 1 + 1) 51 i0 _ 10 136 Tryz.underlying37 hi iz0 iz1 iz2 rfl (by decide) _ 0 [] rfl (World.ownsRow_nil _ _ _ _) ⟨x.heap.size, 0, none⟩ 1 1 [.string { data := #[97] }, .int .i64 16, .int .u64 1, .int .u64 0, .int .u64 0, .string { data := #[] }, .string { data := #[] }, .int .i64 0, .slice none 0 0, .slice none 0 0] rfl rfl (World.news_of_block (cs := #[.string { data := #[97] }, .int .i64 16, .int .u64 1, .int .u64 0, .int .u64 0, .string { data := #[] }, .string { data := #[] }, .int .i64 0, .slice none 0 0, .slice none 0 0]) (heap_alloc_last x _)) mem10_one (by decide) (by unfold maxLen; omega) (by omega) (by simp; omega) _ rfl ?_; intro g7 cap7 w7 hown7 hgrow7 hat7 hlt7))
    have hb7 : Below x.heap.size x w7 := Below.trans bel ((below_grown hgrow7).mono (by simp))
    have hbd : Bd .V 51 w7 (w.heap.size + 1 + 1) 0 [([97], vI)] (.slice (some ⟨g7, 0, none⟩) 1 cap7) := by
      refine ⟨[(.slice none 0 0, .slice none 0 0)], rfl, hown7, fun i nm y s h1 h2 => ?_⟩
      cases i with
      | succ i => cases h1
      | zero =>
        injection h1 with h1
        injection h1 with h1 h1'
        injection h2 with h2
        subst h1 h1' h2
        exact ⟨By.nil _ _, Kd.nil _ _ _ _ _ _⟩
    have hk7 := Lib.hid (hbd.done.mono (Q' := fun b => w.heap.size + 1 < b) (fun b hb _ => by omega))
    have HB7 := Lib.hid (HBx.out.beyond hb7)
    have hw7 := Lib.hid (hwx.trans (hb7.mono hzx))
    have hl7 : w.heap.size + 1 < w7.heap.size := by have := hb7.size; omega
    have m0 := (hb7.cell (p := ⟨w.heap.size, 0, none⟩) (by dsimp only; omega)).trans d0
    have m1 := (hb7.cell (p := ⟨w.heap.size, 1, none⟩) (by dsimp only; omega)).trans d1
    have m2 := (hb7.cell (p := ⟨w.heap.size, 2, none⟩) (by dsimp only; omega)).trans d2
    have mf0 := (hb7.frozen (p := ⟨w.heap.size, 0, none⟩) (by dsimp only; omega)).trans df0
    have mf1 := (hb7.frozen (p := ⟨w.heap.size, 1, none⟩) (by dsimp only; omega)).trans df1
    have mf2 := (hb7.frozen (p := ⟨w.heap.size, 2, none⟩) (by dsimp only; omega)).trans df2
    clear hb7 hbd hgrow7 hat7 hown7
    go_wp2_with fail
    go_step3
    exact ⟨_, ⟨HB7.out, ⟨m0, mf0, m1, mf1, m2, mf2⟩, hk7.out, hw7.out, hl7⟩, rfl⟩
  case pass =>
    intro l' a' wr hJ
    match l', hJ with
    | 0, hJ =>
      obtain ⟨s, ⟨hB, ⟨k0, g0, k1, g1, k2, g2⟩, hk, hbw, hlt⟩, hf⟩ := hJ
      obtain ⟨f, rfl⟩ := hf.ex
      refine ⟨_, rfl, ?_⟩
      dsimp only
      have HBr := Lib.hid hB
      obtain ⟨q0, q1⟩ := hB.cells
      have hbyte : wr.cell? ⟨b, 11, none⟩ = some (.int .u8 0) := hB.2.1.2 11 0 rfl
      have hrr := hB.lt
      have hk0 := Lib.hid hk
      have hlt0 : w.heap.size < wr.heap.size := by omega
      obtain ⟨sa, sc, rfl⟩ : ∃ ad c, s = .slice ad 1 c := hk.slice
      clear hB hk
      go_wp2_with fail
      refine jumps_ret ?_
      refine bodyPost_ret (v := .tuple #[.slice sa 1 sc, .int .i64 12, .agg #[.int .i64 0, .int .i64 0, .slice none 0 0]]) (by simp (maxDischargeDepth := 4) [results, Tryz.results43, go_sem, k0, g0, k1, g1, k2, g2]) rfl ?_
      refine ⟨⟨_, rfl, (hk0.out.keeps ?_).mono (fun b hb _ => by omega)⟩, bel⟩
      repeat' (first | (with_reducible assumption) | (with_reducible exact Keeps.refl _ _) | (with_reducible refine keeps_drew ?_) | (with_reducible refine keeps_set ?_ (by dsimp only; omega) _) | (with_reducible refine keeps_alloc ?_ _))
    | 1, hJ =>
      obtain ⟨s, ⟨hB, ⟨k0, g0, k1, g1, k2, g2⟩, hk, hbw, hlt⟩, hf⟩ := hJ
      obtain ⟨f, rfl⟩ := hf.ex
      refine ⟨_, rfl, ?_⟩
      dsimp only
      go_wp2_with fail
      go_step3
      exact ⟨⟨s, ⟨hB, ⟨k0, g0, k1, g1, k2, g2⟩, hk, hbw, hlt⟩, rfl⟩, by decide⟩
end
end Go.Proofs.YtihnfhhopldllaaGreatDoor
