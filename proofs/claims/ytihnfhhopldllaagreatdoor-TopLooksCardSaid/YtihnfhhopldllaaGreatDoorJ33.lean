/- Parts of the proof of TopLooks: U69. No condition. -/
import Derived.Test.YtihnfhhopldllaaGreatDoorJ1
import Derived.Test.YtihnfhhopldllaaGreatDoorJ14
import Derived.Test.YtihnfhhopldllaaGreatDoorJ30
namespace Go.Proofs.YtihnfhhopldllaaGreatDoor
set_option linter.unusedSimpArgs false
set_option linter.unusedVariables false
set_option maxHeartbeats 6400000
set_option maxRecDepth 100000
section
open Go.RowKit
theorem etext_3 (k d m : Nat) (lj l : KL) (T : ByteArray) (hv : l.length = m)
    (hPs : ∀ w, Calls Tryz.prog 39 #[.string T, .int .i64 404] w fun e w' => (∃ ad c, e = .returned (.tuple #[.agg #[.int .i64 7, .string { data := #[] }, .slice ad m c], .agg #[.int .i64 0, .int .i64 0, .slice none 0 0]]) ∧ Kd .J (fun b => w.heap.size ≤ b) w' (d + 1) lj (.slice ad m c)) ∧ Below w.heap.size w w')
    (hRd : ∀ (Q : Nat → Prop) (ad : Option Addr) (c : Nat) w, Kd .J Q w (d + 1) lj (.slice ad m c) → Calls Tryz.prog 40 #[.agg #[.int .i64 7, .string { data := #[] }, .slice ad m c]] w fun e w' => (∃ s, e = .returned (.tuple #[.agg #[.int .i64 3, .int .u64 0, .int .u64 0, .int .u64 0, .string { data := #[] }, .string { data := #[] }, .int .i64 0, .slice none 0 0, s], .agg #[.int .i64 0, .int .i64 0, .slice none 0 0]]) ∧ Kd .V (fun b => w.heap.size ≤ b) w' (k + 1) l s) ∧ Below w.heap.size w w')
    (hF : ∀ (Q : Nat → Prop) w v, Is .V Q w (k + 1) (vD l) v → Calls Tryz.prog 23 #[v, .agg #[.int .i64 200, .int .i64 65536, .int .i64 262144]] w fun e w' => e = .returned (.int .i64 0) ∧ Below w.heap.size w w') (w : World) :
    Calls Tryz.prog 19 #[.string T, .agg #[.int .i64 200, .int .i64 65536, .int .i64 262144]] w fun e w' => (∃ s, e = .returned (.tuple #[.agg #[.int .i64 3, .int .u64 0, .int .u64 0, .int .u64 0, .string { data := #[] }, .string { data := #[] }, .int .i64 0, .slice none 0 0, s], .agg #[.int .i64 0, .int .i64 0, .slice none 0 0]]) ∧ Kd .V (fun b => w.heap.size ≤ b) w' (k + 1) l s) ∧ Below w.heap.size w w' := by
  have HM := Lib.hid (fun w => may_any 200 65536 262144 (by decide) (by decide) (by decide) (by decide) (by decide) (by decide) w)
  have HPs := Lib.hid hPs
  have HRd := Lib.hid hRd
  have HF := Lib.hid hF
  have HLV := Lib.hid hv
  clear hPs hRd hF hv
  go_enter Tryz.func19, Tryz.ntmps19
  go_wp2_with fail
  with_reducible refine (HM.out _).mono ?_
  rintro e w1 ⟨rfl, hb1⟩
  obtain ⟨c1_0, f1_0⟩ := cf hb1 w.heap.size 0 (.int .i64 200)
  obtain ⟨c1_1, f1_1⟩ := cf hb1 w.heap.size 1 (.int .i64 65536)
  obtain ⟨c1_2, f1_2⟩ := cf hb1 w.heap.size 2 (.int .i64 262144)
  obtain ⟨c1_3, f1_3⟩ := cf hb1 (w.heap.size + 1) 0 (.int .i64 0)
  obtain ⟨c1_4, f1_4⟩ := cf hb1 (w.heap.size + 1) 1 (.int .u64 0)
  obtain ⟨c1_5, f1_5⟩ := cf hb1 (w.heap.size + 1) 2 (.int .u64 0)
  obtain ⟨c1_6, f1_6⟩ := cf hb1 (w.heap.size + 1) 3 (.int .u64 0)
  obtain ⟨c1_7, f1_7⟩ := cf hb1 (w.heap.size + 1) 4 (.string { data := #[] })
  obtain ⟨c1_8, f1_8⟩ := cf hb1 (w.heap.size + 1) 5 (.string { data := #[] })
  obtain ⟨c1_9, f1_9⟩ := cf hb1 (w.heap.size + 1) 6 (.int .i64 0)
  obtain ⟨c1_10, f1_10⟩ := cf hb1 (w.heap.size + 1) 7 (.slice none 0 0)
  obtain ⟨c1_11, f1_11⟩ := cf hb1 (w.heap.size + 1) 8 (.slice none 0 0)
  obtain ⟨c1_12, f1_12⟩ := cf hb1 (w.heap.size + 1 + 1) 0 (.int .i64 0)
  obtain ⟨c1_13, f1_13⟩ := cf hb1 (w.heap.size + 1 + 1) 1 (.int .i64 0)
  obtain ⟨c1_14, f1_14⟩ := cf hb1 (w.heap.size + 1 + 1) 2 (.slice none 0 0)
  have hl1_0 := ltB hb1 w.heap.size
  have hl1_1 := ltB hb1 (w.heap.size + 1)
  have hl1_2 := ltB hb1 (w.heap.size + 1 + 1)
  have hw1 := bwB hb1 w.heap.size w
  have hz1 := hw1.size
  clear hb1
  go_wp2_with fail
  with_reducible refine (HPs.out _).mono ?_
  rintro e w2 ⟨⟨ad, c, rfl, hj⟩, hb2⟩
  have hj2 := Lib.hid hj
  clear hj
  obtain ⟨c2_0, f2_0⟩ := cf hb2 w.heap.size 0 (.int .i64 200)
  obtain ⟨c2_1, f2_1⟩ := cf hb2 w.heap.size 1 (.int .i64 65536)
  obtain ⟨c2_2, f2_2⟩ := cf hb2 w.heap.size 2 (.int .i64 262144)
  obtain ⟨c2_3, f2_3⟩ := cf hb2 (w.heap.size + 1) 0 (.int .i64 0)
  obtain ⟨c2_4, f2_4⟩ := cf hb2 (w.heap.size + 1) 1 (.int .u64 0)
  obtain ⟨c2_5, f2_5⟩ := cf hb2 (w.heap.size + 1) 2 (.int .u64 0)
  obtain ⟨c2_6, f2_6⟩ := cf hb2 (w.heap.size + 1) 3 (.int .u64 0)
  obtain ⟨c2_7, f2_7⟩ := cf hb2 (w.heap.size + 1) 4 (.string { data := #[] })
  obtain ⟨c2_8, f2_8⟩ := cf hb2 (w.heap.size + 1) 5 (.string { data := #[] })
  obtain ⟨c2_9, f2_9⟩ := cf hb2 (w.heap.size + 1) 6 (.int .i64 0)
  obtain ⟨c2_10, f2_10⟩ := cf hb2 (w.heap.size + 1) 7 (.slice none 0 0)
  obtain ⟨c2_11, f2_11⟩ := cf hb2 (w.heap.size + 1) 8 (.slice none 0 0)
  obtain ⟨c2_12, f2_12⟩ := cf hb2 (w.heap.size + 1 + 1) 0 (.int .i64 0)
  obtain ⟨c2_13, f2_13⟩ := cf hb2 (w.heap.size + 1 + 1) 1 (.int .i64 0)
  obtain ⟨c2_14, f2_14⟩ := cf hb2 (w.heap.size + 1 + 1) 2 (.slice none 0 0)
  have hl2_0 := ltB hb2 w.heap.size
  have hl2_1 := ltB hb2 (w.heap.size + 1)
  have hl2_2 := ltB hb2 (w.heap.size + 1 + 1)
  have hw2 := bwB hb2 w.heap.size w
  have hz2 := hw2.size
  clear hb2
  go_wp2_with fail
  with_reducible refine (HRd.out ?q3 _ _ _ ?k3).mono ?_
  case q3 => exact fun b => w1.heap.size ≤ b
  case k3 => exact hj2.out.beyond bel
  rintro e w3 ⟨⟨s, rfl, hs⟩, hb3⟩
  have hs3 := Lib.hid (hs.mono (Q' := fun b => w2.heap.size + 1 < b) (fun b hb _ => by simp at hb; omega))
  clear hs
  obtain ⟨vd, vc, rfl⟩ := hs3.out.slice
  simp only [HLV.out] at hs3 ⊢
  obtain ⟨c3_0, f3_0⟩ := cf hb3 w.heap.size 0 (.int .i64 200)
  obtain ⟨c3_1, f3_1⟩ := cf hb3 w.heap.size 1 (.int .i64 65536)
  obtain ⟨c3_2, f3_2⟩ := cf hb3 w.heap.size 2 (.int .i64 262144)
  obtain ⟨c3_3, f3_3⟩ := cf hb3 (w.heap.size + 1) 0 (.int .i64 0)
  obtain ⟨c3_4, f3_4⟩ := cf hb3 (w.heap.size + 1) 1 (.int .u64 0)
  obtain ⟨c3_5, f3_5⟩ := cf hb3 (w.heap.size + 1) 2 (.int .u64 0)
  obtain ⟨c3_6, f3_6⟩ := cf hb3 (w.heap.size + 1) 3 (.int .u64 0)
  obtain ⟨c3_7, f3_7⟩ := cf hb3 (w.heap.size + 1) 4 (.string { data := #[] })
  obtain ⟨c3_8, f3_8⟩ := cf hb3 (w.heap.size + 1) 5 (.string { data := #[] })
  obtain ⟨c3_9, f3_9⟩ := cf hb3 (w.heap.size + 1) 6 (.int .i64 0)
  obtain ⟨c3_10, f3_10⟩ := cf hb3 (w.heap.size + 1) 7 (.slice none 0 0)
  obtain ⟨c3_11, f3_11⟩ := cf hb3 (w.heap.size + 1) 8 (.slice none 0 0)
  obtain ⟨c3_12, f3_12⟩ := cf hb3 (w.heap.size + 1 + 1) 0 (.int .i64 0)
  obtain ⟨c3_13, f3_13⟩ := cf hb3 (w.heap.size + 1 + 1) 1 (.int .i64 0)
  obtain ⟨c3_14, f3_14⟩ := cf hb3 (w.heap.size + 1 + 1) 2 (.slice none 0 0)
  obtain ⟨c3_15, f3_15⟩ := cf hb3 (w2.heap.size + 1) 0 (.int .i64 0)
  obtain ⟨c3_16, f3_16⟩ := cf hb3 (w2.heap.size + 1) 1 (.int .i64 0)
  obtain ⟨c3_17, f3_17⟩ := cf hb3 (w2.heap.size + 1) 2 (.slice none 0 0)
  have hl3_0 := ltB hb3 w.heap.size
  have hl3_1 := ltB hb3 (w.heap.size + 1)
  have hl3_2 := ltB hb3 (w.heap.size + 1 + 1)
  have hl3_3 := ltB hb3 (w2.heap.size + 1)
  have hw3 := bwB hb3 w.heap.size w
  have hz3 := hw3.size
  clear hb3
  go_wp2_with fail
  obtain ⟨x, hx⟩ : ∃ X, X = (((w3.setCell ⟨w2.heap.size + 1, 0, none⟩ (.int .i64 0)).setCell ⟨w2.heap.size + 1, 1, none⟩ (.int .i64 0)).setCell ⟨w2.heap.size + 1, 2, none⟩ (.slice none 0 0)).alloc (.cells #[.int .i64 3, .int .u64 0, .int .u64 0, .int .u64 0, .string { data := #[] }, .string { data := #[] }, .int .i64 0, .slice none 0 0, .slice vd m vc] 39) := ⟨_, rfl⟩
  rw [← hx]
  have hkx : Keeps (fun b => b ≠ w2.heap.size + 1) w3 x := by
    rw [hx]
    repeat' (first | (with_reducible assumption) | (with_reducible exact Keeps.refl _ _) | (with_reducible refine keeps_drew ?_) | (with_reducible refine keeps_set ?_ (by dsimp only; omega) _) | (with_reducible refine keeps_alloc ?_ _))
  have hsx : x.heap.size = w3.heap.size + 1 := by rw [hx]; simp
  have hwx : Below w.heap.size w x := by
    rw [hx]
    exact bel
  have kbx_0 : x.heap[w.heap.size + 1]? = w3.heap[w.heap.size + 1]? := hkx.2 _ (by first | omega | (dsimp only; omega)) (by omega)
  have cx_0 : x.cell? ⟨w.heap.size + 1, 0, none⟩ = some (.int .i64 0) := (World.cell?_of_block (a := ⟨w.heap.size + 1, 0, none⟩) kbx_0).trans c3_3
  have fx_0 : x.frozen? ⟨w.heap.size + 1, 0, none⟩ = false := (World.frozen?_of_block (a := ⟨w.heap.size + 1, 0, none⟩) kbx_0).trans f3_3
  have cx_1 : x.cell? ⟨w.heap.size + 1, 1, none⟩ = some (.int .u64 0) := (World.cell?_of_block (a := ⟨w.heap.size + 1, 1, none⟩) kbx_0).trans c3_4
  have fx_1 : x.frozen? ⟨w.heap.size + 1, 1, none⟩ = false := (World.frozen?_of_block (a := ⟨w.heap.size + 1, 1, none⟩) kbx_0).trans f3_4
  have cx_2 : x.cell? ⟨w.heap.size + 1, 2, none⟩ = some (.int .u64 0) := (World.cell?_of_block (a := ⟨w.heap.size + 1, 2, none⟩) kbx_0).trans c3_5
  have fx_2 : x.frozen? ⟨w.heap.size + 1, 2, none⟩ = false := (World.frozen?_of_block (a := ⟨w.heap.size + 1, 2, none⟩) kbx_0).trans f3_5
  have cx_3 : x.cell? ⟨w.heap.size + 1, 3, none⟩ = some (.int .u64 0) := (World.cell?_of_block (a := ⟨w.heap.size + 1, 3, none⟩) kbx_0).trans c3_6
  have fx_3 : x.frozen? ⟨w.heap.size + 1, 3, none⟩ = false := (World.frozen?_of_block (a := ⟨w.heap.size + 1, 3, none⟩) kbx_0).trans f3_6
  have cx_4 : x.cell? ⟨w.heap.size + 1, 4, none⟩ = some (.string { data := #[] }) := (World.cell?_of_block (a := ⟨w.heap.size + 1, 4, none⟩) kbx_0).trans c3_7
  have fx_4 : x.frozen? ⟨w.heap.size + 1, 4, none⟩ = false := (World.frozen?_of_block (a := ⟨w.heap.size + 1, 4, none⟩) kbx_0).trans f3_7
  have cx_5 : x.cell? ⟨w.heap.size + 1, 5, none⟩ = some (.string { data := #[] }) := (World.cell?_of_block (a := ⟨w.heap.size + 1, 5, none⟩) kbx_0).trans c3_8
  have fx_5 : x.frozen? ⟨w.heap.size + 1, 5, none⟩ = false := (World.frozen?_of_block (a := ⟨w.heap.size + 1, 5, none⟩) kbx_0).trans f3_8
  have cx_6 : x.cell? ⟨w.heap.size + 1, 6, none⟩ = some (.int .i64 0) := (World.cell?_of_block (a := ⟨w.heap.size + 1, 6, none⟩) kbx_0).trans c3_9
  have fx_6 : x.frozen? ⟨w.heap.size + 1, 6, none⟩ = false := (World.frozen?_of_block (a := ⟨w.heap.size + 1, 6, none⟩) kbx_0).trans f3_9
  have cx_7 : x.cell? ⟨w.heap.size + 1, 7, none⟩ = some (.slice none 0 0) := (World.cell?_of_block (a := ⟨w.heap.size + 1, 7, none⟩) kbx_0).trans c3_10
  have fx_7 : x.frozen? ⟨w.heap.size + 1, 7, none⟩ = false := (World.frozen?_of_block (a := ⟨w.heap.size + 1, 7, none⟩) kbx_0).trans f3_10
  have cx_8 : x.cell? ⟨w.heap.size + 1, 8, none⟩ = some (.slice none 0 0) := (World.cell?_of_block (a := ⟨w.heap.size + 1, 8, none⟩) kbx_0).trans c3_11
  have fx_8 : x.frozen? ⟨w.heap.size + 1, 8, none⟩ = false := (World.frozen?_of_block (a := ⟨w.heap.size + 1, 8, none⟩) kbx_0).trans f3_11
  have kbx_1 : x.heap[w.heap.size + 1 + 1]? = w3.heap[w.heap.size + 1 + 1]? := hkx.2 _ (by first | omega | (dsimp only; omega)) (by omega)
  have cx_9 : x.cell? ⟨w.heap.size + 1 + 1, 0, none⟩ = some (.int .i64 0) := (World.cell?_of_block (a := ⟨w.heap.size + 1 + 1, 0, none⟩) kbx_1).trans c3_12
  have fx_9 : x.frozen? ⟨w.heap.size + 1 + 1, 0, none⟩ = false := (World.frozen?_of_block (a := ⟨w.heap.size + 1 + 1, 0, none⟩) kbx_1).trans f3_12
  have cx_10 : x.cell? ⟨w.heap.size + 1 + 1, 1, none⟩ = some (.int .i64 0) := (World.cell?_of_block (a := ⟨w.heap.size + 1 + 1, 1, none⟩) kbx_1).trans c3_13
  have fx_10 : x.frozen? ⟨w.heap.size + 1 + 1, 1, none⟩ = false := (World.frozen?_of_block (a := ⟨w.heap.size + 1 + 1, 1, none⟩) kbx_1).trans f3_13
  have cx_11 : x.cell? ⟨w.heap.size + 1 + 1, 2, none⟩ = some (.slice none 0 0) := (World.cell?_of_block (a := ⟨w.heap.size + 1 + 1, 2, none⟩) kbx_1).trans c3_14
  have fx_11 : x.frozen? ⟨w.heap.size + 1 + 1, 2, none⟩ = false := (World.frozen?_of_block (a := ⟨w.heap.size + 1 + 1, 2, none⟩) kbx_1).trans f3_14
  have hv8 : x.heap[w3.heap.size]? = some (.cells #[.int .i64 3, .int .u64 0, .int .u64 0, .int .u64 0, .string { data := #[] }, .string { data := #[] }, .int .i64 0, .slice none 0 0, .slice vd m vc] 39 (0, 0)) := by
    rw [hx]
    exact Eq.trans (congrArg _ (by simp)) (heap_alloc_last _ _)
  have hsx3 := Lib.hid (hs3.out.keeps (hkx.mono (fun b hb => by first | omega | (dsimp only at hb ⊢; omega))))
  clear hx hkx hs3
  with_reducible refine (HF.out ?q4 _ _ ?k4).mono ?_
  case q4 => exact fun b => w2.heap.size + 1 < b
  case k4 => exact ⟨.slice none 0 0, _, rfl, By.nil _ _, hsx3.out⟩
  rintro e w4 ⟨rfl, hb4⟩
  obtain ⟨c4_0, f4_0⟩ := cfT hb4 cx_0 fx_0
  obtain ⟨c4_1, f4_1⟩ := cfT hb4 cx_1 fx_1
  obtain ⟨c4_2, f4_2⟩ := cfT hb4 cx_2 fx_2
  obtain ⟨c4_3, f4_3⟩ := cfT hb4 cx_3 fx_3
  obtain ⟨c4_4, f4_4⟩ := cfT hb4 cx_4 fx_4
  obtain ⟨c4_5, f4_5⟩ := cfT hb4 cx_5 fx_5
  obtain ⟨c4_6, f4_6⟩ := cfT hb4 cx_6 fx_6
  obtain ⟨c4_7, f4_7⟩ := cfT hb4 cx_7 fx_7
  obtain ⟨c4_8, f4_8⟩ := cfT hb4 cx_8 fx_8
  obtain ⟨c4_9, f4_9⟩ := cfT hb4 cx_9 fx_9
  obtain ⟨c4_10, f4_10⟩ := cfT hb4 cx_10 fx_10
  obtain ⟨c4_11, f4_11⟩ := cfT hb4 cx_11 fx_11
  have hv9 := (hb4.block w3.heap.size (by omega)).trans hv8
  have v8_0 : w4.cell? ⟨w3.heap.size, 0, none⟩ = some (.int .i64 3) := by rw [cell_of_row _ _ 0 _ _ _ hv9]; rfl
  have v8_1 : w4.cell? ⟨w3.heap.size, 1, none⟩ = some (.int .u64 0) := by rw [cell_of_row _ _ 1 _ _ _ hv9]; rfl
  have v8_2 : w4.cell? ⟨w3.heap.size, 2, none⟩ = some (.int .u64 0) := by rw [cell_of_row _ _ 2 _ _ _ hv9]; rfl
  have v8_3 : w4.cell? ⟨w3.heap.size, 3, none⟩ = some (.int .u64 0) := by rw [cell_of_row _ _ 3 _ _ _ hv9]; rfl
  have v8_4 : w4.cell? ⟨w3.heap.size, 4, none⟩ = some (.string { data := #[] }) := by rw [cell_of_row _ _ 4 _ _ _ hv9]; rfl
  have v8_5 : w4.cell? ⟨w3.heap.size, 5, none⟩ = some (.string { data := #[] }) := by rw [cell_of_row _ _ 5 _ _ _ hv9]; rfl
  have v8_6 : w4.cell? ⟨w3.heap.size, 6, none⟩ = some (.int .i64 0) := by rw [cell_of_row _ _ 6 _ _ _ hv9]; rfl
  have v8_7 : w4.cell? ⟨w3.heap.size, 7, none⟩ = some (.slice none 0 0) := by rw [cell_of_row _ _ 7 _ _ _ hv9]; rfl
  have v8_8 : w4.cell? ⟨w3.heap.size, 8, none⟩ = some (.slice vd m vc) := by rw [cell_of_row _ _ 8 _ _ _ hv9]; rfl
  have hw4 : Below w.heap.size w w4 := hwx.trans (hb4.mono hwx.size)
  have hz4 := hb4.size
  have hs4 := Lib.hid (hsx3.out.beyond hb4)
  have hl4 : w3.heap.size < w4.heap.size := by omega
  have hl4_1 : w.heap.size + 1 < w4.heap.size := by omega
  have hl4_2 : w.heap.size + 1 + 1 < w4.heap.size := by omega
  clear hb4 hv8 hv9 hsx3 hwx hsx HM HPs HRd HF hj2 hw1 hw2 hw3 cx_0 fx_0 cx_1 fx_1 cx_2 fx_2 cx_3 fx_3 cx_4 fx_4 cx_5 fx_5 cx_6 fx_6 cx_7 fx_7 cx_8 fx_8 cx_9 fx_9 cx_10 fx_10 cx_11 fx_11
  go_wp2_with fail
  refine bodyPost_ret (v := .tuple #[.agg #[.int .i64 3, .int .u64 0, .int .u64 0, .int .u64 0, .string { data := #[] }, .string { data := #[] }, .int .i64 0, .slice none 0 0, .slice vd m vc], .agg #[.int .i64 0, .int .i64 0, .slice none 0 0]]) (by simp (maxDischargeDepth := 4) [results, Tryz.results19, go_sem, c4_0, f4_0, c4_1, f4_1, c4_2, f4_2, c4_3, f4_3, c4_4, f4_4, c4_5, f4_5, c4_6, f4_6, c4_7, f4_7, c4_8, f4_8, c4_9, f4_9, c4_10, f4_10, c4_11, f4_11]) rfl ?_
  refine ⟨⟨_, rfl, (hs4.out.keeps ?_).mono (fun b hb _ => by omega)⟩, bel⟩
  repeat' (first | (with_reducible exact Keeps.refl _ _) | (with_reducible refine keeps_set ?_ (by dsimp only; omega) _) | (with_reducible refine keeps_alloc ?_ _))
end
end Go.Proofs.YtihnfhhopldllaaGreatDoor
