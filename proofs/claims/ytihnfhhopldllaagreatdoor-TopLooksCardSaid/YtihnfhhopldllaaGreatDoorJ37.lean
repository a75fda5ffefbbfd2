/- Parts of the proof of TopLooks: U83. No condition. -/
import Derived.Test.YtihnfhhopldllaaGreatDoorJ1
import Derived.Test.YtihnfhhopldllaaGreatDoorJ35
import Derived.Test.YtihnfhhopldllaaGreatDoorJ36
namespace Go.Proofs.YtihnfhhopldllaaGreatDoor
set_option linter.unusedSimpArgs false
set_option linter.unusedVariables false
set_option maxHeartbeats 6400000
set_option maxRecDepth 100000
section
open Go.RowKit
theorem cfields_T (w : World) : Calls Tryz.prog 136 #[.agg #[.int .i64 4, .int .u64 0, .slice none 0 0, .string { data := #[97] }, .slice none 0 0]] w fun e w' => e = .returned (.bool true) ∧ Below w.heap.size w w' := by
  go_enter Tryz.func136, Tryz.ntmps136
  go_wp2_with fail
  go_ret
  exact ⟨rfl, bel⟩
theorem cfields_U (w : World) : Calls Tryz.prog 136 #[.agg #[.int .i64 1, .int .u64 1, .slice none 0 0, .string { data := #[] }, .slice none 0 0]] w fun e w' => e = .returned (.bool true) ∧ Below w.heap.size w w' := by
  go_enter Tryz.func136, Tryz.ntmps136
  go_wp2_with fail
  go_ret
  exact ⟨rfl, bel⟩
theorem cfields_M (g c : Nat) (w : World) : Calls Tryz.prog 136 #[.agg #[.int .i64 6, .int .u64 0, .slice none 0 0, .string { data := #[] }, .slice (some ⟨g, 0, none⟩) 2 c]] w fun e w' => e = .returned (.bool true) ∧ Below w.heap.size w w' := by
  go_enter Tryz.func136, Tryz.ntmps136
  go_wp2_with fail
  go_ret
  exact ⟨rfl, bel⟩
theorem ccheck_T (w : World) : Calls Tryz.prog 82 #[.agg #[.int .i64 4, .int .u64 0, .slice none 0 0, .string { data := #[97] }, .slice none 0 0]] w fun e w' => e = .returned (.int .i64 0) ∧ Below w.heap.size w w' := by
  have HF := Lib.hid cfields_T
  have hcv0 : ∀ w, (convert 9 24 (.string { data := #[97] })).run Tryz.prog w = .ok (.slice (some ⟨w.heap.size, 0, none⟩) 1 (cvC (bs [97]) w)) (cvW (bs [97]) w) := fun w => cv_run (bs [97]) w
  go_enter Tryz.func82, Tryz.ntmps82
  go_wp2_with fail
  with_reducible refine (HF.out _).mono ?_
  rintro e w1 ⟨rfl, hb1⟩
  have c1_0 := cB hb1 w.heap.size 0 (.int .i64 4)
  have c1_1 := cB hb1 w.heap.size 1 (.int .u64 0)
  have c1_2 := cB hb1 w.heap.size 2 (.slice none 0 0)
  have c1_3 := cB hb1 w.heap.size 3 (.string { data := #[97] })
  have c1_4 := cB hb1 w.heap.size 4 (.slice none 0 0)
  have hl1_0 := ltB hb1 w.heap.size
  have hw1 := bwB hb1 w.heap.size w
  have hz1 := hw1.size
  clear hb1
  have hlt1 := cv_lt (bs [97]) w1
  have hcb := cv_below (bs [97]) w1
  have HCK : Hid (Calls Tryz.prog 124 #[.slice (some ⟨w1.heap.size, 0, none⟩) 1 (cvC (bs [97]) w1)] (cvW (bs [97]) w1) fun e w' => e = .returned (.tuple #[.int .i64 1, .bool true]) ∧ (cvW (bs [97]) w1) = w') := Lib.hid (check_any (some ⟨w1.heap.size, 0, none⟩) 1 _ [97] rfl (by decide) _ (cv_bs [97] w1).sb)
  have hcv := hcv0 w1
  clear hcv0
  go_wp2_with fail
  have k0 : (cvW (bs [97]) w1).cell? ⟨w.heap.size, 0, none⟩ = some (.int .i64 4) := (hcb.cell (p := ⟨w.heap.size, 0, none⟩) hl1_0).trans c1_0
  have k1 : (cvW (bs [97]) w1).cell? ⟨w.heap.size, 1, none⟩ = some (.int .u64 0) := (hcb.cell (p := ⟨w.heap.size, 1, none⟩) hl1_0).trans c1_1
  have k2 : (cvW (bs [97]) w1).cell? ⟨w.heap.size, 2, none⟩ = some (.slice none 0 0) := (hcb.cell (p := ⟨w.heap.size, 2, none⟩) hl1_0).trans c1_2
  have k3 : (cvW (bs [97]) w1).cell? ⟨w.heap.size, 3, none⟩ = some (.string { data := #[97] }) := (hcb.cell (p := ⟨w.heap.size, 3, none⟩) hl1_0).trans c1_3
  have k4 : (cvW (bs [97]) w1).cell? ⟨w.heap.size, 4, none⟩ = some (.slice none 0 0) := (hcb.cell (p := ⟨w.heap.size, 4, none⟩) hl1_0).trans c1_4
  have hw2 : Below w.heap.size w (cvW (bs [97]) w1) := hw1.trans (hcb.mono hz1)
  obtain ⟨w2, hw2e⟩ : ∃ W, W = cvW (bs [97]) w1 := ⟨_, rfl⟩
  rw [← hw2e] at HCK hw2 k0 k1 k2 k3 k4 ⊢
  with_reducible refine HCK.out.mono ?_
  rintro e w' ⟨rfl, rfl⟩
  clear hcv hcb hlt1 hw2e
  go_wp2_with fail
  refine wp_loop_rounds 1 ?_
  rw [rounds_succ]
  go_wp2_with fail
  go_ret
  exact ⟨rfl, bel⟩
theorem ccheck_U (w : World) : Calls Tryz.prog 82 #[.agg #[.int .i64 1, .int .u64 1, .slice none 0 0, .string { data := #[] }, .slice none 0 0]] w fun e w' => e = .returned (.int .i64 0) ∧ Below w.heap.size w w' := by
  have HF := Lib.hid cfields_U
  have hcv0 : ∀ w, (convert 9 24 (.string { data := #[] })).run Tryz.prog w = .ok (.slice (some ⟨w.heap.size, 0, none⟩) 0 (cvC (bs []) w)) (cvW (bs []) w) := fun w => cv_run (bs []) w
  go_enter Tryz.func82, Tryz.ntmps82
  go_wp2_with fail
  with_reducible refine (HF.out _).mono ?_
  rintro e w1 ⟨rfl, hb1⟩
  have c1_0 := cB hb1 w.heap.size 0 (.int .i64 1)
  have c1_1 := cB hb1 w.heap.size 1 (.int .u64 1)
  have c1_2 := cB hb1 w.heap.size 2 (.slice none 0 0)
  have c1_3 := cB hb1 w.heap.size 3 (.string { data := #[] })
  have c1_4 := cB hb1 w.heap.size 4 (.slice none 0 0)
  have hl1_0 := ltB hb1 w.heap.size
  have hw1 := bwB hb1 w.heap.size w
  have hz1 := hw1.size
  clear hb1
  have hlt1 := cv_lt (bs []) w1
  have hcb := cv_below (bs []) w1
  have HCK : Hid (Calls Tryz.prog 124 #[.slice (some ⟨w1.heap.size, 0, none⟩) 0 (cvC (bs []) w1)] (cvW (bs []) w1) fun e w' => e = .returned (.tuple #[.int .i64 0, .bool true]) ∧ (cvW (bs []) w1) = w') := Lib.hid (check_any (some ⟨w1.heap.size, 0, none⟩) 0 _ [] rfl (by decide) _ (cv_bs [] w1).sb)
  have hcv := hcv0 w1
  clear hcv0
  go_wp2_with fail
  have k0 : (cvW (bs []) w1).cell? ⟨w.heap.size, 0, none⟩ = some (.int .i64 1) := (hcb.cell (p := ⟨w.heap.size, 0, none⟩) hl1_0).trans c1_0
  have k1 : (cvW (bs []) w1).cell? ⟨w.heap.size, 1, none⟩ = some (.int .u64 1) := (hcb.cell (p := ⟨w.heap.size, 1, none⟩) hl1_0).trans c1_1
  have k2 : (cvW (bs []) w1).cell? ⟨w.heap.size, 2, none⟩ = some (.slice none 0 0) := (hcb.cell (p := ⟨w.heap.size, 2, none⟩) hl1_0).trans c1_2
  have k3 : (cvW (bs []) w1).cell? ⟨w.heap.size, 3, none⟩ = some (.string { data := #[] }) := (hcb.cell (p := ⟨w.heap.size, 3, none⟩) hl1_0).trans c1_3
  have k4 : (cvW (bs []) w1).cell? ⟨w.heap.size, 4, none⟩ = some (.slice none 0 0) := (hcb.cell (p := ⟨w.heap.size, 4, none⟩) hl1_0).trans c1_4
  have hw2 : Below w.heap.size w (cvW (bs []) w1) := hw1.trans (hcb.mono hz1)
  obtain ⟨w2, hw2e⟩ : ∃ W, W = cvW (bs []) w1 := ⟨_, rfl⟩
  rw [← hw2e] at HCK hw2 k0 k1 k2 k3 k4 ⊢
  with_reducible refine HCK.out.mono ?_
  rintro e w' ⟨rfl, rfl⟩
  clear hcv hcb hlt1 hw2e
  go_wp2_with fail
  refine wp_loop_rounds 1 ?_
  rw [rounds_succ]
  go_wp2_with fail
  go_ret
  exact ⟨rfl, bel⟩
theorem ccheck_M (g c : Nat) (w : World) (h : ItM w g) : Calls Tryz.prog 82 #[.agg #[.int .i64 6, .int .u64 0, .slice none 0 0, .string { data := #[] }, .slice (some ⟨g, 0, none⟩) 2 c]] w fun e w' => e = .returned (.int .i64 0) ∧ Below w.heap.size w w' := by
  have HF := Lib.hid (cfields_M g c)
  have HIt := Lib.hid h
  have HCT := Lib.hid ccheck_T
  have HCU := Lib.hid ccheck_U
  clear h
  have hcv0 : ∀ w, (convert 9 24 (.string { data := #[] })).run Tryz.prog w = .ok (.slice (some ⟨w.heap.size, 0, none⟩) 0 (cvC (bs []) w)) (cvW (bs []) w) := fun w => cv_run (bs []) w
  go_enter Tryz.func82, Tryz.ntmps82
  go_wp2_with fail
  with_reducible refine (HF.out _).mono ?_
  rintro e w1 ⟨rfl, hb1⟩
  have c1_0 := cB hb1 w.heap.size 0 (.int .i64 6)
  have c1_1 := cB hb1 w.heap.size 1 (.int .u64 0)
  have c1_2 := cB hb1 w.heap.size 2 (.slice none 0 0)
  have c1_3 := cB hb1 w.heap.size 3 (.string { data := #[] })
  have c1_4 := cB hb1 w.heap.size 4 (.slice (some ⟨g, 0, none⟩) 2 c)
  have hl1_0 := ltB hb1 w.heap.size
  have hw1 := bwB hb1 w.heap.size w
  have hz1 := hw1.size
  clear hb1
  have hlt1 := cv_lt (bs []) w1
  have hcb := cv_below (bs []) w1
  have HCK : Hid (Calls Tryz.prog 124 #[.slice (some ⟨w1.heap.size, 0, none⟩) 0 (cvC (bs []) w1)] (cvW (bs []) w1) fun e w' => e = .returned (.tuple #[.int .i64 0, .bool true]) ∧ (cvW (bs []) w1) = w') := Lib.hid (check_any (some ⟨w1.heap.size, 0, none⟩) 0 _ [] rfl (by decide) _ (cv_bs [] w1).sb)
  have hcv := hcv0 w1
  clear hcv0
  go_wp2_with fail
  have k0 : (cvW (bs []) w1).cell? ⟨w.heap.size, 0, none⟩ = some (.int .i64 6) := (hcb.cell (p := ⟨w.heap.size, 0, none⟩) hl1_0).trans c1_0
  have k1 : (cvW (bs []) w1).cell? ⟨w.heap.size, 1, none⟩ = some (.int .u64 0) := (hcb.cell (p := ⟨w.heap.size, 1, none⟩) hl1_0).trans c1_1
  have k2 : (cvW (bs []) w1).cell? ⟨w.heap.size, 2, none⟩ = some (.slice none 0 0) := (hcb.cell (p := ⟨w.heap.size, 2, none⟩) hl1_0).trans c1_2
  have k3 : (cvW (bs []) w1).cell? ⟨w.heap.size, 3, none⟩ = some (.string { data := #[] }) := (hcb.cell (p := ⟨w.heap.size, 3, none⟩) hl1_0).trans c1_3
  have k4 : (cvW (bs []) w1).cell? ⟨w.heap.size, 4, none⟩ = some (.slice (some ⟨g, 0, none⟩) 2 c) := (hcb.cell (p := ⟨w.heap.size, 4, none⟩) hl1_0).trans c1_4
  have hw2 : Below w.heap.size w (cvW (bs []) w1) := hw1.trans (hcb.mono hz1)
  obtain ⟨w2, hw2e⟩ : ∃ W, W = cvW (bs []) w1 := ⟨_, rfl⟩
  rw [← hw2e] at HCK hw2 k0 k1 k2 k3 k4 ⊢
  with_reducible refine HCK.out.mono ?_
  rintro e w' ⟨rfl, rfl⟩
  clear hcv hcb hlt1 hw2e
  go_wp2_with fail
  have hz2 := hw2.size
  have hg2 : g < w2.heap.size := (HIt.out.beyond hw2).1
  have i2_0 : w2.cell? ⟨g, 0, none⟩ = some (.int .i64 4) := (HIt.out.beyond hw2).2 0 _ rfl
  have i2_1 : w2.cell? ⟨g, 1, none⟩ = some (.int .u64 0) := (HIt.out.beyond hw2).2 1 _ rfl
  have i2_2 : w2.cell? ⟨g, 2, none⟩ = some (.slice none 0 0) := (HIt.out.beyond hw2).2 2 _ rfl
  have i2_3 : w2.cell? ⟨g, 3, none⟩ = some (.string { data := #[97] }) := (HIt.out.beyond hw2).2 3 _ rfl
  have i2_4 : w2.cell? ⟨g, 4, none⟩ = some (.slice none 0 0) := (HIt.out.beyond hw2).2 4 _ rfl
  refine wp_loop_rounds 4 ?_
  rw [rounds_succ]
  go_wp2_with fail
  with_reducible refine (HCT.out _).mono ?_
  rintro e w3 ⟨rfl, hb3⟩
  have hw3 := bwB hb3 w.heap.size w
  have hz3 := hw3.size
  clear hb3
  have hg3 : g < w3.heap.size := (HIt.out.beyond hw3).1
  have i3_0 : w3.cell? ⟨g, 5, none⟩ = some (.int .i64 1) := (HIt.out.beyond hw3).2 5 _ rfl
  have i3_1 : w3.cell? ⟨g, 6, none⟩ = some (.int .u64 1) := (HIt.out.beyond hw3).2 6 _ rfl
  have i3_2 : w3.cell? ⟨g, 7, none⟩ = some (.slice none 0 0) := (HIt.out.beyond hw3).2 7 _ rfl
  have i3_3 : w3.cell? ⟨g, 8, none⟩ = some (.string { data := #[] }) := (HIt.out.beyond hw3).2 8 _ rfl
  have i3_4 : w3.cell? ⟨g, 9, none⟩ = some (.slice none 0 0) := (HIt.out.beyond hw3).2 9 _ rfl
  go_wp2_with fail
  rw [rounds_succ]
  go_wp2_with fail
  with_reducible refine (HCU.out _).mono ?_
  rintro e w4 ⟨rfl, hb4⟩
  have hw4 := bwB hb4 w.heap.size w
  have hz4 := hw4.size
  clear hb4
  go_wp2_with fail
  rw [rounds_succ]
  go_wp2_with fail
  go_ret
  exact ⟨rfl, bel⟩
end
end Go.Proofs.YtihnfhhopldllaaGreatDoor
