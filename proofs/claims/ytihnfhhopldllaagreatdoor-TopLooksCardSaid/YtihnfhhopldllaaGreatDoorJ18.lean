/- Parts of the proof of TopLooks: U61. No condition. -/
import Derived.Test.YtihnfhhopldllaaGreatDoorJ1
import Derived.Test.YtihnfhhopldllaaGreatDoorJ9
namespace Go.Proofs.YtihnfhhopldllaaGreatDoor
set_option linter.unusedSimpArgs false
set_option linter.unusedVariables false
set_option maxHeartbeats 6400000
set_option maxRecDepth 100000
section
open Go.RowKit
theorem rkinds (w : World) : Calls Tryz.prog 188 #[] w fun e w' => (∃ g, e = .returned (.slice (some ⟨g, 0, none⟩) 21 21) ∧ g < w'.heap.size ∧ w'.cell? ⟨g, 0, none⟩ = some (.int .i64 1) ∧ w'.cell? ⟨g, 1, none⟩ = some (.int .i64 2) ∧ w'.cell? ⟨g, 2, none⟩ = some (.int .i64 3) ∧ w'.cell? ⟨g, 3, none⟩ = some (.int .i64 4)) ∧ Below w.heap.size w w' := by
  go_enter Tryz.func188, Tryz.ntmps188
  go_wp2_with fail
  go_ret
  refine ⟨⟨w.heap.size, rfl, by simp, ?_, ?_, ?_, ?_⟩, bel⟩
  all_goals simp [go_sem]
theorem rname_2 (w : World) : Calls Tryz.prog 110 #[.int .i64 2] w fun e w' => e = .returned (.string { data := #[115, 116, 114, 105, 110, 103] }) ∧ Below w.heap.size w w' := by
  have HK := Lib.hid rkinds
  go_enter Tryz.func110, Tryz.ntmps110
  go_wp2_with fail
  with_reducible refine (HK.out _).mono ?_
  rintro e w1 ⟨⟨g, rfl, hgl, g0, g1, g2, g3⟩, hb1⟩
  have c1_0 := cB hb1 w.heap.size 1 (.string { data := #[115, 116, 114, 105, 110, 103] })
  have hl1_0 := ltB hb1 w.heap.size
  have hw1 := bwB hb1 w.heap.size w
  have hz1 := hw1.size
  clear hb1
  go_wp2_with fail
  refine wp_loop_rounds 5 ?_
  rw [rounds_succ]
  go_wp2_with fail
  rw [rounds_succ]
  go_wp2_with fail
  go_ret
  exact ⟨rfl, bel⟩
theorem rname_3 (w : World) : Calls Tryz.prog 110 #[.int .i64 3] w fun e w' => e = .returned (.string { data := #[100, 111, 99, 117, 109, 101, 110, 116] }) ∧ Below w.heap.size w w' := by
  have HK := Lib.hid rkinds
  go_enter Tryz.func110, Tryz.ntmps110
  go_wp2_with fail
  with_reducible refine (HK.out _).mono ?_
  rintro e w1 ⟨⟨g, rfl, hgl, g0, g1, g2, g3⟩, hb1⟩
  have c1_0 := cB hb1 w.heap.size 2 (.string { data := #[100, 111, 99, 117, 109, 101, 110, 116] })
  have hl1_0 := ltB hb1 w.heap.size
  have hw1 := bwB hb1 w.heap.size w
  have hz1 := hw1.size
  clear hb1
  go_wp2_with fail
  refine wp_loop_rounds 5 ?_
  rw [rounds_succ]
  go_wp2_with fail
  rw [rounds_succ]
  go_wp2_with fail
  rw [rounds_succ]
  go_wp2_with fail
  go_ret
  exact ⟨rfl, bel⟩
theorem rname_4 (w : World) : Calls Tryz.prog 110 #[.int .i64 4] w fun e w' => e = .returned (.string { data := #[97, 114, 114, 97, 121] }) ∧ Below w.heap.size w w' := by
  have HK := Lib.hid rkinds
  go_enter Tryz.func110, Tryz.ntmps110
  go_wp2_with fail
  with_reducible refine (HK.out _).mono ?_
  rintro e w1 ⟨⟨g, rfl, hgl, g0, g1, g2, g3⟩, hb1⟩
  have c1_0 := cB hb1 w.heap.size 3 (.string { data := #[97, 114, 114, 97, 121] })
  have hl1_0 := ltB hb1 w.heap.size
  have hw1 := bwB hb1 w.heap.size w
  have hz1 := hw1.size
  clear hb1
  go_wp2_with fail
  refine wp_loop_rounds 5 ?_
  rw [rounds_succ]
  go_wp2_with fail
  rw [rounds_succ]
  go_wp2_with fail
  rw [rounds_succ]
  go_wp2_with fail
  rw [rounds_succ]
  go_wp2_with fail
  go_ret
  exact ⟨rfl, bel⟩
theorem has_2 (w : World) : Calls Tryz.prog 111 #[.int .i64 2] w fun e w' => e = .returned (.tuple #[.bool false, .bool false, .bool true, .bool false, .bool false, .bool false, .bool false]) ∧ w = w' := by
  go_enter Tryz.func111, Tryz.ntmps111
  go_wp2_with fail
  refine bodyPost_ret (v := .tuple #[.bool false, .bool false, .bool true, .bool false, .bool false, .bool false, .bool false]) (by simp (maxDischargeDepth := 8) [results, Tryz.results111, go_sem]) rfl ?_
  exact ⟨rfl, rfl⟩
theorem has_3 (w : World) : Calls Tryz.prog 111 #[.int .i64 3] w fun e w' => e = .returned (.tuple #[.bool false, .bool false, .bool false, .bool false, .bool false, .bool false, .bool true]) ∧ w = w' := by
  go_enter Tryz.func111, Tryz.ntmps111
  go_wp2_with fail
  refine bodyPost_ret (v := .tuple #[.bool false, .bool false, .bool false, .bool false, .bool false, .bool false, .bool true]) (by simp (maxDischargeDepth := 8) [results, Tryz.results111, go_sem]) rfl ?_
  exact ⟨rfl, rfl⟩
theorem has_4 (w : World) : Calls Tryz.prog 111 #[.int .i64 4] w fun e w' => e = .returned (.tuple #[.bool false, .bool false, .bool false, .bool false, .bool false, .bool false, .bool true]) ∧ w = w' := by
  go_enter Tryz.func111, Tryz.ntmps111
  go_wp2_with fail
  refine bodyPost_ret (v := .tuple #[.bool false, .bool false, .bool false, .bool false, .bool false, .bool false, .bool true]) (by simp (maxDischargeDepth := 8) [results, Tryz.results111, go_sem]) rfl ?_
  exact ⟨rfl, rfl⟩
theorem own_2 (tx : ByteArray) (hx : tx.size ≤ 1000000) (bd : Option Addr) (bc : Nat) (ad : Option Addr) (m c : Nat) (w : World) : Calls Tryz.prog 65 #[.agg #[.int .i64 2, .int .u64 0, .int .u64 0, .int .u64 0, .string tx, .string { data := #[] }, .int .i64 0, .slice bd 0 bc, .slice ad 0 c]] w fun e w' => e = .returned (.int .i64 (if decide (Wh (tx : ByteArray).data.toList) = true then 0 else 4)) ∧ Below w.heap.size w w' := by
  have HN := Lib.hid rname_2
  have HH := Lib.hid has_2
  have HW0 : Hid (∀ w : World, Calls Tryz.prog 112 #[.string { data := #[] }] w fun e w' => e = .returned (.bool true) ∧ Below w.heap.size w w') := Lib.hid (fun w => rwhole_any { data := #[] } (by decide) w)
  have H1 := fun w => rwhole_any tx (by first | exact hx | decide) w
  obtain ⟨b, hb⟩ : ∃ b, decide (Wh (tx : ByteArray).data.toList) = b := ⟨_, rfl⟩
  rw [hb] at H1 ⊢
  have HW1 := Lib.hid H1
  clear H1 hx hb
  cases b
  · show Calls _ _ _ _ (fun e w' => e = .returned (.int .i64 4) ∧ Below w.heap.size w w')
    go_enter Tryz.func65, Tryz.ntmps65
    go_wp2_with fail
    with_reducible refine (HN.out _).mono ?_
    rintro e w1 ⟨rfl, hb1⟩
    have c1_0 := cB hb1 w.heap.size 0 (.int .i64 2)
    have c1_1 := cB hb1 w.heap.size 1 (.int .u64 0)
    have c1_2 := cB hb1 w.heap.size 2 (.int .u64 0)
    have c1_3 := cB hb1 w.heap.size 3 (.int .u64 0)
    have c1_4 := cB hb1 w.heap.size 4 (.string tx)
    have c1_5 := cB hb1 w.heap.size 5 (.string { data := #[] })
    have c1_6 := cB hb1 w.heap.size 6 (.int .i64 0)
    have c1_7 := cB hb1 w.heap.size 7 (.slice bd 0 bc)
    have c1_8 := cB hb1 w.heap.size 8 (.slice ad 0 c)
    have hl1_0 := ltB hb1 w.heap.size
    have hw1 := bwB hb1 w.heap.size w
    have hz1 := hw1.size
    clear hb1
    go_wp2_with fail
    with_reducible refine (HH.out _).mono ?_
    rintro e w' ⟨rfl, rfl⟩
    go_wp2_with fail
    with_reducible refine (HW1.out _).mono ?_
    rintro e w2 ⟨rfl, hb2⟩
    have c2_0 := cB hb2 w.heap.size 0 (.int .i64 2)
    have c2_1 := cB hb2 w.heap.size 1 (.int .u64 0)
    have c2_2 := cB hb2 w.heap.size 2 (.int .u64 0)
    have c2_3 := cB hb2 w.heap.size 3 (.int .u64 0)
    have c2_4 := cB hb2 w.heap.size 4 (.string tx)
    have c2_5 := cB hb2 w.heap.size 5 (.string { data := #[] })
    have c2_6 := cB hb2 w.heap.size 6 (.int .i64 0)
    have c2_7 := cB hb2 w.heap.size 7 (.slice bd 0 bc)
    have c2_8 := cB hb2 w.heap.size 8 (.slice ad 0 c)
    have hl2_0 := ltB hb2 w.heap.size
    have hw2 := bwB hb2 w.heap.size w
    have hz2 := hw2.size
    clear hb2
    go_wp2_with fail
    go_ret
    exact ⟨rfl, bel⟩
  · show Calls _ _ _ _ (fun e w' => e = .returned (.int .i64 0) ∧ Below w.heap.size w w')
    go_enter Tryz.func65, Tryz.ntmps65
    go_wp2_with fail
    with_reducible refine (HN.out _).mono ?_
    rintro e w1 ⟨rfl, hb1⟩
    have c1_0 := cB hb1 w.heap.size 0 (.int .i64 2)
    have c1_1 := cB hb1 w.heap.size 1 (.int .u64 0)
    have c1_2 := cB hb1 w.heap.size 2 (.int .u64 0)
    have c1_3 := cB hb1 w.heap.size 3 (.int .u64 0)
    have c1_4 := cB hb1 w.heap.size 4 (.string tx)
    have c1_5 := cB hb1 w.heap.size 5 (.string { data := #[] })
    have c1_6 := cB hb1 w.heap.size 6 (.int .i64 0)
    have c1_7 := cB hb1 w.heap.size 7 (.slice bd 0 bc)
    have c1_8 := cB hb1 w.heap.size 8 (.slice ad 0 c)
    have hl1_0 := ltB hb1 w.heap.size
    have hw1 := bwB hb1 w.heap.size w
    have hz1 := hw1.size
    clear hb1
    go_wp2_with fail
    with_reducible refine (HH.out _).mono ?_
    rintro e w' ⟨rfl, rfl⟩
    go_wp2_with fail
    with_reducible refine (HW1.out _).mono ?_
    rintro e w2 ⟨rfl, hb2⟩
    have c2_0 := cB hb2 w.heap.size 0 (.int .i64 2)
    have c2_1 := cB hb2 w.heap.size 1 (.int .u64 0)
    have c2_2 := cB hb2 w.heap.size 2 (.int .u64 0)
    have c2_3 := cB hb2 w.heap.size 3 (.int .u64 0)
    have c2_4 := cB hb2 w.heap.size 4 (.string tx)
    have c2_5 := cB hb2 w.heap.size 5 (.string { data := #[] })
    have c2_6 := cB hb2 w.heap.size 6 (.int .i64 0)
    have c2_7 := cB hb2 w.heap.size 7 (.slice bd 0 bc)
    have c2_8 := cB hb2 w.heap.size 8 (.slice ad 0 c)
    have hl2_0 := ltB hb2 w.heap.size
    have hw2 := bwB hb2 w.heap.size w
    have hz2 := hw2.size
    clear hb2
    go_wp2_with fail
    with_reducible refine (HW0.out _).mono ?_
    rintro e w3 ⟨rfl, hb3⟩
    have c3_0 := cB hb3 w.heap.size 0 (.int .i64 2)
    have c3_1 := cB hb3 w.heap.size 1 (.int .u64 0)
    have c3_2 := cB hb3 w.heap.size 2 (.int .u64 0)
    have c3_3 := cB hb3 w.heap.size 3 (.int .u64 0)
    have c3_4 := cB hb3 w.heap.size 4 (.string tx)
    have c3_5 := cB hb3 w.heap.size 5 (.string { data := #[] })
    have c3_6 := cB hb3 w.heap.size 6 (.int .i64 0)
    have c3_7 := cB hb3 w.heap.size 7 (.slice bd 0 bc)
    have c3_8 := cB hb3 w.heap.size 8 (.slice ad 0 c)
    have hl3_0 := ltB hb3 w.heap.size
    have hw3 := bwB hb3 w.heap.size w
    have hz3 := hw3.size
    clear hb3
    go_wp2_with fail
    go_ret
    exact ⟨rfl, bel⟩
theorem own_3 (tx : ByteArray) (hx : tx.size ≤ 1000000) (bd : Option Addr) (bc : Nat) (ad : Option Addr) (m c : Nat) (w : World) : Calls Tryz.prog 65 #[.agg #[.int .i64 3, .int .u64 0, .int .u64 0, .int .u64 0, .string { data := #[] }, .string { data := #[] }, .int .i64 0, .slice bd 0 bc, .slice ad m c]] w fun e w' => e = .returned (.int .i64 (if decide (Wh ({ data := #[] } : ByteArray).data.toList) = true then 0 else 4)) ∧ Below w.heap.size w w' := by
  have HN := Lib.hid rname_3
  have HH := Lib.hid has_3
  have HW0 : Hid (∀ w : World, Calls Tryz.prog 112 #[.string { data := #[] }] w fun e w' => e = .returned (.bool true) ∧ Below w.heap.size w w') := Lib.hid (fun w => rwhole_any { data := #[] } (by decide) w)
  have H1 := fun w => rwhole_any { data := #[] } (by first | exact hx | decide) w
  obtain ⟨b, hb⟩ : ∃ b, decide (Wh ({ data := #[] } : ByteArray).data.toList) = b := ⟨_, rfl⟩
  rw [hb] at H1 ⊢
  have HW1 := Lib.hid H1
  clear H1 hx hb
  cases b
  · show Calls _ _ _ _ (fun e w' => e = .returned (.int .i64 4) ∧ Below w.heap.size w w')
    go_enter Tryz.func65, Tryz.ntmps65
    go_wp2_with fail
    with_reducible refine (HN.out _).mono ?_
    rintro e w1 ⟨rfl, hb1⟩
    have c1_0 := cB hb1 w.heap.size 0 (.int .i64 3)
    have c1_1 := cB hb1 w.heap.size 1 (.int .u64 0)
    have c1_2 := cB hb1 w.heap.size 2 (.int .u64 0)
    have c1_3 := cB hb1 w.heap.size 3 (.int .u64 0)
    have c1_4 := cB hb1 w.heap.size 4 (.string { data := #[] })
    have c1_5 := cB hb1 w.heap.size 5 (.string { data := #[] })
    have c1_6 := cB hb1 w.heap.size 6 (.int .i64 0)
    have c1_7 := cB hb1 w.heap.size 7 (.slice bd 0 bc)
    have c1_8 := cB hb1 w.heap.size 8 (.slice ad m c)
    have hl1_0 := ltB hb1 w.heap.size
    have hw1 := bwB hb1 w.heap.size w
    have hz1 := hw1.size
    clear hb1
    go_wp2_with fail
    with_reducible refine (HH.out _).mono ?_
    rintro e w' ⟨rfl, rfl⟩
    go_wp2_with fail
    with_reducible refine (HW1.out _).mono ?_
    rintro e w2 ⟨rfl, hb2⟩
    have c2_0 := cB hb2 w.heap.size 0 (.int .i64 3)
    have c2_1 := cB hb2 w.heap.size 1 (.int .u64 0)
    have c2_2 := cB hb2 w.heap.size 2 (.int .u64 0)
    have c2_3 := cB hb2 w.heap.size 3 (.int .u64 0)
    have c2_4 := cB hb2 w.heap.size 4 (.string { data := #[] })
    have c2_5 := cB hb2 w.heap.size 5 (.string { data := #[] })
    have c2_6 := cB hb2 w.heap.size 6 (.int .i64 0)
    have c2_7 := cB hb2 w.heap.size 7 (.slice bd 0 bc)
    have c2_8 := cB hb2 w.heap.size 8 (.slice ad m c)
    have hl2_0 := ltB hb2 w.heap.size
    have hw2 := bwB hb2 w.heap.size w
    have hz2 := hw2.size
    clear hb2
    go_wp2_with fail
    go_ret
    exact ⟨rfl, bel⟩
  · show Calls _ _ _ _ (fun e w' => e = .returned (.int .i64 0) ∧ Below w.heap.size w w')
    go_enter Tryz.func65, Tryz.ntmps65
    go_wp2_with fail
    with_reducible refine (HN.out _).mono ?_
    rintro e w1 ⟨rfl, hb1⟩
    have c1_0 := cB hb1 w.heap.size 0 (.int .i64 3)
    have c1_1 := cB hb1 w.heap.size 1 (.int .u64 0)
    have c1_2 := cB hb1 w.heap.size 2 (.int .u64 0)
    have c1_3 := cB hb1 w.heap.size 3 (.int .u64 0)
    have c1_4 := cB hb1 w.heap.size 4 (.string { data := #[] })
    have c1_5 := cB hb1 w.heap.size 5 (.string { data := #[] })
    have c1_6 := cB hb1 w.heap.size 6 (.int .i64 0)
    have c1_7 := cB hb1 w.heap.size 7 (.slice bd 0 bc)
    have c1_8 := cB hb1 w.heap.size 8 (.slice ad m c)
    have hl1_0 := ltB hb1 w.heap.size
    have hw1 := bwB hb1 w.heap.size w
    have hz1 := hw1.size
    clear hb1
    go_wp2_with fail
    with_reducible refine (HH.out _).mono ?_
    rintro e w' ⟨rfl, rfl⟩
    go_wp2_with fail
    with_reducible refine (HW1.out _).mono ?_
    rintro e w2 ⟨rfl, hb2⟩
    have c2_0 := cB hb2 w.heap.size 0 (.int .i64 3)
    have c2_1 := cB hb2 w.heap.size 1 (.int .u64 0)
    have c2_2 := cB hb2 w.heap.size 2 (.int .u64 0)
    have c2_3 := cB hb2 w.heap.size 3 (.int .u64 0)
    have c2_4 := cB hb2 w.heap.size 4 (.string { data := #[] })
    have c2_5 := cB hb2 w.heap.size 5 (.string { data := #[] })
    have c2_6 := cB hb2 w.heap.size 6 (.int .i64 0)
    have c2_7 := cB hb2 w.heap.size 7 (.slice bd 0 bc)
    have c2_8 := cB hb2 w.heap.size 8 (.slice ad m c)
    have hl2_0 := ltB hb2 w.heap.size
    have hw2 := bwB hb2 w.heap.size w
    have hz2 := hw2.size
    clear hb2
    go_wp2_with fail
    with_reducible refine (HW0.out _).mono ?_
    rintro e w3 ⟨rfl, hb3⟩
    have c3_0 := cB hb3 w.heap.size 0 (.int .i64 3)
    have c3_1 := cB hb3 w.heap.size 1 (.int .u64 0)
    have c3_2 := cB hb3 w.heap.size 2 (.int .u64 0)
    have c3_3 := cB hb3 w.heap.size 3 (.int .u64 0)
    have c3_4 := cB hb3 w.heap.size 4 (.string { data := #[] })
    have c3_5 := cB hb3 w.heap.size 5 (.string { data := #[] })
    have c3_6 := cB hb3 w.heap.size 6 (.int .i64 0)
    have c3_7 := cB hb3 w.heap.size 7 (.slice bd 0 bc)
    have c3_8 := cB hb3 w.heap.size 8 (.slice ad m c)
    have hl3_0 := ltB hb3 w.heap.size
    have hw3 := bwB hb3 w.heap.size w
    have hz3 := hw3.size
    clear hb3
    go_wp2_with fail
    go_ret
    exact ⟨rfl, bel⟩
theorem own_4 (tx : ByteArray) (hx : tx.size ≤ 1000000) (bd : Option Addr) (bc : Nat) (ad : Option Addr) (m c : Nat) (w : World) : Calls Tryz.prog 65 #[.agg #[.int .i64 4, .int .u64 0, .int .u64 0, .int .u64 0, .string { data := #[] }, .string { data := #[] }, .int .i64 0, .slice bd 0 bc, .slice ad m c]] w fun e w' => e = .returned (.int .i64 (if decide (Wh ({ data := #[] } : ByteArray).data.toList) = true then 0 else 4)) ∧ Below w.heap.size w w' := by
  have HN := Lib.hid rname_4
  have HH := Lib.hid has_4
  have HW0 : Hid (∀ w : World, Calls Tryz.prog 112 #[.string { data := #[] }] w fun e w' => e = .returned (.bool true) ∧ Below w.heap.size w w') := Lib.hid (fun w => rwhole_any { data := #[] } (by decide) w)
  have H1 := fun w => rwhole_any { data := #[] } (by first | exact hx | decide) w
  obtain ⟨b, hb⟩ : ∃ b, decide (Wh ({ data := #[] } : ByteArray).data.toList) = b := ⟨_, rfl⟩
  rw [hb] at H1 ⊢
  have HW1 := Lib.hid H1
  clear H1 hx hb
  cases b
  · show Calls _ _ _ _ (fun e w' => e = .returned (.int .i64 4) ∧ Below w.heap.size w w')
    go_enter Tryz.func65, Tryz.ntmps65
    go_wp2_with fail
    with_reducible refine (HN.out _).mono ?_
    rintro e w1 ⟨rfl, hb1⟩
    have c1_0 := cB hb1 w.heap.size 0 (.int .i64 4)
    have c1_1 := cB hb1 w.heap.size 1 (.int .u64 0)
    have c1_2 := cB hb1 w.heap.size 2 (.int .u64 0)
    have c1_3 := cB hb1 w.heap.size 3 (.int .u64 0)
    have c1_4 := cB hb1 w.heap.size 4 (.string { data := #[] })
    have c1_5 := cB hb1 w.heap.size 5 (.string { data := #[] })
    have c1_6 := cB hb1 w.heap.size 6 (.int .i64 0)
    have c1_7 := cB hb1 w.heap.size 7 (.slice bd 0 bc)
    have c1_8 := cB hb1 w.heap.size 8 (.slice ad m c)
    have hl1_0 := ltB hb1 w.heap.size
    have hw1 := bwB hb1 w.heap.size w
    have hz1 := hw1.size
    clear hb1
    go_wp2_with fail
    with_reducible refine (HH.out _).mono ?_
    rintro e w' ⟨rfl, rfl⟩
    go_wp2_with fail
    with_reducible refine (HW1.out _).mono ?_
    rintro e w2 ⟨rfl, hb2⟩
    have c2_0 := cB hb2 w.heap.size 0 (.int .i64 4)
    have c2_1 := cB hb2 w.heap.size 1 (.int .u64 0)
    have c2_2 := cB hb2 w.heap.size 2 (.int .u64 0)
    have c2_3 := cB hb2 w.heap.size 3 (.int .u64 0)
    have c2_4 := cB hb2 w.heap.size 4 (.string { data := #[] })
    have c2_5 := cB hb2 w.heap.size 5 (.string { data := #[] })
    have c2_6 := cB hb2 w.heap.size 6 (.int .i64 0)
    have c2_7 := cB hb2 w.heap.size 7 (.slice bd 0 bc)
    have c2_8 := cB hb2 w.heap.size 8 (.slice ad m c)
    have hl2_0 := ltB hb2 w.heap.size
    have hw2 := bwB hb2 w.heap.size w
    have hz2 := hw2.size
    clear hb2
    go_wp2_with fail
    go_ret
    exact ⟨rfl, bel⟩
  · show Calls _ _ _ _ (fun e w' => e = .returned (.int .i64 0) ∧ Below w.heap.size w w')
    go_enter Tryz.func65, Tryz.ntmps65
    go_wp2_with fail
    with_reducible refine (HN.out _).mono ?_
    rintro e w1 ⟨rfl, hb1⟩
    have c1_0 := cB hb1 w.heap.size 0 (.int .i64 4)
    have c1_1 := cB hb1 w.heap.size 1 (.int .u64 0)
    have c1_2 := cB hb1 w.heap.size 2 (.int .u64 0)
    have c1_3 := cB hb1 w.heap.size 3 (.int .u64 0)
    have c1_4 := cB hb1 w.heap.size 4 (.string { data := #[] })
    have c1_5 := cB hb1 w.heap.size 5 (.string { data := #[] })
    have c1_6 := cB hb1 w.heap.size 6 (.int .i64 0)
    have c1_7 := cB hb1 w.heap.size 7 (.slice bd 0 bc)
    have c1_8 := cB hb1 w.heap.size 8 (.slice ad m c)
    have hl1_0 := ltB hb1 w.heap.size
    have hw1 := bwB hb1 w.heap.size w
    have hz1 := hw1.size
    clear hb1
    go_wp2_with fail
    with_reducible refine (HH.out _).mono ?_
    rintro e w' ⟨rfl, rfl⟩
    go_wp2_with fail
    with_reducible refine (HW1.out _).mono ?_
    rintro e w2 ⟨rfl, hb2⟩
    have c2_0 := cB hb2 w.heap.size 0 (.int .i64 4)
    have c2_1 := cB hb2 w.heap.size 1 (.int .u64 0)
    have c2_2 := cB hb2 w.heap.size 2 (.int .u64 0)
    have c2_3 := cB hb2 w.heap.size 3 (.int .u64 0)
    have c2_4 := cB hb2 w.heap.size 4 (.string { data := #[] })
    have c2_5 := cB hb2 w.heap.size 5 (.string { data := #[] })
    have c2_6 := cB hb2 w.heap.size 6 (.int .i64 0)
    have c2_7 := cB hb2 w.heap.size 7 (.slice bd 0 bc)
    have c2_8 := cB hb2 w.heap.size 8 (.slice ad m c)
    have hl2_0 := ltB hb2 w.heap.size
    have hw2 := bwB hb2 w.heap.size w
    have hz2 := hw2.size
    clear hb2
    go_wp2_with fail
    with_reducible refine (HW0.out _).mono ?_
    rintro e w3 ⟨rfl, hb3⟩
    have c3_0 := cB hb3 w.heap.size 0 (.int .i64 4)
    have c3_1 := cB hb3 w.heap.size 1 (.int .u64 0)
    have c3_2 := cB hb3 w.heap.size 2 (.int .u64 0)
    have c3_3 := cB hb3 w.heap.size 3 (.int .u64 0)
    have c3_4 := cB hb3 w.heap.size 4 (.string { data := #[] })
    have c3_5 := cB hb3 w.heap.size 5 (.string { data := #[] })
    have c3_6 := cB hb3 w.heap.size 6 (.int .i64 0)
    have c3_7 := cB hb3 w.heap.size 7 (.slice bd 0 bc)
    have c3_8 := cB hb3 w.heap.size 8 (.slice ad m c)
    have hl3_0 := ltB hb3 w.heap.size
    have hw3 := bwB hb3 w.heap.size w
    have hz3 := hw3.size
    clear hb3
    go_wp2_with fail
    go_ret
    exact ⟨rfl, bel⟩
end
end Go.Proofs.YtihnfhhopldllaaGreatDoor
