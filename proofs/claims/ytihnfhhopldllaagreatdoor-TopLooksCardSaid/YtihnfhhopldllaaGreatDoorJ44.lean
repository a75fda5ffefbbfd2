/- Parts of the proof of TopLooks: U81. No condition. -/
import Derived.Test.YtihnfhhopldllaaGreatDoorJ1
import Derived.Test.YtihnfhhopldllaaGreatDoorJ35
import Derived.Test.YtihnfhhopldllaaGreatDoorJ43
import Derived.Test.YtihnfhhopldllaaGreatDoorJ9
namespace Go.Proofs.YtihnfhhopldllaaGreatDoor
set_option linter.unusedSimpArgs false
set_option linter.unusedVariables false
set_option maxHeartbeats 6400000
set_option maxRecDepth 100000
section
open Go.RowKit
theorem dtext_any (s : ByteArray) (w : World) : Calls Tryz.prog 154 #[.string s] w fun e w' => e = .returned (.agg #[.int .i64 4, .int .u64 0, .slice none 0 0, .string s, .slice none 0 0]) ∧ Below w.heap.size w w' := by
  go_enter Tryz.func154, Tryz.ntmps154
  go_wp2_with fail
  refine bodyPost_ret (v := .agg #[.int .i64 4, .int .u64 0, .slice none 0 0, .string s, .slice none 0 0]) (by simp (maxDischargeDepth := 3) [results, Tryz.results154, go_sem]) rfl ?_
  exact ⟨rfl, bel⟩
theorem dplus_1  (w : World) : Calls Tryz.prog 279 #[.int .u64 1] w fun e w' => e = .returned (.agg #[.int .i64 1, .int .u64 1, .slice none 0 0, .string { data := #[] }, .slice none 0 0]) ∧ Below w.heap.size w w' := by
  go_enter Tryz.func279, Tryz.ntmps279
  go_wp2_with fail
  refine bodyPost_ret (v := .agg #[.int .i64 1, .int .u64 1, .slice none 0 0, .string { data := #[] }, .slice none 0 0]) (by simp (maxDischargeDepth := 3) [results, Tryz.results279, go_sem]) rfl ?_
  exact ⟨rfl, bel⟩
theorem dint_1 (w : World) : Calls Tryz.prog 216 #[.int .i64 1] w fun e w' => e = .returned (.agg #[.int .i64 1, .int .u64 1, .slice none 0 0, .string { data := #[] }, .slice none 0 0]) ∧ Below w.heap.size w w' := by
  have HP := Lib.hid dplus_1
  go_enter Tryz.func216, Tryz.ntmps216
  go_wp2_with fail
  with_reducible refine (HP.out _).mono ?_
  rintro e w1 ⟨rfl, hb1⟩
  obtain ⟨c1_0, f1_0⟩ := cf hb1 w.heap.size 0 (.int .i64 0)
  obtain ⟨c1_1, f1_1⟩ := cf hb1 w.heap.size 1 (.int .u64 0)
  obtain ⟨c1_2, f1_2⟩ := cf hb1 w.heap.size 2 (.slice none 0 0)
  obtain ⟨c1_3, f1_3⟩ := cf hb1 w.heap.size 3 (.string { data := #[] })
  obtain ⟨c1_4, f1_4⟩ := cf hb1 w.heap.size 4 (.slice none 0 0)
  have hl1_0 := ltB hb1 w.heap.size
  have hw1 := bwB hb1 w.heap.size w
  have hz1 := hw1.size
  clear hb1
  go_wp2_with fail
  refine bodyPost_ret (v := .agg #[.int .i64 1, .int .u64 1, .slice none 0 0, .string { data := #[] }, .slice none 0 0]) (by simp (maxDischargeDepth := 3) [results, Tryz.results216, go_sem, c1_0, f1_0, c1_1, f1_1, c1_2, f1_2, c1_3, f1_3, c1_4, f1_4]) rfl ?_
  exact ⟨rfl, bel⟩
theorem ditem_I (bd sd : Option Addr) (bc sc : Nat) (w : World) : Calls Tryz.prog 155 #[.agg #[.int .i64 16, .int .u64 1, .int .u64 0, .int .u64 0, .string { data := #[] }, .string { data := #[] }, .int .i64 0, .slice bd 0 bc, .slice sd 0 sc]] w fun e w' => e = .returned (.agg #[.int .i64 1, .int .u64 1, .slice none 0 0, .string { data := #[] }, .slice none 0 0]) ∧ Below w.heap.size w w' := by
  have HP := Lib.hid dint_1
  go_enter Tryz.func155, Tryz.ntmps155
  go_wp2_with fail
  with_reducible refine (HP.out _).mono ?_
  rintro e w1 ⟨rfl, hb1⟩
  obtain ⟨c1_0, f1_0⟩ := cf hb1 (w.heap.size + 1) 0 (.int .i64 0)
  obtain ⟨c1_1, f1_1⟩ := cf hb1 (w.heap.size + 1) 1 (.int .u64 0)
  obtain ⟨c1_2, f1_2⟩ := cf hb1 (w.heap.size + 1) 2 (.slice none 0 0)
  obtain ⟨c1_3, f1_3⟩ := cf hb1 (w.heap.size + 1) 3 (.string { data := #[] })
  obtain ⟨c1_4, f1_4⟩ := cf hb1 (w.heap.size + 1) 4 (.slice none 0 0)
  have hl1_0 := ltB hb1 (w.heap.size + 1)
  have hw1 := bwB hb1 w.heap.size w
  have hz1 := hw1.size
  clear hb1
  go_wp2_with fail
  refine bodyPost_ret (v := .agg #[.int .i64 1, .int .u64 1, .slice none 0 0, .string { data := #[] }, .slice none 0 0]) (by simp (maxDischargeDepth := 3) [results, Tryz.results155, go_sem, c1_0, f1_0, c1_1, f1_1, c1_2, f1_2, c1_3, f1_3, c1_4, f1_4]) rfl ?_
  exact ⟨rfl, bel⟩
theorem mapped_i (b o c : Nat) (bd sd : Option Addr) (bc sc : Nat) (w : World) (hb : b < w.heap.size) (r0 : w.cell? ⟨b, o, none⟩ = some (.string { data := #[97] })) (r1 : w.cell? ⟨b, o + 1, none⟩ = some (.int .i64 16)) (r2 : w.cell? ⟨b, o + 2, none⟩ = some (.int .u64 1)) (r3 : w.cell? ⟨b, o + 3, none⟩ = some (.int .u64 0)) (r4 : w.cell? ⟨b, o + 4, none⟩ = some (.int .u64 0)) (r5 : w.cell? ⟨b, o + 5, none⟩ = some (.string { data := #[] })) (r6 : w.cell? ⟨b, o + 6, none⟩ = some (.string { data := #[] })) (r7 : w.cell? ⟨b, o + 7, none⟩ = some (.int .i64 0)) (r8 : w.cell? ⟨b, o + 8, none⟩ = some (.slice bd 0 bc)) (r9 : w.cell? ⟨b, o + 9, none⟩ = some (.slice sd 0 sc)) : Calls Tryz.prog 93 #[.slice (some ⟨b, o, none⟩) 1 c] w fun e w' => (∃ g c2, e = .returned (.agg #[.int .i64 6, .int .u64 0, .slice none 0 0, .string { data := #[] }, .slice (some ⟨g, 0, none⟩) 2 c2]) ∧ ItM w' g ∧ w.heap.size ≤ g) ∧ Below w.heap.size w w' := by
  have HT := Lib.hid (fun w => dtext_any { data := #[97] } w)
  have HI := Lib.hid (fun w => ditem_I bd sd bc sc w)
  have h1 : b ≠ w.heap.size := by omega
  have h2 : b ≠ w.heap.size + 1 := by omega
  have h3 : b < w.heap.size + 1 := by omega
  have h4 : b < w.heap.size + 1 + 1 := by omega
  have h5 : b ≠ w.heap.size + 1 + 1 := by omega
  obtain ⟨i0, hi, iz0, iz1, iz2⟩ := hi_item
  go_enter Tryz.func93, Tryz.ntmps93
  go_wp2_with fail
  refine wp_loop_rounds 3 ?_
  rw [rounds_succ]
  go_upto_region 5 with fail
  obtain ⟨x, hx⟩ : ∃ X, X = ((w.alloc (Obj.cells #[.int .i64 0, .int .u64 0, .slice none 0 0, .string { data := #[] }, .slice none 0 0] 96)).alloc (Obj.cells #[.int .i64 6, .int .u64 0, .slice none 0 0, .string { data := #[] }, .slice none 0 0] 96)).alloc (Obj.cells #[.string { data := #[97] }, .int .i64 16, .int .u64 1, .int .u64 0, .int .u64 0, .string { data := #[] }, .string { data := #[] }, .int .i64 0, .slice bd 0 bc, .slice sd 0 sc] 51) := ⟨_, rfl⟩
  rw [← hx]
  have hwx : Below w.heap.size w x := by
    rw [hx]
    exact bel
  have hlx : w.heap.size + 1 + 1 < x.heap.size := by
    rw [hx]
    simp
  have dx_0 := cX hx (w.heap.size + 1 + 1) 0 (.string { data := #[97] })
  have dx_1 := cX hx (w.heap.size + 1 + 1) 1 (.int .i64 16)
  have dx_2 := cX hx (w.heap.size + 1 + 1) 2 (.int .u64 1)
  have dx_3 := cX hx (w.heap.size + 1 + 1) 3 (.int .u64 0)
  have dx_4 := cX hx (w.heap.size + 1 + 1) 4 (.int .u64 0)
  have dx_5 := cX hx (w.heap.size + 1 + 1) 5 (.string { data := #[] })
  have dx_6 := cX hx (w.heap.size + 1 + 1) 6 (.string { data := #[] })
  have dx_7 := cX hx (w.heap.size + 1 + 1) 7 (.int .i64 0)
  have dx_8 := cX hx (w.heap.size + 1 + 1) 8 (.slice bd 0 bc)
  have dx_9 := cX hx (w.heap.size + 1 + 1) 9 (.slice sd 0 sc)
  have dx_10 := cX hx (w.heap.size + 1) 0 (.int .i64 6)
  have dx_11 := cX hx (w.heap.size + 1) 1 (.int .u64 0)
  have dx_12 := cX hx (w.heap.size + 1) 2 (.slice none 0 0)
  have dx_13 := cX hx (w.heap.size + 1) 3 (.string { data := #[] })
  have dx_14 := cX hx (w.heap.size + 1) 4 (.slice none 0 0)
  have dx_15 := cX hx w.heap.size 0 (.int .i64 0)
  have dx_16 := cX hx w.heap.size 1 (.int .u64 0)
  have dx_17 := cX hx w.heap.size 2 (.slice none 0 0)
  have dx_18 := cX hx w.heap.size 3 (.string { data := #[] })
  have dx_19 := cX hx w.heap.size 4 (.slice none 0 0)
  have dfx_0 := fX hx (w.heap.size + 1) 0
  have dfx_1 := fX hx (w.heap.size + 1) 1
  have dfx_2 := fX hx (w.heap.size + 1) 2
  have dfx_3 := fX hx (w.heap.size + 1) 3
  have dfx_4 := fX hx (w.heap.size + 1) 4
  have dfx_5 := fX hx w.heap.size 0
  have dfx_6 := fX hx w.heap.size 1
  have dfx_7 := fX hx w.heap.size 2
  have dfx_8 := fX hx w.heap.size 3
  have dfx_9 := fX hx w.heap.size 4
  clear hx
  apply cut_w6 (fun w7 g7 _ _ => ItM w7 g7 ∧ Below x.heap.size x w7 ∧ x.heap.size ≤ g7)
  case key =>
    intro key
    go_region_law (first | (go_simp; go_at_call 154; (refine (HT.out _).mono ?_); rintro e w6 ⟨rfl, hb6⟩; have hx6 : Below x.heap.size x w6 := Below.trans bel (hb6.mono (by first | (simp; done) | (simp; omega) | omega)); have hz6 : w.heap.size + 1 + 1 < w6.heap.size := (by have := hx6.size; omega); have hy6 := hx6.size; have hu6 : w.heap.size + 1 < w6.heap.size := (by omega); have hv6 : w.heap.size < w6.heap.size := (by omega); have d6_0 := cT hx6 dx_0; have d6_1 := cT hx6 dx_1; have d6_2 := cT hx6 dx_2; have d6_3 := cT hx6 dx_3; have d6_4 := cT hx6 dx_4; have d6_5 := cT hx6 dx_5; have d6_6 := cT hx6 dx_6; have d6_7 := cT hx6 dx_7; have d6_8 := cT hx6 dx_8; have d6_9 := cT hx6 dx_9; have d6_10 := cT hx6 dx_10; have d6_11 := cT hx6 dx_11; have d6_12 := cT hx6 dx_12; have d6_13 := cT hx6 dx_13; have d6_14 := cT hx6 dx_14; have df6_0 := fT hx6 dfx_0; have df6_1 := fT hx6 dfx_1; have df6_2 := fT hx6 dfx_2; have df6_3 := fT hx6 dfx_3; have df6_4 := fT hx6 dfx_4) | (go_simp; go_at_call 155; (refine (HI.out _).mono ?_); rintro e w6 ⟨rfl, hb6⟩; have hx6 : Below x.heap.size x w6 := Below.trans bel (hb6.mono (by first | (simp; done) | (simp; omega) | omega)); have hz6 : w.heap.size + 1 + 1 < w6.heap.size := (by have := hx6.size; omega); have hy6 := hx6.size; have hu6 : w.heap.size + 1 < w6.heap.size := (by omega); have hv6 : w.heap.size < w6.heap.size := (by omega); have d6_0 := cT hx6 dx_0; have d6_1 := cT hx6 dx_1; have d6_2 := cT hx6 dx_2; have d6_3 := cT hx6 dx_3; have d6_4 := cT hx6 dx_4; have d6_5 := cT hx6 dx_5; have d6_6 := cT hx6 dx_6; have d6_7 := cT hx6 dx_7; have d6_8 := cT hx6 dx_8; have d6_9 := cT hx6 dx_9; have d6_10 := cT hx6 dx_10; have d6_11 := cT hx6 dx_11; have d6_12 := cT hx6 dx_12; have d6_13 := cT hx6 dx_13; have d6_14 := cT hx6 dx_14; have df6_0 := fT hx6 dfx_0; have df6_1 := fT hx6 dfx_1; have df6_2 := fT hx6 dfx_2; have df6_3 := fT hx6 dfx_3; have df6_4 := fT hx6 dfx_4) | (refine step_append_lies _ rfl _ _ _ rfl 0 96 i0 _ 5 80 Tryz.underlying94 hi iz0 iz1 iz2 rfl (by decide) (.slice none 0 0) 0 [] evl (World.ownsRow_nil _ _ _ _) ⟨w6.heap.size, 0, none⟩ 2 2 [.int .i64 4, .int .u64 0, .slice none 0 0, .string { data := #[97] }, .slice none 0 0, .int .i64 1, .int .u64 1, .slice none 0 0, .string { data := #[] }, .slice none 0 0] evl rfl ?c1 ?c2 (by decide) ?c3 ?c4 ?c5 _ rfl ?_; (case c1 => exact World.news_of_block (cs := #[.int .i64 4, .int .u64 0, .slice none 0 0, .string { data := #[97] }, .slice none 0 0, .int .i64 1, .int .u64 1, .slice none 0 0, .string { data := #[] }, .slice none 0 0]) (heap_alloc_last w6 _)); (case c2 => exact itL_one); (case c3 => (unfold maxLen; omega)); (case c4 => omega); (case c5 => exact Nat.zero_le _); intro g7 cap7 w7 hown7 hgrow7 hat7 hlt7; have hb7 : Below w6.heap.size w6 w7 := Below.trans bel ((below_grown hgrow7).mono (by simp)); have hz7 := hb7.size; have hg7 : w6.heap.size ≤ g7 := (by rcases hat7 with h | h <;> first | (cases h; done) | (simp at h; omega)); have hit : ItM w7 g7 := itM_own hown7; have hx7 : Below x.heap.size x w7 := hx6.trans (hb7.mono (by omega)); have hl70 : w.heap.size + 1 < w7.heap.size := (by omega); have d7_0 := cT hx7 dx_10; have d7_1 := cT hx7 dx_11; have d7_2 := cT hx7 dx_12; have d7_3 := cT hx7 dx_13; have d7_4 := cT hx7 dx_14; have df7_0 := fT hx7 dfx_0; have df7_1 := fT hx7 dfx_1; have df7_2 := fT hx7 dfx_2; have df7_3 := fT hx7 dfx_3; have df7_4 := fT hx7 dfx_4))
    all_goals exact key w7 g7 cap7 w6 ⟨hit, hx7, by have := hx6.size; omega⟩
  case pf =>
    rintro w7 g7 cap7 w6 ⟨hit, hx7, hg7x⟩
    have hz7x := hx7.size
    have hl70 : w.heap.size + 1 < w7.heap.size := by omega
    have hl71 : w.heap.size < w7.heap.size := by omega
    have hg71 : w.heap.size ≤ g7 := by omega
    have d7_0 := cT hx7 dx_10
    have d7_1 := cT hx7 dx_11
    have d7_2 := cT hx7 dx_12
    have d7_3 := cT hx7 dx_13
    have d7_4 := cT hx7 dx_14
    have df7_0 := fT hx7 dfx_0
    have df7_1 := fT hx7 dfx_1
    have df7_2 := fT hx7 dfx_2
    have df7_3 := fT hx7 dfx_3
    have df7_4 := fT hx7 dfx_4
    have hgn : w.heap.size + 1 < g7 := by omega
    have hwy : Below w.heap.size w w7 := hwx.trans (hx7.mono (by omega))
    have z7_0 := cT hx7 dx_15
    have zf7_0 := fT hx7 dfx_5
    have z7_1 := cT hx7 dx_16
    have zf7_1 := fT hx7 dfx_6
    have z7_2 := cT hx7 dx_17
    have zf7_2 := fT hx7 dfx_7
    have z7_3 := cT hx7 dx_18
    have zf7_3 := fT hx7 dfx_8
    have z7_4 := cT hx7 dx_19
    have zf7_4 := fT hx7 dfx_9
    have HIT := Lib.hid hit
    clear hit
    go_wp2_with fail
    rw [rounds_succ]
    go_wp2_with fail
    refine bodyPost_ret (v := .agg #[.int .i64 6, .int .u64 0, .slice none 0 0, .string { data := #[] }, .slice (some ⟨g7, 0, none⟩) 2 cap7]) (by simp (maxDischargeDepth := 4) [results, Tryz.results93, go_sem, d7_0, d7_1, d7_2, d7_3, df7_4, z7_0, z7_1, z7_2, z7_3, z7_4, zf7_0, zf7_1, zf7_2, zf7_3, zf7_4, hl70, hl71]) rfl ?_
    refine ⟨⟨g7, cap7, rfl, HIT.out.keeps (Q := fun b => b ≠ w.heap.size ∧ b ≠ w.heap.size + 1) ?_ ⟨by omega, by omega⟩, by omega⟩, bel⟩
    repeat' (first | (with_reducible exact Keeps.refl _ _) | (with_reducible refine keeps_set ?_ (by dsimp only; omega) _) | (with_reducible refine keeps_alloc ?_ _))
end
end Go.Proofs.YtihnfhhopldllaaGreatDoor
