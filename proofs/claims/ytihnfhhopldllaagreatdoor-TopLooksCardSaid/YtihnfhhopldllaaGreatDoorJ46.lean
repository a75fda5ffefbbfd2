/- Parts of the proof of TopLooks: U90. No condition. -/
import Derived.Test.YtihnfhhopldllaaGreatDoorJ1
import Derived.Test.YtihnfhhopldllaaGreatDoorJ27
import Derived.Test.YtihnfhhopldllaaGreatDoorJ35
import Derived.Test.YtihnfhhopldllaaGreatDoorJ37
import Derived.Test.YtihnfhhopldllaaGreatDoorJ5
import Derived.Test.YtihnfhhopldllaaGreatDoorJ9
namespace Go.Proofs.YtihnfhhopldllaaGreatDoor
set_option linter.unusedSimpArgs false
set_option linter.unusedVariables false
set_option maxHeartbeats 6400000
set_option maxRecDepth 100000
section
open Go.RowKit
theorem dnumber_1 (w : World) : Calls Tryz.prog 207 #[.agg #[.int .i64 1, .int .u64 1, .slice none 0 0, .string { data := #[] }, .slice none 0 0]] w fun e w' => e = .returned (.tuple #[.int .i64 1, .bool true]) ∧ Below w.heap.size w w' := by
  go_enter Tryz.func207, Tryz.ntmps207
  go_wp2_with fail
  refine bodyPost_ret (v := .tuple #[.int .i64 1, .bool true]) (by simp (maxDischargeDepth := 4) [results, Tryz.results207, go_sem]) rfl ?_
  exact ⟨rfl, bel⟩
theorem dvalue_U (p : Value) (w : World) : Calls Tryz.prog 137 #[.agg #[.int .i64 1, .int .u64 1, .slice none 0 0, .string { data := #[] }, .slice none 0 0], p] w fun e w' => e = .returned (.tuple #[.agg #[.int .i64 16, .int .u64 1, .int .u64 0, .int .u64 0, .string { data := #[] }, .string { data := #[] }, .int .i64 0, .slice none 0 0, .slice none 0 0], .agg #[.int .i64 0, .int .i64 0, .slice none 0 0]]) ∧ Below w.heap.size w w' := by
  have HN := Lib.hid dnumber_1
  go_enter Tryz.func137, Tryz.ntmps137
  go_wp2_with fail
  with_reducible refine (HN.out _).mono ?_
  rintro e w1 ⟨rfl, hb1⟩
  obtain ⟨c1_0, f1_0⟩ := cf hb1 (w.heap.size + 1) 0 (.int .i64 0)
  obtain ⟨c1_1, f1_1⟩ := cf hb1 (w.heap.size + 1) 1 (.int .u64 0)
  obtain ⟨c1_2, f1_2⟩ := cf hb1 (w.heap.size + 1) 2 (.int .u64 0)
  obtain ⟨c1_3, f1_3⟩ := cf hb1 (w.heap.size + 1) 3 (.int .u64 0)
  obtain ⟨c1_4, f1_4⟩ := cf hb1 (w.heap.size + 1) 4 (.string { data := #[] })
  obtain ⟨c1_5, f1_5⟩ := cf hb1 (w.heap.size + 1) 5 (.string { data := #[] })
  obtain ⟨c1_6, f1_6⟩ := cf hb1 (w.heap.size + 1) 6 (.int .i64 0)
  obtain ⟨c1_7, f1_7⟩ := cf hb1 (w.heap.size + 1) 7 (.slice none 0 0)
  obtain ⟨c1_8, f1_8⟩ := cf hb1 (w.heap.size + 1) 8 (.slice none 0 0)
  obtain ⟨c1_9, f1_9⟩ := cf hb1 (w.heap.size + 1 + 1) 0 (.int .i64 0)
  obtain ⟨c1_10, f1_10⟩ := cf hb1 (w.heap.size + 1 + 1) 1 (.int .i64 0)
  obtain ⟨c1_11, f1_11⟩ := cf hb1 (w.heap.size + 1 + 1) 2 (.slice none 0 0)
  have hl1_0 := ltB hb1 (w.heap.size + 1)
  have hl1_1 := ltB hb1 (w.heap.size + 1 + 1)
  have hw1 := bwB hb1 w.heap.size w
  have hz1 := hw1.size
  clear hb1
  go_wp2_with fail
  refine bodyPost_ret (v := .tuple #[.agg #[.int .i64 16, .int .u64 1, .int .u64 0, .int .u64 0, .string { data := #[] }, .string { data := #[] }, .int .i64 0, .slice none 0 0, .slice none 0 0], .agg #[.int .i64 0, .int .i64 0, .slice none 0 0]]) (by simp (maxDischargeDepth := 4) [results, Tryz.results137, go_sem, c1_0, f1_0, c1_1, f1_1, c1_2, f1_2, c1_3, f1_3, c1_4, f1_4, c1_5, f1_5, c1_6, f1_6, c1_7, f1_7, c1_8, f1_8, c1_9, f1_9, c1_10, f1_10, c1_11, f1_11]) rfl ?_
  exact ⟨rfl, bel⟩
theorem contains_a (w : World) : Calls Tryz.prog 117 #[.string { data := #[97] }, .string { data := #[0] }] w fun e w' => e = .returned (.bool false) ∧ w = w' := by
  have h := contains_any { data := #[97] } w
  rw [show (decide ((0 : UInt8) ∈ (ByteArray.mk #[97]).data.toList)) = false by decide] at h
  exact h
theorem last2v (w : World) (a b : Obj) : ((w.alloc a).alloc b).heap[w.heap.size + 1]? = some b := by
  have h := heap_alloc_last (w.alloc a) b
  have e : (w.alloc a).heap.size = w.heap.size + 1 := by simp
  rw [e] at h
  exact h
theorem s_keep {x W : World} {g : Nat} (hg : g < x.heap.size) (h0 : x.cell? ⟨g, 5, none⟩ = some (.int .i64 1)) (h1 : x.cell? ⟨g, 6, none⟩ = some (.int .u64 1)) (h2 : x.cell? ⟨g, 7, none⟩ = some (.slice none 0 0)) (h3 : x.cell? ⟨g, 8, none⟩ = some (.string { data := #[] })) (h4 : x.cell? ⟨g, 9, none⟩ = some (.slice none 0 0)) (hb : Below x.heap.size x W) : Below x.heap.size x W ∧ W.cell? ⟨g, 5, none⟩ = some (.int .i64 1) ∧ W.cell? ⟨g, 6, none⟩ = some (.int .u64 1) ∧ W.cell? ⟨g, 7, none⟩ = some (.slice none 0 0) ∧ W.cell? ⟨g, 8, none⟩ = some (.string { data := #[] }) ∧ W.cell? ⟨g, 9, none⟩ = some (.slice none 0 0) := ⟨hb, (hb.cell (p := ⟨g, 5, none⟩) hg).trans h0, (hb.cell (p := ⟨g, 6, none⟩) hg).trans h1, (hb.cell (p := ⟨g, 7, none⟩) hg).trans h2, (hb.cell (p := ⟨g, 8, none⟩) hg).trans h3, (hb.cell (p := ⟨g, 9, none⟩) hg).trans h4⟩
theorem zV9 {w : World} {b : Nat} {t : TypeId} (h : w.heap[b]? = some (.cells #[.int .i64 0, .int .u64 0, .int .u64 0, .int .u64 0, .string { data := #[] }, .string { data := #[] }, .int .i64 0, .slice none 0 0, .slice none 0 0] t (0, 0))) : w.cell? ⟨b, 0, none⟩ = some (.int .i64 0) ∧ w.cell? ⟨b, 1, none⟩ = some (.int .u64 0) ∧ w.cell? ⟨b, 2, none⟩ = some (.int .u64 0) ∧ w.cell? ⟨b, 3, none⟩ = some (.int .u64 0) ∧ w.cell? ⟨b, 4, none⟩ = some (.string { data := #[] }) ∧ w.cell? ⟨b, 5, none⟩ = some (.string { data := #[] }) ∧ w.cell? ⟨b, 6, none⟩ = some (.int .i64 0) ∧ w.cell? ⟨b, 7, none⟩ = some (.slice none 0 0) ∧ w.cell? ⟨b, 8, none⟩ = some (.slice none 0 0) ∧ w.frozen? ⟨b, 0, none⟩ = false ∧ w.frozen? ⟨b, 1, none⟩ = false ∧ w.frozen? ⟨b, 2, none⟩ = false ∧ w.frozen? ⟨b, 3, none⟩ = false ∧ w.frozen? ⟨b, 4, none⟩ = false ∧ w.frozen? ⟨b, 5, none⟩ = false ∧ w.frozen? ⟨b, 6, none⟩ = false ∧ w.frozen? ⟨b, 7, none⟩ = false ∧ w.frozen? ⟨b, 8, none⟩ = false := ⟨by rw [cell_of_row w b 0 _ _ _ h]; rfl, by rw [cell_of_row w b 1 _ _ _ h]; rfl, by rw [cell_of_row w b 2 _ _ _ h]; rfl, by rw [cell_of_row w b 3 _ _ _ h]; rfl, by rw [cell_of_row w b 4 _ _ _ h]; rfl, by rw [cell_of_row w b 5 _ _ _ h]; rfl, by rw [cell_of_row w b 6 _ _ _ h]; rfl, by rw [cell_of_row w b 7 _ _ _ h]; rfl, by rw [cell_of_row w b 8 _ _ _ h]; rfl, frozen_of_row w b 0 _ _ h, frozen_of_row w b 1 _ _ h, frozen_of_row w b 2 _ _ h, frozen_of_row w b 3 _ _ h, frozen_of_row w b 4 _ _ h, frozen_of_row w b 5 _ _ h, frozen_of_row w b 6 _ _ h, frozen_of_row w b 7 _ _ h, frozen_of_row w b 8 _ _ h⟩
theorem zF3 {w : World} {b : Nat} {t : TypeId} (h : w.heap[b]? = some (.cells #[.int .i64 0, .int .i64 0, .slice none 0 0] t (0, 0))) : w.cell? ⟨b, 0, none⟩ = some (.int .i64 0) ∧ w.cell? ⟨b, 1, none⟩ = some (.int .i64 0) ∧ w.cell? ⟨b, 2, none⟩ = some (.slice none 0 0) ∧ w.frozen? ⟨b, 0, none⟩ = false ∧ w.frozen? ⟨b, 1, none⟩ = false ∧ w.frozen? ⟨b, 2, none⟩ = false := ⟨by rw [cell_of_row w b 0 _ _ _ h]; rfl, by rw [cell_of_row w b 1 _ _ _ h]; rfl, by rw [cell_of_row w b 2 _ _ _ h]; rfl, frozen_of_row w b 0 _ _ h, frozen_of_row w b 1 _ _ h, frozen_of_row w b 2 _ _ h⟩
theorem int1_one : ∀ u ∈ ([.int .i64 1] : List Value), u.oneCell' = true := fun u hu => by
  rcases List.mem_singleton.1 hu with rfl
  rfl
theorem dwith_M (g c : Nat) (w : World) (h : ItM w g) : Calls Tryz.prog 84 #[.agg #[.int .i64 3, .int .u64 0, .int .u64 0, .int .u64 0, .string { data := #[] }, .string { data := #[] }, .int .i64 0, .slice none 0 0, .slice none 0 0], .slice (some ⟨g, 0, none⟩) 2 c, .slice none 0 0] w fun e w' => (∃ s, e = .returned (.tuple #[.agg #[.int .i64 3, .int .u64 0, .int .u64 0, .int .u64 0, .string { data := #[] }, .string { data := #[] }, .int .i64 0, .slice none 0 0, s], .agg #[.int .i64 0, .int .i64 0, .slice none 0 0]]) ∧ Kd .V (fun b => w.heap.size ≤ b) w' 1 iKids s) ∧ Below w.heap.size w w' := by
  have HC := Lib.hid contains_a
  have HV := Lib.hid dvalue_U
  have hwr1 : IntKind.i64.wrap 1 = 1 := by rfl
  have HI := Lib.hid h
  have hg := h.1
  have hg1 : g ≠ w.heap.size := by omega
  have hg2 : g ≠ w.heap.size + 1 := by omega
  have hg3 : g ≠ w.heap.size + 1 + 1 := by omega
  have hg4 : g < w.heap.size + 1 := by omega
  have hg5 : g < w.heap.size + 1 + 1 := by omega
  have hg6 : g < w.heap.size + 1 + 1 + 1 := by omega
  have r0 : w.cell? ⟨g, 0, none⟩ = some (.int .i64 4) := h.2 0 _ rfl
  have r1 : w.cell? ⟨g, 1, none⟩ = some (.int .u64 0) := h.2 1 _ rfl
  have r2 : w.cell? ⟨g, 2, none⟩ = some (.slice none 0 0) := h.2 2 _ rfl
  have r3 : w.cell? ⟨g, 3, none⟩ = some (.string { data := #[97] }) := h.2 3 _ rfl
  have r4 : w.cell? ⟨g, 4, none⟩ = some (.slice none 0 0) := h.2 4 _ rfl
  have r5 : w.cell? ⟨g, 5, none⟩ = some (.int .i64 1) := h.2 5 _ rfl
  have r6 : w.cell? ⟨g, 6, none⟩ = some (.int .u64 1) := h.2 6 _ rfl
  have r7 : w.cell? ⟨g, 7, none⟩ = some (.slice none 0 0) := h.2 7 _ rfl
  have r8 : w.cell? ⟨g, 8, none⟩ = some (.string { data := #[] }) := h.2 8 _ rfl
  have r9 : w.cell? ⟨g, 9, none⟩ = some (.slice none 0 0) := h.2 9 _ rfl
  obtain ⟨i0, hi, iz0, iz1, iz2⟩ := hi_field
  obtain ⟨j0, hj, jz0, jz1, jz2⟩ := hi_int
  clear h
  go_enter Tryz.func84, Tryz.ntmps84
  go_wp2_with fail
  refine wp_loop_rounds 3 ?_
  rw [rounds_succ]
  go_wp2_with fail
  with_reducible refine (HC.out _).mono ?_
  rintro e w' ⟨rfl, rfl⟩
  go_upto_region 6 with fail
  obtain ⟨x, hx⟩ : ∃ X, X = ((w.alloc (Obj.cells #[.int .i64 3, .int .u64 0, .int .u64 0, .int .u64 0, .string { data := #[] }, .string { data := #[] }, .int .i64 0, .slice none 0 0, .slice none 0 0] 39)).alloc (Obj.cells #[.int .i64 0, .int .u64 0, .int .u64 0, .int .u64 0, .string { data := #[] }, .string { data := #[] }, .int .i64 0, .slice none 0 0, .slice none 0 0] 39)).alloc (Obj.cells #[.int .i64 0, .int .i64 0, .slice none 0 0] 33) := ⟨_, rfl⟩
  rw [← hx]
  have hwx : Below w.heap.size w x := by
    rw [hx]
    exact bel
  have hlx : w.heap.size + 1 + 1 < x.heap.size := by
    rw [hx]
    simp
  have d0 := cX hx w.heap.size 0 (.int .i64 3)
  have d1 := cX hx w.heap.size 1 (.int .u64 0)
  have d2 := cX hx w.heap.size 2 (.int .u64 0)
  have d3 := cX hx w.heap.size 3 (.int .u64 0)
  have d4 := cX hx w.heap.size 4 (.string { data := #[] })
  have d5 := cX hx w.heap.size 5 (.string { data := #[] })
  have d6 := cX hx w.heap.size 6 (.int .i64 0)
  have d7 := cX hx w.heap.size 7 (.slice none 0 0)
  have d8 := cX hx w.heap.size 8 (.slice none 0 0)
  have d9 := cX hx (w.heap.size + 1) 0 (.int .i64 0)
  have d10 := cX hx (w.heap.size + 1) 1 (.int .u64 0)
  have d11 := cX hx (w.heap.size + 1) 2 (.int .u64 0)
  have d12 := cX hx (w.heap.size + 1) 3 (.int .u64 0)
  have d13 := cX hx (w.heap.size + 1) 4 (.string { data := #[] })
  have d14 := cX hx (w.heap.size + 1) 5 (.string { data := #[] })
  have d15 := cX hx (w.heap.size + 1) 6 (.int .i64 0)
  have d16 := cX hx (w.heap.size + 1) 7 (.slice none 0 0)
  have d17 := cX hx (w.heap.size + 1) 8 (.slice none 0 0)
  have d18 := cX hx (w.heap.size + 1 + 1) 0 (.int .i64 0)
  have d19 := cX hx (w.heap.size + 1 + 1) 1 (.int .i64 0)
  have d20 := cX hx (w.heap.size + 1 + 1) 2 (.slice none 0 0)
  have df0 := fX hx w.heap.size 0
  have df1 := fX hx w.heap.size 1
  have df2 := fX hx w.heap.size 2
  have df3 := fX hx w.heap.size 3
  have df4 := fX hx w.heap.size 4
  have df5 := fX hx w.heap.size 5
  have df6 := fX hx w.heap.size 6
  have df7 := fX hx w.heap.size 7
  have df8 := fX hx w.heap.size 8
  have df9 := fX hx (w.heap.size + 1) 0
  have df10 := fX hx (w.heap.size + 1) 1
  have df11 := fX hx (w.heap.size + 1) 2
  have df12 := fX hx (w.heap.size + 1) 3
  have df13 := fX hx (w.heap.size + 1) 4
  have df14 := fX hx (w.heap.size + 1) 5
  have df15 := fX hx (w.heap.size + 1) 6
  have df16 := fX hx (w.heap.size + 1) 7
  have df17 := fX hx (w.heap.size + 1) 8
  have df18 := fX hx (w.heap.size + 1 + 1) 0
  have df19 := fX hx (w.heap.size + 1 + 1) 1
  have df20 := fX hx (w.heap.size + 1 + 1) 2
  have hIx := HI.out.beyond hwx
  have hgx := hIx.1
  have i0 : x.cell? ⟨g, 0, none⟩ = some (.int .i64 4) := hIx.2 0 _ rfl
  have i1 : x.cell? ⟨g, 1, none⟩ = some (.int .u64 0) := hIx.2 1 _ rfl
  have i2 : x.cell? ⟨g, 2, none⟩ = some (.slice none 0 0) := hIx.2 2 _ rfl
  have i3 : x.cell? ⟨g, 3, none⟩ = some (.string { data := #[97] }) := hIx.2 3 _ rfl
  have i4 : x.cell? ⟨g, 4, none⟩ = some (.slice none 0 0) := hIx.2 4 _ rfl
  have i5 : x.cell? ⟨g, 5, none⟩ = some (.int .i64 1) := hIx.2 5 _ rfl
  have i6 : x.cell? ⟨g, 6, none⟩ = some (.int .u64 1) := hIx.2 6 _ rfl
  have i7 : x.cell? ⟨g, 7, none⟩ = some (.slice none 0 0) := hIx.2 7 _ rfl
  have i8 : x.cell? ⟨g, 8, none⟩ = some (.string { data := #[] }) := hIx.2 8 _ rfl
  have i9 : x.cell? ⟨g, 9, none⟩ = some (.slice none 0 0) := hIx.2 9 _ rfl
  clear hx hIx
  go_cut [9, 10] from 11 to 67 (fun s9 s10 W => ∃ a b : Nat, s9 = .pointer (some ⟨a, 0, none⟩) ∧ s10 = .pointer (some ⟨b, 0, none⟩) ∧ x.heap.size ≤ a ∧ x.heap.size ≤ b ∧ a < W.heap.size ∧ b < W.heap.size ∧ (W.cell? ⟨a, 0, none⟩ = some (.int .i64 16) ∧ W.cell? ⟨a, 1, none⟩ = some (.int .u64 1) ∧ W.cell? ⟨a, 2, none⟩ = some (.int .u64 0) ∧ W.cell? ⟨a, 3, none⟩ = some (.int .u64 0) ∧ W.cell? ⟨a, 4, none⟩ = some (.string { data := #[] }) ∧ W.cell? ⟨a, 5, none⟩ = some (.string { data := #[] }) ∧ W.cell? ⟨a, 6, none⟩ = some (.int .i64 0) ∧ W.cell? ⟨a, 7, none⟩ = some (.slice none 0 0) ∧ W.cell? ⟨a, 8, none⟩ = some (.slice none 0 0) ∧ W.cell? ⟨b, 0, none⟩ = some (.int .i64 0) ∧ W.cell? ⟨b, 1, none⟩ = some (.int .i64 0) ∧ W.cell? ⟨b, 2, none⟩ = some (.slice none 0 0)) ∧ Below x.heap.size x W)
  case first =>
    clear d0 df0 d1 df1 d2 df2 d3 df3 d4 df4 d5 df5 d6 df6 d7 df7 d8 df8 d9 df9 d10 df10 d11 df11 d12 df12 d13 df13 d14 df14 d15 df15 d16 df16 d17 df17 d18 df18 d19 df19 d20 df20
    go_region_held_law (fun W => Below x.heap.size x W ∧ W.cell? ⟨g, 5, none⟩ = some (.int .i64 1) ∧ W.cell? ⟨g, 6, none⟩ = some (.int .u64 1) ∧ W.cell? ⟨g, 7, none⟩ = some (.slice none 0 0) ∧ W.cell? ⟨g, 8, none⟩ = some (.string { data := #[] }) ∧ W.cell? ⟨g, 9, none⟩ = some (.slice none 0 0)) ((refine s_keep hgx i5 i6 i7 i8 i9 ?_; exact bel)) (first | (refine step_append_lies _ rfl _ _ _ rfl 0 3 j0 _ 1 8 Tryz.underlying31 hj jz0 jz1 jz2 rfl (by decide) (.slice none 0 0) 0 [] evl (World.ownsRow_nil _ _ _ _) _ 1 1 [.int .i64 1] evl rfl ?c1 ?c2 (by decide) ?c3 ?c4 ?c5 _ rfl ?_; (case c1 => (refine World.news_of_block (cs := #[.int .i64 1]) (t := 3) (fr := (0, 0)) ?_; first | exact heap_alloc_last _ _ | exact last2v _ _ _ | exact last3v _ _ _ _ | exact (Below.heap_alloc _ _ _ (by first | (simp; done) | (simp; omega) | omega)).trans (heap_alloc_last _ _) | exact (Below.heap_alloc _ _ _ (by first | (simp; done) | (simp; omega) | omega)).trans (last2v _ _ _) | exact (Below.heap_alloc _ _ _ (by first | (simp; done) | (simp; omega) | omega)).trans ((Below.heap_alloc _ _ _ (by first | (simp; done) | (simp; omega) | omega)).trans (heap_alloc_last _ _)))); (case c2 => exact int1_one); (case c3 => (unfold maxLen; omega)); (case c4 => omega); (case c5 => exact Nat.zero_le _); intro g5 cap5 w5 hown5 hgrow5 hat5 hlt5; have hb5 := below_grown hgrow5; have hx5 : Below x.heap.size x w5 := Below.trans bel (hb5.mono (by first | (simp; done) | (simp; omega) | omega)); have hz5 := hb5.size; (try simp at hz5); have hz5x : x.heap.size + 1 ≤ w5.heap.size := (by omega); (try (have q5aV : w5.heap[x.heap.size]? = some (.cells #[.int .i64 0, .int .u64 0, .int .u64 0, .int .u64 0, .string { data := #[] }, .string { data := #[] }, .int .i64 0, .slice none 0 0, .slice none 0 0] 39 (0, 0)) := (hb5.block (x.heap.size) (by first | (simp; done) | (simp; omega) | omega)).trans (by first | exact heap_alloc_last _ _ | exact last2v _ _ _ | exact last3v _ _ _ _ | exact (Below.heap_alloc _ _ _ (by first | (simp; done) | (simp; omega) | omega)).trans (heap_alloc_last _ _) | exact (Below.heap_alloc _ _ _ (by first | (simp; done) | (simp; omega) | omega)).trans (last2v _ _ _) | exact (Below.heap_alloc _ _ _ (by first | (simp; done) | (simp; omega) | omega)).trans ((Below.heap_alloc _ _ _ (by first | (simp; done) | (simp; omega) | omega)).trans (heap_alloc_last _ _))); have lq5aV : x.heap.size < w5.heap.size := (Array.getElem?_eq_some_iff.1 q5aV).1; obtain ⟨zq5aV0, zq5aV1, zq5aV2, zq5aV3, zq5aV4, zq5aV5, zq5aV6, zq5aV7, zq5aV8, yq5aV0, yq5aV1, yq5aV2, yq5aV3, yq5aV4, yq5aV5, yq5aV6, yq5aV7, yq5aV8⟩ := zV9 q5aV)); (try (have q5aF : w5.heap[x.heap.size]? = some (.cells #[.int .i64 0, .int .i64 0, .slice none 0 0] 33 (0, 0)) := (hb5.block (x.heap.size) (by first | (simp; done) | (simp; omega) | omega)).trans (by first | exact heap_alloc_last _ _ | exact last2v _ _ _ | exact last3v _ _ _ _ | exact (Below.heap_alloc _ _ _ (by first | (simp; done) | (simp; omega) | omega)).trans (heap_alloc_last _ _) | exact (Below.heap_alloc _ _ _ (by first | (simp; done) | (simp; omega) | omega)).trans (last2v _ _ _) | exact (Below.heap_alloc _ _ _ (by first | (simp; done) | (simp; omega) | omega)).trans ((Below.heap_alloc _ _ _ (by first | (simp; done) | (simp; omega) | omega)).trans (heap_alloc_last _ _))); have lq5aF : x.heap.size < w5.heap.size := (Array.getElem?_eq_some_iff.1 q5aF).1; obtain ⟨zq5aF0, zq5aF1, zq5aF2, yq5aF0, yq5aF1, yq5aF2⟩ := zF3 q5aF)); (try (have q5bV : w5.heap[x.heap.size + 1]? = some (.cells #[.int .i64 0, .int .u64 0, .int .u64 0, .int .u64 0, .string { data := #[] }, .string { data := #[] }, .int .i64 0, .slice none 0 0, .slice none 0 0] 39 (0, 0)) := (hb5.block (x.heap.size + 1) (by first | (simp; done) | (simp; omega) | omega)).trans (by first | exact heap_alloc_last _ _ | exact last2v _ _ _ | exact last3v _ _ _ _ | exact (Below.heap_alloc _ _ _ (by first | (simp; done) | (simp; omega) | omega)).trans (heap_alloc_last _ _) | exact (Below.heap_alloc _ _ _ (by first | (simp; done) | (simp; omega) | omega)).trans (last2v _ _ _) | exact (Below.heap_alloc _ _ _ (by first | (simp; done) | (simp; omega) | omega)).trans ((Below.heap_alloc _ _ _ (by first | (simp; done) | (simp; omega) | omega)).trans (heap_alloc_last _ _))); have lq5bV : x.heap.size + 1 < w5.heap.size := (Array.getElem?_eq_some_iff.1 q5bV).1; obtain ⟨zq5bV0, zq5bV1, zq5bV2, zq5bV3, zq5bV4, zq5bV5, zq5bV6, zq5bV7, zq5bV8, yq5bV0, yq5bV1, yq5bV2, yq5bV3, yq5bV4, yq5bV5, yq5bV6, yq5bV7, yq5bV8⟩ := zV9 q5bV)); (try (have q5bF : w5.heap[x.heap.size + 1]? = some (.cells #[.int .i64 0, .int .i64 0, .slice none 0 0] 33 (0, 0)) := (hb5.block (x.heap.size + 1) (by first | (simp; done) | (simp; omega) | omega)).trans (by first | exact heap_alloc_last _ _ | exact last2v _ _ _ | exact last3v _ _ _ _ | exact (Below.heap_alloc _ _ _ (by first | (simp; done) | (simp; omega) | omega)).trans (heap_alloc_last _ _) | exact (Below.heap_alloc _ _ _ (by first | (simp; done) | (simp; omega) | omega)).trans (last2v _ _ _) | exact (Below.heap_alloc _ _ _ (by first | (simp; done) | (simp; omega) | omega)).trans ((Below.heap_alloc _ _ _ (by first | (simp; done) | (simp; omega) | omega)).trans (heap_alloc_last _ _))); have lq5bF : x.heap.size + 1 < w5.heap.size := (Array.getElem?_eq_some_iff.1 q5bF).1; obtain ⟨zq5bF0, zq5bF1, zq5bF2, yq5bF0, yq5bF1, yq5bF2⟩ := zF3 q5bF)); (try (have q5cV : w5.heap[x.heap.size + 1 + 1]? = some (.cells #[.int .i64 0, .int .u64 0, .int .u64 0, .int .u64 0, .string { data := #[] }, .string { data := #[] }, .int .i64 0, .slice none 0 0, .slice none 0 0] 39 (0, 0)) := (hb5.block (x.heap.size + 1 + 1) (by first | (simp; done) | (simp; omega) | omega)).trans (by first | exact heap_alloc_last _ _ | exact last2v _ _ _ | exact last3v _ _ _ _ | exact (Below.heap_alloc _ _ _ (by first | (simp; done) | (simp; omega) | omega)).trans (heap_alloc_last _ _) | exact (Below.heap_alloc _ _ _ (by first | (simp; done) | (simp; omega) | omega)).trans (last2v _ _ _) | exact (Below.heap_alloc _ _ _ (by first | (simp; done) | (simp; omega) | omega)).trans ((Below.heap_alloc _ _ _ (by first | (simp; done) | (simp; omega) | omega)).trans (heap_alloc_last _ _))); have lq5cV : x.heap.size + 1 + 1 < w5.heap.size := (Array.getElem?_eq_some_iff.1 q5cV).1; obtain ⟨zq5cV0, zq5cV1, zq5cV2, zq5cV3, zq5cV4, zq5cV5, zq5cV6, zq5cV7, zq5cV8, yq5cV0, yq5cV1, yq5cV2, yq5cV3, yq5cV4, yq5cV5, yq5cV6, yq5cV7, yq5cV8⟩ := zV9 q5cV)); (try (have q5cF : w5.heap[x.heap.size + 1 + 1]? = some (.cells #[.int .i64 0, .int .i64 0, .slice none 0 0] 33 (0, 0)) := (hb5.block (x.heap.size + 1 + 1) (by first | (simp; done) | (simp; omega) | omega)).trans (by first | exact heap_alloc_last _ _ | exact last2v _ _ _ | exact last3v _ _ _ _ | exact (Below.heap_alloc _ _ _ (by first | (simp; done) | (simp; omega) | omega)).trans (heap_alloc_last _ _) | exact (Below.heap_alloc _ _ _ (by first | (simp; done) | (simp; omega) | omega)).trans (last2v _ _ _) | exact (Below.heap_alloc _ _ _ (by first | (simp; done) | (simp; omega) | omega)).trans ((Below.heap_alloc _ _ _ (by first | (simp; done) | (simp; omega) | omega)).trans (heap_alloc_last _ _))); have lq5cF : x.heap.size + 1 + 1 < w5.heap.size := (Array.getElem?_eq_some_iff.1 q5cF).1; obtain ⟨zq5cF0, zq5cF1, zq5cF2, yq5cF0, yq5cF1, yq5cF2⟩ := zF3 q5cF)); clear hown5 hgrow5 hat5 hlt5 hb5) | (go_simp; go_at_call 137; (refine (HV.out _ _).mono ?_); rintro e w6 ⟨rfl, hb6⟩; have hx6 : Below x.heap.size x w6 := Below.trans bel (hb6.mono (by first | (simp; done) | (simp; omega) | omega)); have hz6 := hb6.size; (try simp at hz6); have hz6x := hx6.size; (try (have q6aV : w6.heap[x.heap.size]? = some (.cells #[.int .i64 0, .int .u64 0, .int .u64 0, .int .u64 0, .string { data := #[] }, .string { data := #[] }, .int .i64 0, .slice none 0 0, .slice none 0 0] 39 (0, 0)) := (hb6.block (x.heap.size) (by first | (simp; done) | (simp; omega) | omega)).trans (by first | exact q5aV | exact (Below.heap_alloc _ _ _ (by first | (simp; done) | (simp; omega) | omega)).trans q5aV | exact (Below.heap_alloc _ _ _ (by first | (simp; done) | (simp; omega) | omega)).trans ((Below.heap_alloc _ _ _ (by first | (simp; done) | (simp; omega) | omega)).trans q5aV)); have lq6aV : x.heap.size < w6.heap.size := (Array.getElem?_eq_some_iff.1 q6aV).1; obtain ⟨zq6aV0, zq6aV1, zq6aV2, zq6aV3, zq6aV4, zq6aV5, zq6aV6, zq6aV7, zq6aV8, yq6aV0, yq6aV1, yq6aV2, yq6aV3, yq6aV4, yq6aV5, yq6aV6, yq6aV7, yq6aV8⟩ := zV9 q6aV)); (try (have q6aF : w6.heap[x.heap.size]? = some (.cells #[.int .i64 0, .int .i64 0, .slice none 0 0] 33 (0, 0)) := (hb6.block (x.heap.size) (by first | (simp; done) | (simp; omega) | omega)).trans (by first | exact q5aF | exact (Below.heap_alloc _ _ _ (by first | (simp; done) | (simp; omega) | omega)).trans q5aF | exact (Below.heap_alloc _ _ _ (by first | (simp; done) | (simp; omega) | omega)).trans ((Below.heap_alloc _ _ _ (by first | (simp; done) | (simp; omega) | omega)).trans q5aF)); have lq6aF : x.heap.size < w6.heap.size := (Array.getElem?_eq_some_iff.1 q6aF).1; obtain ⟨zq6aF0, zq6aF1, zq6aF2, yq6aF0, yq6aF1, yq6aF2⟩ := zF3 q6aF)); (try (have q6bV : w6.heap[x.heap.size + 1]? = some (.cells #[.int .i64 0, .int .u64 0, .int .u64 0, .int .u64 0, .string { data := #[] }, .string { data := #[] }, .int .i64 0, .slice none 0 0, .slice none 0 0] 39 (0, 0)) := (hb6.block (x.heap.size + 1) (by first | (simp; done) | (simp; omega) | omega)).trans (by first | exact q5bV | exact (Below.heap_alloc _ _ _ (by first | (simp; done) | (simp; omega) | omega)).trans q5bV | exact (Below.heap_alloc _ _ _ (by first | (simp; done) | (simp; omega) | omega)).trans ((Below.heap_alloc _ _ _ (by first | (simp; done) | (simp; omega) | omega)).trans q5bV)); have lq6bV : x.heap.size + 1 < w6.heap.size := (Array.getElem?_eq_some_iff.1 q6bV).1; obtain ⟨zq6bV0, zq6bV1, zq6bV2, zq6bV3, zq6bV4, zq6bV5, zq6bV6, zq6bV7, zq6bV8, yq6bV0, yq6bV1, yq6bV2, yq6bV3, yq6bV4, yq6bV5, yq6bV6, yq6bV7, yq6bV8⟩ := zV9 q6bV)); (try (have q6bF : w6.heap[x.heap.size + 1]? = some (.cells #[.int .i64 0, .int .i64 0, .slice none 0 0] 33 (0, 0)) := (hb6.block (x.heap.size + 1) (by first | (simp; done) | (simp; omega) | omega)).trans (by first | exact q5bF | exact (Below.heap_alloc _ _ _ (by first | (simp; done) | (simp; omega) | omega)).trans q5bF | exact (Below.heap_alloc _ _ _ (by first | (simp; done) | (simp; omega) | omega)).trans ((Below.heap_alloc _ _ _ (by first | (simp; done) | (simp; omega) | omega)).trans q5bF)); have lq6bF : x.heap.size + 1 < w6.heap.size := (Array.getElem?_eq_some_iff.1 q6bF).1; obtain ⟨zq6bF0, zq6bF1, zq6bF2, yq6bF0, yq6bF1, yq6bF2⟩ := zF3 q6bF)); (try (have q6cV : w6.heap[x.heap.size + 1 + 1]? = some (.cells #[.int .i64 0, .int .u64 0, .int .u64 0, .int .u64 0, .string { data := #[] }, .string { data := #[] }, .int .i64 0, .slice none 0 0, .slice none 0 0] 39 (0, 0)) := (hb6.block (x.heap.size + 1 + 1) (by first | (simp; done) | (simp; omega) | omega)).trans (by first | exact q5cV | exact (Below.heap_alloc _ _ _ (by first | (simp; done) | (simp; omega) | omega)).trans q5cV | exact (Below.heap_alloc _ _ _ (by first | (simp; done) | (simp; omega) | omega)).trans ((Below.heap_alloc _ _ _ (by first | (simp; done) | (simp; omega) | omega)).trans q5cV)); have lq6cV : x.heap.size + 1 + 1 < w6.heap.size := (Array.getElem?_eq_some_iff.1 q6cV).1; obtain ⟨zq6cV0, zq6cV1, zq6cV2, zq6cV3, zq6cV4, zq6cV5, zq6cV6, zq6cV7, zq6cV8, yq6cV0, yq6cV1, yq6cV2, yq6cV3, yq6cV4, yq6cV5, yq6cV6, yq6cV7, yq6cV8⟩ := zV9 q6cV)); (try (have q6cF : w6.heap[x.heap.size + 1 + 1]? = some (.cells #[.int .i64 0, .int .i64 0, .slice none 0 0] 33 (0, 0)) := (hb6.block (x.heap.size + 1 + 1) (by first | (simp; done) | (simp; omega) | omega)).trans (by first | exact q5cF | exact (Below.heap_alloc _ _ _ (by first | (simp; done) | (simp; omega) | omega)).trans q5cF | exact (Below.heap_alloc _ _ _ (by first | (simp; done) | (simp; omega) | omega)).trans ((Below.heap_alloc _ _ _ (by first | (simp; done) | (simp; omega) | omega)).trans q5cF)); have lq6cF : x.heap.size + 1 + 1 < w6.heap.size := (Array.getElem?_eq_some_iff.1 q6cF).1; obtain ⟨zq6cF0, zq6cF1, zq6cF2, yq6cF0, yq6cF1, yq6cF2⟩ := zF3 q6cF)); (try (have q6dV : w6.heap[w5.heap.size]? = some (.cells #[.int .i64 0, .int .u64 0, .int .u64 0, .int .u64 0, .string { data := #[] }, .string { data := #[] }, .int .i64 0, .slice none 0 0, .slice none 0 0] 39 (0, 0)) := (hb6.block (w5.heap.size) (by first | (simp; done) | (simp; omega) | omega)).trans (by first | exact heap_alloc_last _ _ | exact last2v _ _ _ | exact last3v _ _ _ _ | exact (Below.heap_alloc _ _ _ (by first | (simp; done) | (simp; omega) | omega)).trans (heap_alloc_last _ _) | exact (Below.heap_alloc _ _ _ (by first | (simp; done) | (simp; omega) | omega)).trans (last2v _ _ _) | exact (Below.heap_alloc _ _ _ (by first | (simp; done) | (simp; omega) | omega)).trans ((Below.heap_alloc _ _ _ (by first | (simp; done) | (simp; omega) | omega)).trans (heap_alloc_last _ _))); have lq6dV : w5.heap.size < w6.heap.size := (Array.getElem?_eq_some_iff.1 q6dV).1; obtain ⟨zq6dV0, zq6dV1, zq6dV2, zq6dV3, zq6dV4, zq6dV5, zq6dV6, zq6dV7, zq6dV8, yq6dV0, yq6dV1, yq6dV2, yq6dV3, yq6dV4, yq6dV5, yq6dV6, yq6dV7, yq6dV8⟩ := zV9 q6dV)); (try (have q6dF : w6.heap[w5.heap.size]? = some (.cells #[.int .i64 0, .int .i64 0, .slice none 0 0] 33 (0, 0)) := (hb6.block (w5.heap.size) (by first | (simp; done) | (simp; omega) | omega)).trans (by first | exact heap_alloc_last _ _ | exact last2v _ _ _ | exact last3v _ _ _ _ | exact (Below.heap_alloc _ _ _ (by first | (simp; done) | (simp; omega) | omega)).trans (heap_alloc_last _ _) | exact (Below.heap_alloc _ _ _ (by first | (simp; done) | (simp; omega) | omega)).trans (last2v _ _ _) | exact (Below.heap_alloc _ _ _ (by first | (simp; done) | (simp; omega) | omega)).trans ((Below.heap_alloc _ _ _ (by first | (simp; done) | (simp; omega) | omega)).trans (heap_alloc_last _ _))); have lq6dF : w5.heap.size < w6.heap.size := (Array.getElem?_eq_some_iff.1 q6dF).1; obtain ⟨zq6dF0, zq6dF1, zq6dF2, yq6dF0, yq6dF1, yq6dF2⟩ := zF3 q6dF)); (try (have q6eV : w6.heap[w5.heap.size + 1]? = some (.cells #[.int .i64 0, .int .u64 0, .int .u64 0, .int .u64 0, .string { data := #[] }, .string { data := #[] }, .int .i64 0, .slice none 0 0, .slice none 0 0] 39 (0, 0)) := (hb6.block (w5.heap.size + 1) (by first | (simp; done) | (simp; omega) | omega)).trans (by first | exact heap_alloc_last _ _ | exact last2v _ _ _ | exact last3v _ _ _ _ | exact (Below.heap_alloc _ _ _ (by first | (simp; done) | (simp; omega) | omega)).trans (heap_alloc_last _ _) | exact (Below.heap_alloc _ _ _ (by first | (simp; done) | (simp; omega) | omega)).trans (last2v _ _ _) | exact (Below.heap_alloc _ _ _ (by first | (simp; done) | (simp; omega) | omega)).trans ((Below.heap_alloc _ _ _ (by first | (simp; done) | (simp; omega) | omega)).trans (heap_alloc_last _ _))); have lq6eV : w5.heap.size + 1 < w6.heap.size := (Array.getElem?_eq_some_iff.1 q6eV).1; obtain ⟨zq6eV0, zq6eV1, zq6eV2, zq6eV3, zq6eV4, zq6eV5, zq6eV6, zq6eV7, zq6eV8, yq6eV0, yq6eV1, yq6eV2, yq6eV3, yq6eV4, yq6eV5, yq6eV6, yq6eV7, yq6eV8⟩ := zV9 q6eV)); (try (have q6eF : w6.heap[w5.heap.size + 1]? = some (.cells #[.int .i64 0, .int .i64 0, .slice none 0 0] 33 (0, 0)) := (hb6.block (w5.heap.size + 1) (by first | (simp; done) | (simp; omega) | omega)).trans (by first | exact heap_alloc_last _ _ | exact last2v _ _ _ | exact last3v _ _ _ _ | exact (Below.heap_alloc _ _ _ (by first | (simp; done) | (simp; omega) | omega)).trans (heap_alloc_last _ _) | exact (Below.heap_alloc _ _ _ (by first | (simp; done) | (simp; omega) | omega)).trans (last2v _ _ _) | exact (Below.heap_alloc _ _ _ (by first | (simp; done) | (simp; omega) | omega)).trans ((Below.heap_alloc _ _ _ (by first | (simp; done) | (simp; omega) | omega)).trans (heap_alloc_last _ _))); have lq6eF : w5.heap.size + 1 < w6.heap.size := (Array.getElem?_eq_some_iff.1 q6eF).1; obtain ⟨zq6eF0, zq6eF1, zq6eF2, yq6eF0, yq6eF1, yq6eF2⟩ := zF3 q6eF)); clear hb6))
    all_goals
      go_wp2_with fail
      go_meet
      refine ⟨_, _, rfl, rfl, ?_, ?_, ?_, ?_, ⟨?_, ?_, ?_, ?_, ?_, ?_, ?_, ?_, ?_, ?_, ?_, ?_⟩, ?_⟩
      all_goals first | (simp [go_sem]; done) | (simp [go_sem, *]; done) | omega | (simp; omega) | (exact bel)
  case rest =>
    obtain ⟨a, b, rfl, rfl, ha, hb, hal, hbl, ⟨m0, m1, m2, m3, m4, m5, m6, m7, m8, m9, m10, m11⟩, hx2⟩ := hcut
    have hzc := hx2.size
    have hgc : g < wc.heap.size := by omega
    have hlc : w.heap.size + 1 + 1 < wc.heap.size := by omega
    have hlc0 : w.heap.size < wc.heap.size := by omega
    obtain ⟨e0, ef0⟩ := cfT hx2 d0 df0
    obtain ⟨e1, ef1⟩ := cfT hx2 d1 df1
    obtain ⟨e2, ef2⟩ := cfT hx2 d2 df2
    obtain ⟨e3, ef3⟩ := cfT hx2 d3 df3
    obtain ⟨e4, ef4⟩ := cfT hx2 d4 df4
    obtain ⟨e5, ef5⟩ := cfT hx2 d5 df5
    obtain ⟨e6, ef6⟩ := cfT hx2 d6 df6
    obtain ⟨e7, ef7⟩ := cfT hx2 d7 df7
    obtain ⟨e8, ef8⟩ := cfT hx2 d8 df8
    obtain ⟨e9, ef9⟩ := cfT hx2 d9 df9
    obtain ⟨e10, ef10⟩ := cfT hx2 d10 df10
    obtain ⟨e11, ef11⟩ := cfT hx2 d11 df11
    obtain ⟨e12, ef12⟩ := cfT hx2 d12 df12
    obtain ⟨e13, ef13⟩ := cfT hx2 d13 df13
    obtain ⟨e14, ef14⟩ := cfT hx2 d14 df14
    obtain ⟨e15, ef15⟩ := cfT hx2 d15 df15
    obtain ⟨e16, ef16⟩ := cfT hx2 d16 df16
    obtain ⟨e17, ef17⟩ := cfT hx2 d17 df17
    obtain ⟨e18, ef18⟩ := cfT hx2 d18 df18
    obtain ⟨e19, ef19⟩ := cfT hx2 d19 df19
    obtain ⟨e20, ef20⟩ := cfT hx2 d20 df20
    have n0 := cT hx2 i0
    have n1 := cT hx2 i1
    have n2 := cT hx2 i2
    have n3 := cT hx2 i3
    have n4 := cT hx2 i4
    have n5 := cT hx2 i5
    have n6 := cT hx2 i6
    have n7 := cT hx2 i7
    have n8 := cT hx2 i8
    have n9 := cT hx2 i9
    clear d0 df0 d1 df1 d2 df2 d3 df3 d4 df4 d5 df5 d6 df6 d7 df7 d8 df8 d9 df9 d10 df10 d11 df11 d12 df12 d13 df13 d14 df14 d15 df15 d16 df16 d17 df17 d18 df18 d19 df19 d20 df20 i0 i1 i2 i3 i4 i5 i6 i7 i8 i9
    go_upto_region 9 with fail
    apply cut_once (fun w7 g7 cap7 => w7.ownsRow (w.heap.size + 1 + 1 + 1) 51 10 (.slice (some ⟨g7, 0, none⟩) 1 cap7) 1 [.string { data := #[97] }, .int .i64 16, .int .u64 1, .int .u64 0, .int .u64 0, .string { data := #[] }, .string { data := #[] }, .int .i64 0, .slice none 0 0, .slice none 0 0] ∧ Below wc.heap.size wc w7)
    case key =>
      intro key
      go_region_law (refine step_append_lies _ rfl _ _ _ rfl (w.heap.size + 1 + 1 + 1) 51 i0 _ 10 136 Tryz.underlying37 hi iz0 iz1 iz2 rfl (by decide) (.slice none 0 0) 0 [] evl (World.ownsRow_nil _ _ _ _) ⟨wc.heap.size, 0, none⟩ 1 1 [.string { data := #[97] }, .int .i64 16, .int .u64 1, .int .u64 0, .int .u64 0, .string { data := #[] }, .string { data := #[] }, .int .i64 0, .slice none 0 0, .slice none 0 0] evl rfl ?c1 ?c2 (by decide) ?c3 ?c4 ?c5 _ rfl ?_; (case c1 => exact World.news_of_block (cs := #[.string { data := #[97] }, .int .i64 16, .int .u64 1, .int .u64 0, .int .u64 0, .string { data := #[] }, .string { data := #[] }, .int .i64 0, .slice none 0 0, .slice none 0 0]) (heap_alloc_last wc _)); (case c2 => exact mem10_one); (case c3 => (unfold maxLen; omega)); (case c4 => omega); (case c5 => (simp; omega)); intro g7 cap7 w7 hown7 hgrow7 hat7 hlt7; have hx7 : Below wc.heap.size wc w7 := Below.trans bel ((below_grown hgrow7).mono (by simp)); have hz7 := hx7.size; have hl70 : w.heap.size < w7.heap.size := (by omega); have k8 := cT hx7 e8; have kf8 := fT hx7 ef8)
      all_goals exact key w7 g7 cap7 ⟨hown7, hx7⟩
    case pf =>
      rintro w7 g7 cap7 ⟨hown7, hx7⟩
      have hz7 := hx7.size
      obtain ⟨z0, zf0⟩ := cfT hx7 e0 ef0
      obtain ⟨z1, zf1⟩ := cfT hx7 e1 ef1
      obtain ⟨z2, zf2⟩ := cfT hx7 e2 ef2
      obtain ⟨z3, zf3⟩ := cfT hx7 e3 ef3
      obtain ⟨z4, zf4⟩ := cfT hx7 e4 ef4
      obtain ⟨z5, zf5⟩ := cfT hx7 e5 ef5
      obtain ⟨z6, zf6⟩ := cfT hx7 e6 ef6
      obtain ⟨z7, zf7⟩ := cfT hx7 e7 ef7
      obtain ⟨z8, zf8⟩ := cfT hx7 e8 ef8
      obtain ⟨z9, zf9⟩ := cfT hx7 e9 ef9
      obtain ⟨z10, zf10⟩ := cfT hx7 e10 ef10
      obtain ⟨z11, zf11⟩ := cfT hx7 e11 ef11
      obtain ⟨z12, zf12⟩ := cfT hx7 e12 ef12
      obtain ⟨z13, zf13⟩ := cfT hx7 e13 ef13
      obtain ⟨z14, zf14⟩ := cfT hx7 e14 ef14
      obtain ⟨z15, zf15⟩ := cfT hx7 e15 ef15
      obtain ⟨z16, zf16⟩ := cfT hx7 e16 ef16
      obtain ⟨z17, zf17⟩ := cfT hx7 e17 ef17
      obtain ⟨z18, zf18⟩ := cfT hx7 e18 ef18
      obtain ⟨z19, zf19⟩ := cfT hx7 e19 ef19
      obtain ⟨z20, zf20⟩ := cfT hx7 e20 ef20
      have hl70 : w.heap.size + 1 + 1 < w7.heap.size := by omega
      have hl71 : w.heap.size + 1 < w7.heap.size := by omega
      have hl72 : w.heap.size < w7.heap.size := by omega
      have hbd : Bd .V 51 w7 (w.heap.size + 1 + 1 + 1) 0 iKids (.slice (some ⟨g7, 0, none⟩) 1 cap7) := by
        refine ⟨[(.slice none 0 0, .slice none 0 0)], rfl, hown7, fun i nm y s h1 h2 => ?_⟩
        cases i with
        | succ i => cases h1
        | zero =>
          injection h1 with h1
          injection h1 with h1 h1'
          injection h2 with h2
          subst h1 h1' h2
          exact ⟨By.nil _ _, Kd.nil _ _ _ _ _ _⟩
      have hk7 := Lib.hid (hbd.done.mono (Q' := fun b => w.heap.size + 1 + 1 < b) (fun b hb _ => by omega))
      have hw7 : Below w.heap.size w w7 := hwx.trans ((hx2.trans (hx7.mono hzc)).mono (by omega))
      clear hown7 hbd
      go_wp2_with fail
      rw [rounds_succ]
      go_wp2_with fail
      refine bodyPost_ret (v := .tuple #[.agg #[.int .i64 3, .int .u64 0, .int .u64 0, .int .u64 0, .string { data := #[] }, .string { data := #[] }, .int .i64 0, .slice none 0 0, .slice (some ⟨g7, 0, none⟩) 1 cap7], .agg #[.int .i64 0, .int .i64 0, .slice none 0 0]]) (by simp (maxDischargeDepth := 4) [results, Tryz.results84, go_sem, z0, zf0, z1, zf1, z2, zf2, z3, zf3, z4, zf4, z5, zf5, z6, zf6, z7, zf7, z8, zf8, z9, zf9, z10, zf10, z11, zf11, z12, zf12, z13, zf13, z14, zf14, z15, zf15, z16, zf16, z17, zf17, z18, zf18, z19, zf19, z20, zf20]) rfl ?_
      refine ⟨⟨_, rfl, (hk7.out.keeps ?_).mono (fun b hb _ => by omega)⟩, bel⟩
      repeat' (first | (with_reducible assumption) | (with_reducible exact Keeps.refl _ _) | (with_reducible refine keeps_drew ?_) | (with_reducible refine keeps_set ?_ (by dsimp only; omega) _) | (with_reducible refine keeps_alloc ?_ _))
end
end Go.Proofs.YtihnfhhopldllaaGreatDoor
