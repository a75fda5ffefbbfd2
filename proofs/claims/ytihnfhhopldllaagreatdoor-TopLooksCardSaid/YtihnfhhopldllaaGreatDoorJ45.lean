/- Parts of the proof of TopLooks: U91. No condition. -/
import Derived.Test.YtihnfhhopldllaaGreatDoorJ1
import Derived.Test.YtihnfhhopldllaaGreatDoorJ40
import Derived.Test.YtihnfhhopldllaaGreatDoorJ44
import Derived.Test.YtihnfhhopldllaaGreatDoorJ7
namespace Go.Proofs.YtihnfhhopldllaaGreatDoor
set_option linter.unusedSimpArgs false
set_option linter.unusedVariables false
set_option maxHeartbeats 6400000
set_option maxRecDepth 100000
section
open Go.RowKit
theorem mapped_k (Q : Nat → Prop) (ad : Option Addr) (ac : Nat) (w : World) (h : Kd .V Q w 1 iKids (.slice ad 1 ac)) : Calls Tryz.prog 93 #[.slice ad 1 ac] w fun e w' => (∃ g c2, e = .returned (.agg #[.int .i64 6, .int .u64 0, .slice none 0 0, .string { data := #[] }, .slice (some ⟨g, 0, none⟩) 2 c2]) ∧ ItM w' g ∧ w.heap.size ≤ g) ∧ Below w.heap.size w w' := by
  obtain ⟨b, o, bv, s, rfl, hqb, hbl, hra, hby, hkd⟩ := h.at (i := 0) (nm := [97]) (x := vI) rfl
  obtain ⟨bd, bc, rfl, _⟩ := hby
  obtain ⟨sd, sc, rfl⟩ := hkd.slice
  exact mapped_i b o ac bd sd bc sc w hbl (hra 0 _ rfl) (hra 1 _ rfl) (hra 2 _ rfl) (hra 3 _ rfl) (hra 4 _ rfl) (hra 5 _ rfl) (hra 6 _ rfl) (hra 7 _ rfl) (hra 8 _ rfl) (hra 9 _ rfl)
theorem item_c (Q : Nat → Prop) (bd ad : Option Addr) (bc ac : Nat) (w : World) (h : Is .V Q w 1 (vD iKids) (.agg #[.int .i64 3, .int .u64 0, .int .u64 0, .int .u64 0, .string { data := #[] }, .string { data := #[] }, .int .i64 0, .slice bd 0 bc, .slice ad 1 ac])) : Calls Tryz.prog 49 #[.agg #[.int .i64 3, .int .u64 0, .int .u64 0, .int .u64 0, .string { data := #[] }, .string { data := #[] }, .int .i64 0, .slice bd 0 bc, .slice ad 1 ac]] w fun e w' => (∃ g c2, e = .returned (.tuple #[.agg #[.int .i64 6, .int .u64 0, .slice none 0 0, .string { data := #[] }, .slice (some ⟨g, 0, none⟩) 2 c2], .agg #[.int .i64 0, .int .i64 0, .slice none 0 0]]) ∧ ItM w' g ∧ w.heap.size ≤ g) ∧ Below w.heap.size w w' := by
  have HC : Hid (∀ w, Is .V Q w 1 (vD iKids) (.agg #[.int .i64 3, .int .u64 0, .int .u64 0, .int .u64 0, .string { data := #[] }, .string { data := #[] }, .int .i64 0, .slice bd 0 bc, .slice ad 1 ac]) → Calls Tryz.prog 60 #[.agg #[.int .i64 3, .int .u64 0, .int .u64 0, .int .u64 0, .string { data := #[] }, .string { data := #[] }, .int .i64 0, .slice bd 0 bc, .slice ad 1 ac]] w fun e w' => (∃ qa qn qc, e = .returned (.tuple #[.slice qa qn qc, .int .i64 0])) ∧ Below w.heap.size w w') := Lib.hid (fun w h => by
    have := tCheck_any 1 (vD iKids) Q w _ dk_i (by decide) h
    rw [if_pos ok_i] at this
    exact this)
  have HM := Lib.hid (fun w (h : Kd .V Q w 1 iKids (.slice ad 1 ac)) => mapped_k Q ad ac w h)
  have HKd : Hid (Kd .V Q w 1 iKids (.slice ad 1 ac)) := Lib.hid (by
    obtain ⟨bv, s, hv, _, hk⟩ := h
    simp only [Lay.cells, Value.agg.injEq] at hv
    injection hv with hv
    injection hv with _ hv
    injection hv with _ hv
    injection hv with _ hv
    injection hv with _ hv
    injection hv with _ hv
    injection hv with _ hv
    injection hv with _ hv
    injection hv with _ hv
    injection hv with hv _
    subst hv
    exact hk)
  have HK := Lib.hid h
  clear h
  go_enter Tryz.func49, Tryz.ntmps49
  go_wp2_with fail
  with_reducible refine (HC.out _ ?h1).mono ?_
  case h1 => exact HK.out.beyond bel
  rintro e w1 ⟨⟨qa, qn, qc, rfl⟩, hb1⟩
  obtain ⟨c1_0, f1_0⟩ := cf hb1 w.heap.size 0 (.int .i64 3)
  obtain ⟨c1_1, f1_1⟩ := cf hb1 w.heap.size 1 (.int .u64 0)
  obtain ⟨c1_2, f1_2⟩ := cf hb1 w.heap.size 2 (.int .u64 0)
  obtain ⟨c1_3, f1_3⟩ := cf hb1 w.heap.size 3 (.int .u64 0)
  obtain ⟨c1_4, f1_4⟩ := cf hb1 w.heap.size 4 (.string { data := #[] })
  obtain ⟨c1_5, f1_5⟩ := cf hb1 w.heap.size 5 (.string { data := #[] })
  obtain ⟨c1_6, f1_6⟩ := cf hb1 w.heap.size 6 (.int .i64 0)
  obtain ⟨c1_7, f1_7⟩ := cf hb1 w.heap.size 7 (.slice bd 0 bc)
  obtain ⟨c1_8, f1_8⟩ := cf hb1 w.heap.size 8 (.slice ad 1 ac)
  obtain ⟨c1_9, f1_9⟩ := cf hb1 (w.heap.size + 1) 0 (.int .i64 0)
  obtain ⟨c1_10, f1_10⟩ := cf hb1 (w.heap.size + 1) 1 (.int .u64 0)
  obtain ⟨c1_11, f1_11⟩ := cf hb1 (w.heap.size + 1) 2 (.slice none 0 0)
  obtain ⟨c1_12, f1_12⟩ := cf hb1 (w.heap.size + 1) 3 (.string { data := #[] })
  obtain ⟨c1_13, f1_13⟩ := cf hb1 (w.heap.size + 1) 4 (.slice none 0 0)
  obtain ⟨c1_14, f1_14⟩ := cf hb1 (w.heap.size + 1 + 1) 0 (.int .i64 0)
  obtain ⟨c1_15, f1_15⟩ := cf hb1 (w.heap.size + 1 + 1) 1 (.int .i64 0)
  obtain ⟨c1_16, f1_16⟩ := cf hb1 (w.heap.size + 1 + 1) 2 (.slice none 0 0)
  have hl1_0 := ltB hb1 w.heap.size
  have hl1_1 := ltB hb1 (w.heap.size + 1)
  have hl1_2 := ltB hb1 (w.heap.size + 1 + 1)
  have hw1 := bwB hb1 w.heap.size w
  have hz1 := hw1.size
  clear hb1
  go_wp2_with fail
  with_reducible refine (HM.out _ ?h2).mono ?_
  case h2 => exact HKd.out.beyond bel
  rintro e w2 ⟨⟨g, c2, rfl, hI, hg⟩, hb2⟩
  have hI2 := Lib.hid hI
  have hg2 : w.heap.size + 1 + 1 < g := by first | omega | (simp at hg; omega)
  clear hI hg
  obtain ⟨c2_0, f2_0⟩ := cf hb2 (w.heap.size + 1) 0 (.int .i64 0)
  obtain ⟨c2_1, f2_1⟩ := cf hb2 (w.heap.size + 1) 1 (.int .u64 0)
  obtain ⟨c2_2, f2_2⟩ := cf hb2 (w.heap.size + 1) 2 (.slice none 0 0)
  obtain ⟨c2_3, f2_3⟩ := cf hb2 (w.heap.size + 1) 3 (.string { data := #[] })
  obtain ⟨c2_4, f2_4⟩ := cf hb2 (w.heap.size + 1) 4 (.slice none 0 0)
  obtain ⟨c2_5, f2_5⟩ := cf hb2 (w.heap.size + 1 + 1) 0 (.int .i64 0)
  obtain ⟨c2_6, f2_6⟩ := cf hb2 (w.heap.size + 1 + 1) 1 (.int .i64 0)
  obtain ⟨c2_7, f2_7⟩ := cf hb2 (w.heap.size + 1 + 1) 2 (.slice none 0 0)
  have hl2_0 := ltB hb2 (w.heap.size + 1)
  have hl2_1 := ltB hb2 (w.heap.size + 1 + 1)
  have hw2 := bwB hb2 w.heap.size w
  have hz2 := hw2.size
  clear hb2
  go_wp2_with fail
  refine bodyPost_ret (v := .tuple #[.agg #[.int .i64 6, .int .u64 0, .slice none 0 0, .string { data := #[] }, .slice (some ⟨g, 0, none⟩) 2 c2], .agg #[.int .i64 0, .int .i64 0, .slice none 0 0]]) (by simp (maxDischargeDepth := 4) [results, Tryz.results49, go_sem, c2_0, f2_0, c2_1, f2_1, c2_2, f2_2, c2_3, f2_3, c2_4, f2_4, c2_5, f2_5, c2_6, f2_6, c2_7, f2_7]) rfl ?_
  refine ⟨⟨_, _, rfl, hI2.out.keeps (Q := fun b => w.heap.size + 1 + 1 < b) ?_ hg2, by omega⟩, bel⟩
  repeat' (first | (with_reducible exact Keeps.refl _ _) | (with_reducible refine keeps_drew ?_) | (with_reducible refine keeps_set ?_ (by dsimp only; omega) _) | (with_reducible refine keeps_alloc ?_ _))
theorem laid_4 (Q : Nat → Prop) (bd ad : Option Addr) (bc ac : Nat) (w : World) (h : Is .V Q w 1 (vD iKids) (.agg #[.int .i64 3, .int .u64 0, .int .u64 0, .int .u64 0, .string { data := #[] }, .string { data := #[] }, .int .i64 0, .slice bd 0 bc, .slice ad 1 ac])) : Calls Tryz.prog 27 #[.int .i64 4, .agg #[.int .i64 3, .int .u64 0, .int .u64 0, .int .u64 0, .string { data := #[] }, .string { data := #[] }, .int .i64 0, .slice bd 0 bc, .slice ad 1 ac]] w fun e w' => (∃ g c2, e = .returned (.tuple #[.slice (some ⟨g, 0, none⟩) 4 c2, .agg #[.int .i64 0, .int .i64 0, .slice none 0 0]]) ∧ Bs w' g 0 cborL ∧ w.heap.size ≤ g) ∧ Below w.heap.size w w' := by
  have HI := Lib.hid (fun w h => item_c Q bd ad bc ac w h)
  have HE := Lib.hid (fun gi c w h => encode_c gi c w h)
  have HK := Lib.hid h
  clear h
  go_enter Tryz.func27, Tryz.ntmps27
  go_wp2_with fail
  with_reducible refine (HI.out _ ?h1).mono ?_
  case h1 => exact HK.out.beyond bel
  rintro e w1 ⟨⟨gi, ci, rfl, hI, hgi⟩, hb1⟩
  have hI2 := Lib.hid hI
  clear hI hgi
  obtain ⟨c1_0, f1_0⟩ := cf hb1 (w.heap.size + 1) 0 (.int .i64 0)
  obtain ⟨c1_1, f1_1⟩ := cf hb1 (w.heap.size + 1) 1 (.int .i64 0)
  obtain ⟨c1_2, f1_2⟩ := cf hb1 (w.heap.size + 1) 2 (.slice none 0 0)
  have hl1_0 := ltB hb1 (w.heap.size + 1)
  have hw1 := bwB hb1 w.heap.size w
  have hz1 := hw1.size
  clear hb1
  go_wp2_with fail
  with_reducible refine (HE.out _ _ _ ?h2).mono ?_
  case h2 => exact hI2.out.beyond bel
  rintro e w2 ⟨⟨b2, c2, rfl, hbs, hgb⟩, hb2⟩
  have hB2 := Lib.hid hbs
  have hgb2 : w.heap.size + 1 < b2 := by first | omega | (simp at hgb; omega)
  clear hbs hgb
  obtain ⟨c2_0, f2_0⟩ := cf hb2 (w.heap.size + 1) 0 (.int .i64 0)
  obtain ⟨c2_1, f2_1⟩ := cf hb2 (w.heap.size + 1) 1 (.int .i64 0)
  obtain ⟨c2_2, f2_2⟩ := cf hb2 (w.heap.size + 1) 2 (.slice none 0 0)
  have hl2_0 := ltB hb2 (w.heap.size + 1)
  have hw2 := bwB hb2 w.heap.size w
  have hz2 := hw2.size
  clear hb2
  go_wp2_with fail
  refine bodyPost_ret (v := .tuple #[.slice (some ⟨b2, 0, none⟩) 4 c2, .agg #[.int .i64 0, .int .i64 0, .slice none 0 0]]) (by simp (maxDischargeDepth := 4) [results, Tryz.results27, go_sem, c2_0, f2_0, c2_1, f2_1, c2_2, f2_2]) rfl ?_
  refine ⟨⟨_, _, rfl, ?_, by omega⟩, bel⟩
  repeat' (first | (with_reducible refine Bs.set ?_ (by dsimp only; omega) _) | (with_reducible refine Bs.drew ?_) | (with_reducible refine Bs.alloc ?_ _) | (with_reducible exact hB2.out))
end
end Go.Proofs.YtihnfhhopldllaaGreatDoor
