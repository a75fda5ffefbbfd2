/- Parts of the proof of TopLooks: U87, U88, U89. No condition. -/
import Derived.Test.YtihnfhhopldllaaGreatDoorJ1
import Derived.Test.YtihnfhhopldllaaGreatDoorJ41
namespace Go.Proofs.YtihnfhhopldllaaGreatDoor
set_option linter.unusedSimpArgs false
set_option linter.unusedVariables false
set_option maxHeartbeats 6400000
set_option maxRecDepth 100000
section
open Go.RowKit
theorem keeps_drewN {Q : Nat → Prop} {w W : World} (h : Keeps Q w W) (n : Nat) : Keeps Q w (W.drewN n) := h
theorem grown_drewM {w W : World} {row : Option Nat} (h : w.grownBy W row) (n : Nat) : w.grownBy (W.drewN n) row := ⟨h.os, h.tape, h.output, h.size, h.block⟩
theorem cread_I (g g2 c : Nat) (w : World) (h : RdC w g g2 c 3) : Calls Tryz.prog 79 #[.pointer (some ⟨g, 0, none⟩), .int .i64 602] w fun e w' => e = .returned (.tuple #[.agg #[.int .i64 1, .int .u64 1, .slice none 0 0, .string { data := #[] }, .slice none 0 0], .agg #[.int .i64 0, .int .i64 0, .slice none 0 0]]) ∧ RdC w' g g2 c 4 ∧ w.grownBy w' (some g) := by
  have HA := Lib.hid (fun w (h : RdC w g g2 c 3) => at_3 g g2 c w h)
  have HB := Lib.hid (fun w (h : RdC w g g2 c 3) => rbyte_3 g g2 c w h)
  have HN := Lib.hid cnum_1
  have HR := Lib.hid h
  have hg := h.rd.lt
  have hn := h.ne
  clear h
  go_enter Tryz.func79, Tryz.ntmps79
  go_wp2_with fail
  with_reducible refine (HA.out _ ?q1).mono ?_
  case q1 => exact HR.out.beyond bel
  rintro e w' ⟨rfl, rfl⟩
  go_wp2_with fail
  with_reducible refine (HB.out _ ?q2).mono ?_
  case q2 => exact HR.out.beyond bel
  rintro e w2 ⟨rfl, hR2, hg2⟩
  obtain ⟨c2_0, f2_0⟩ := cfG hg2 w.heap.size 0 (.int .i64 0)
  obtain ⟨c2_1, f2_1⟩ := cfG hg2 w.heap.size 1 (.int .u64 0)
  obtain ⟨c2_2, f2_2⟩ := cfG hg2 w.heap.size 2 (.slice none 0 0)
  obtain ⟨c2_3, f2_3⟩ := cfG hg2 w.heap.size 3 (.string { data := #[] })
  obtain ⟨c2_4, f2_4⟩ := cfG hg2 w.heap.size 4 (.slice none 0 0)
  obtain ⟨c2_5, f2_5⟩ := cfG hg2 (w.heap.size + 1) 0 (.int .i64 0)
  obtain ⟨c2_6, f2_6⟩ := cfG hg2 (w.heap.size + 1) 1 (.int .i64 0)
  obtain ⟨c2_7, f2_7⟩ := cfG hg2 (w.heap.size + 1) 2 (.slice none 0 0)
  have hgw : w.grownBy w2 (some g) := grown_trans (grown_below bel _) hg2
  have hz2 := hg2.size
  have hl20 : w.heap.size + 1 < w2.heap.size := by first | omega | (simp at hz2; omega)
  have hl21 : w.heap.size < w2.heap.size := by omega
  have HR2 := Lib.hid hR2
  clear hg2 hR2
  go_wp2_with fail
  with_reducible refine (HN.out _ _).mono ?_
  rintro e w' ⟨rfl, rfl⟩
  go_upto_region 19 with fail
  go_quiet (fail)
  all_goals
    go_wp2_with fail
    refine bodyPost_ret (v := .tuple #[.agg #[.int .i64 1, .int .u64 1, .slice none 0 0, .string { data := #[] }, .slice none 0 0], .agg #[.int .i64 0, .int .i64 0, .slice none 0 0]]) (by simp (maxDischargeDepth := 4) [results, Tryz.results79, go_sem, c2_0, f2_0, c2_1, f2_1, c2_2, f2_2, c2_3, f2_3, c2_4, f2_4, c2_5, f2_5, c2_6, f2_6, c2_7, f2_7]) rfl ?_
    refine ⟨rfl, HR2.out.keeps ?_, ?_⟩
    · repeat' (first | (with_reducible exact Keeps.refl _ _) | (with_reducible refine keeps_drew ?_) | (with_reducible refine keeps_drewN ?_ _) | (with_reducible refine keeps_set ?_ (by dsimp only; omega) _) | (with_reducible refine keeps_alloc ?_ _))
    · repeat' (first | (with_reducible assumption) | (with_reducible refine grown_set_none ?_ (by dsimp only; omega) _) | (with_reducible refine grown_drew ?_) | (with_reducible refine grown_drewM ?_ _))
theorem cread_T (g g2 c : Nat) (w : World) (h : RdC w g g2 c 1) : Calls Tryz.prog 79 #[.pointer (some ⟨g, 0, none⟩), .int .i64 602] w fun e w' => e = .returned (.tuple #[.agg #[.int .i64 4, .int .u64 0, .slice none 0 0, .string { data := #[97] }, .slice none 0 0], .agg #[.int .i64 0, .int .i64 0, .slice none 0 0]]) ∧ RdC w' g g2 c 3 ∧ w.grownBy w' (some g) := by
  have HA := Lib.hid (fun w (h : RdC w g g2 c 1) => at_1 g g2 c w h)
  have HB := Lib.hid (fun w (h : RdC w g g2 c 1) => rbyte_1 g g2 c w h)
  have HN := Lib.hid cnum_1
  have HW := Lib.hid (fun p w (h : RdC w g g2 c 2) => row_1 g g2 c p w h)
  have HR := Lib.hid h
  have hg := h.rd.lt
  have hn := h.ne
  clear h
  go_enter Tryz.func79, Tryz.ntmps79
  go_wp2_with fail
  with_reducible refine (HA.out _ ?q1).mono ?_
  case q1 => exact HR.out.beyond bel
  rintro e w' ⟨rfl, rfl⟩
  go_wp2_with fail
  with_reducible refine (HB.out _ ?q2).mono ?_
  case q2 => exact HR.out.beyond bel
  rintro e w2 ⟨rfl, hR2, hg2⟩
  obtain ⟨c2_0, f2_0⟩ := cfG hg2 w.heap.size 0 (.int .i64 0)
  obtain ⟨c2_1, f2_1⟩ := cfG hg2 w.heap.size 1 (.int .u64 0)
  obtain ⟨c2_2, f2_2⟩ := cfG hg2 w.heap.size 2 (.slice none 0 0)
  obtain ⟨c2_3, f2_3⟩ := cfG hg2 w.heap.size 3 (.string { data := #[] })
  obtain ⟨c2_4, f2_4⟩ := cfG hg2 w.heap.size 4 (.slice none 0 0)
  obtain ⟨c2_5, f2_5⟩ := cfG hg2 (w.heap.size + 1) 0 (.int .i64 0)
  obtain ⟨c2_6, f2_6⟩ := cfG hg2 (w.heap.size + 1) 1 (.int .i64 0)
  obtain ⟨c2_7, f2_7⟩ := cfG hg2 (w.heap.size + 1) 2 (.slice none 0 0)
  have hgw : w.grownBy w2 (some g) := grown_trans (grown_below bel _) hg2
  have hz2 := hg2.size
  have hl20 : w.heap.size + 1 < w2.heap.size := by first | omega | (simp at hz2; omega)
  have hl21 : w.heap.size < w2.heap.size := by omega
  have HR2 := Lib.hid hR2
  clear hg2 hR2
  go_wp2_with fail
  with_reducible refine (HN.out _ _).mono ?_
  rintro e w' ⟨rfl, rfl⟩
  go_upto_region 19 with fail
  go_quiet (fail)
  all_goals
    go_wp2_with fail
    with_reducible refine (HW.out _ _ ?q3).mono ?_
    case q3 => exact HR2.out.keeps (keeps_drewN (Keeps.refl _ _) _)
    rintro e w3 ⟨rfl, hR3, hg3⟩
    have c3_0 := hC hg3 c2_0
    have f3_0 := hF hg3 f2_0
    have c3_1 := hC hg3 c2_1
    have f3_1 := hF hg3 f2_1
    have c3_2 := hC hg3 c2_2
    have f3_2 := hF hg3 f2_2
    have c3_3 := hC hg3 c2_3
    have f3_3 := hF hg3 f2_3
    have c3_4 := hC hg3 c2_4
    have f3_4 := hF hg3 f2_4
    have c3_5 := hC hg3 c2_5
    have f3_5 := hF hg3 f2_5
    have c3_6 := hC hg3 c2_6
    have f3_6 := hF hg3 f2_6
    have c3_7 := hC hg3 c2_7
    have f3_7 := hF hg3 f2_7
    have hgw3 : w.grownBy w3 (some g) := grown_trans (grown_drewM hgw _) hg3
    have hz3 := hg3.size
    have hl30 : w.heap.size + 1 < w3.heap.size := by first | omega | (simp at hz3; omega)
    have hl31 : w.heap.size < w3.heap.size := by omega
    have HR3 := Lib.hid hR3
    clear hg3 hR3
    go_wp2_with fail
    refine bodyPost_ret (v := .tuple #[.agg #[.int .i64 4, .int .u64 0, .slice none 0 0, .string { data := #[97] }, .slice none 0 0], .agg #[.int .i64 0, .int .i64 0, .slice none 0 0]]) (by simp (maxDischargeDepth := 4) [results, Tryz.results79, go_sem, c3_0, f3_0, c3_1, f3_1, c3_2, f3_2, c3_3, f3_3, c3_4, f3_4, c3_5, f3_5, c3_6, f3_6, c3_7, f3_7]) rfl ?_
    refine ⟨rfl, HR3.out.keeps ?_, ?_⟩
    · repeat' (first | (with_reducible exact Keeps.refl _ _) | (with_reducible refine keeps_drew ?_) | (with_reducible refine keeps_drewN ?_ _) | (with_reducible refine keeps_set ?_ (by dsimp only; omega) _) | (with_reducible refine keeps_alloc ?_ _))
    · repeat' (first | (with_reducible assumption) | (with_reducible refine grown_set_none ?_ (by dsimp only; omega) _) | (with_reducible refine grown_drew ?_) | (with_reducible refine grown_drewM ?_ _))
end
section
open Go.RowKit
theorem cA {x w : World} {a b : Obj} {p : Addr} {v : Value} (hx : x = (w.alloc a).alloc b) (h : w.cell? p = some v) : x.cell? p = some v := hx ▸ Lib.cell?_alloc_some _ (Lib.cell?_alloc_some _ h)
theorem fA {x w : World} {a b : Obj} {p : Addr} (hx : x = (w.alloc a).alloc b) (h : w.frozen? p = false) (hp : p.block < w.heap.size) : x.frozen? p = false := by
  subst hx
  exact ((((Below.refl w.heap.size w).alloc (Nat.le_refl _) a).alloc (by simp) b).frozen hp).trans h
theorem cS {x w : World} {q p : Addr} {u v : Value} (hx : x = w.setCell q u) (hn : p.block ≠ q.block) (h : w.cell? p = some v) : x.cell? p = some v := by
  subst hx
  exact (World.cell?_of_block (heap_setCell_other w q p.block u hn)).trans h
theorem fS {x w : World} {q p : Addr} {u : Value} (hx : x = w.setCell q u) (hn : p.block ≠ q.block) (h : w.frozen? p = false) : x.frozen? p = false := by
  subst hx
  exact (World.frozen?_of_block (heap_setCell_other w q p.block u hn)).trans h
theorem cK {Q : Nat → Prop} {w w' : World} {b o : Nat} {v : Value} (hk : Keeps Q w w') (h : w.cell? ⟨b, o, none⟩ = some v) (hq : Q b) (hb : b < w.heap.size) : w'.cell? ⟨b, o, none⟩ = some v := (World.cell?_of_block (a := ⟨b, o, none⟩) (hk.2 b hq hb)).trans h
theorem fK {Q : Nat → Prop} {w w' : World} {b o : Nat} (hk : Keeps Q w w') (h : w.frozen? ⟨b, o, none⟩ = false) (hq : Q b) (hb : b < w.heap.size) : w'.frozen? ⟨b, o, none⟩ = false := (World.frozen?_of_block (a := ⟨b, o, none⟩) (hk.2 b hq hb)).trans h
theorem it1_one : ∀ u ∈ ([.int .i64 4, .int .u64 0, .slice none 0 0, .string { data := #[97] }, .slice none 0 0] : List Value), u.oneCell' = true := fun u hu => by
  simp only [List.mem_cons, List.not_mem_nil, or_false] at hu
  rcases hu with rfl | rfl | rfl | rfl | rfl
  all_goals rfl
theorem it2_one : ∀ u ∈ ([.int .i64 1, .int .u64 1, .slice none 0 0, .string { data := #[] }, .slice none 0 0] : List Value), u.oneCell' = true := fun u hu => by
  simp only [List.mem_cons, List.not_mem_nil, or_false] at hu
  rcases hu with rfl | rfl | rfl | rfl | rfl
  all_goals rfl
theorem kids_M (g g2 c : Nat) (w : World) (h : RdC w g g2 c 1) : Calls Tryz.prog 135 #[.pointer (some ⟨g, 0, none⟩), .agg #[.int .i64 6, .int .u64 0, .slice none 0 0, .string { data := #[] }, .slice none 0 0], .int .u64 1, .int .i64 2, .int .i64 603] w fun e w' => (∃ q cap, e = .returned (.tuple #[.agg #[.int .i64 6, .int .u64 0, .slice none 0 0, .string { data := #[] }, .slice (some ⟨q, 0, none⟩) 2 cap], .agg #[.int .i64 0, .int .i64 0, .slice none 0 0]]) ∧ ItM w' q ∧ w.heap.size ≤ q) ∧ RdC w' g g2 c 4 ∧ w.grownBy w' (some g) := by
  have HT := Lib.hid (fun w (h : RdC w g g2 c 1) => cread_T g g2 c w h)
  have HI := Lib.hid (fun w (h : RdC w g g2 c 3) => cread_I g g2 c w h)
  have HR := Lib.hid h
  have hg := h.rd.lt
  have hn := h.ne
  clear h
  obtain ⟨i0, hi, iz0, iz1, iz2⟩ := hi_item
  go_enter Tryz.func135, Tryz.ntmps135
  go_wp2_with fail
  refine wp_loop_rounds 3 ?_
  rw [rounds_succ]
  go_wp2_with fail
  refine wp_loop_rounds 4 ?_
  rw [rounds_succ]
  go_wp2_with fail
  with_reducible refine (HT.out _ ?q1).mono ?_
  case q1 => exact HR.out.beyond bel
  rintro e w2 ⟨rfl, hR2, hg2⟩
  obtain ⟨c2_0, f2_0⟩ := cfG hg2 w.heap.size 0 (.int .i64 6)
  obtain ⟨c2_1, f2_1⟩ := cfG hg2 w.heap.size 1 (.int .u64 0)
  obtain ⟨c2_2, f2_2⟩ := cfG hg2 w.heap.size 2 (.slice none 0 0)
  obtain ⟨c2_3, f2_3⟩ := cfG hg2 w.heap.size 3 (.string { data := #[] })
  obtain ⟨c2_4, f2_4⟩ := cfG hg2 w.heap.size 4 (.slice none 0 0)
  obtain ⟨c2_5, f2_5⟩ := cfG hg2 (w.heap.size + 1) 0 (.int .i64 0)
  obtain ⟨c2_6, f2_6⟩ := cfG hg2 (w.heap.size + 1) 1 (.int .u64 0)
  obtain ⟨c2_7, f2_7⟩ := cfG hg2 (w.heap.size + 1) 2 (.slice none 0 0)
  obtain ⟨c2_8, f2_8⟩ := cfG hg2 (w.heap.size + 1) 3 (.string { data := #[] })
  obtain ⟨c2_9, f2_9⟩ := cfG hg2 (w.heap.size + 1) 4 (.slice none 0 0)
  obtain ⟨c2_10, f2_10⟩ := cfG hg2 (w.heap.size + 1 + 1) 0 (.int .i64 0)
  obtain ⟨c2_11, f2_11⟩ := cfG hg2 (w.heap.size + 1 + 1) 1 (.int .i64 0)
  obtain ⟨c2_12, f2_12⟩ := cfG hg2 (w.heap.size + 1 + 1) 2 (.slice none 0 0)
  have hgw : w.grownBy w2 (some g) := grown_trans (grown_below bel _) hg2
  have hz2 := hg2.size
  have hl20 : w.heap.size + 1 + 1 < w2.heap.size := by first | omega | (simp at hz2; omega)
  have hl21 : w.heap.size + 1 < w2.heap.size := by omega
  have hl22 : w.heap.size < w2.heap.size := by omega
  have HR2 := Lib.hid hR2
  clear hg2 hR2
  go_upto_region 8 with fail
  obtain ⟨x, hx⟩ : ∃ X, X = (w2.alloc (Obj.cells #[.int .i64 4, .int .u64 0, .slice none 0 0, .string { data := #[97] }, .slice none 0 0] 96)).alloc (Obj.cells #[.int .i64 0, .int .i64 0, .slice none 0 0] 33) := ⟨_, rfl⟩
  rw [← hx]
  have hgx : w.grownBy x (some g) := by
    rw [hx]
    exact grown_alloc (grown_alloc hgw _) _
  have hkx : Keeps (fun b => b = g ∨ b = g2) w2 x := by
    rw [hx]
    exact keeps_alloc (keeps_alloc (Keeps.refl _ _) _) _
  have hlx : w2.heap.size + 1 < x.heap.size := by
    rw [hx]
    simp
  have d0 := cA hx c2_0
  have d1 := cA hx c2_1
  have d2 := cA hx c2_2
  have d3 := cA hx c2_3
  have d4 := cA hx c2_4
  have d5 := cA hx c2_5
  have d6 := cA hx c2_6
  have d7 := cA hx c2_7
  have d8 := cA hx c2_8
  have d9 := cA hx c2_9
  have d10 := cA hx c2_10
  have d11 := cA hx c2_11
  have d12 := cA hx c2_12
  have d13 := cX hx w2.heap.size 0 (.int .i64 4)
  have d14 := cX hx w2.heap.size 1 (.int .u64 0)
  have d15 := cX hx w2.heap.size 2 (.slice none 0 0)
  have d16 := cX hx w2.heap.size 3 (.string { data := #[97] })
  have d17 := cX hx w2.heap.size 4 (.slice none 0 0)
  have d18 := cX hx (w2.heap.size + 1) 0 (.int .i64 0)
  have d19 := cX hx (w2.heap.size + 1) 1 (.int .i64 0)
  have d20 := cX hx (w2.heap.size + 1) 2 (.slice none 0 0)
  have df0 := fA hx f2_0 (by dsimp only; omega)
  have df1 := fA hx f2_1 (by dsimp only; omega)
  have df2 := fA hx f2_2 (by dsimp only; omega)
  have df3 := fA hx f2_3 (by dsimp only; omega)
  have df4 := fA hx f2_4 (by dsimp only; omega)
  have df5 := fA hx f2_5 (by dsimp only; omega)
  have df6 := fA hx f2_6 (by dsimp only; omega)
  have df7 := fA hx f2_7 (by dsimp only; omega)
  have df8 := fA hx f2_8 (by dsimp only; omega)
  have df9 := fA hx f2_9 (by dsimp only; omega)
  have df10 := fA hx f2_10 (by dsimp only; omega)
  have df11 := fA hx f2_11 (by dsimp only; omega)
  have df12 := fA hx f2_12 (by dsimp only; omega)
  have hlx0 : w.heap.size < x.heap.size := by omega
  clear hx
  go_wp2_with ((at_builtin; go_loud (refine wpList_append_lies _ rfl _ _ 94 rfl 0 96 i0 _ 5 80 Tryz.underlying94 hi iz0 iz1 iz2 rfl (by decide) (.slice none 0 0) 0 [] rfl (World.ownsRow_nil _ _ _ _) ⟨x.heap.size, 0, none⟩ 1 1 [.int .i64 4, .int .u64 0, .slice none 0 0, .string { data := #[97] }, .slice none 0 0] rfl rfl ?c1 ?c2 (by decide) ?c3 ?c4 ?c5 _ rfl ?_; (case c1 => exact World.news_of_block (cs := #[.int .i64 4, .int .u64 0, .slice none 0 0, .string { data := #[97] }, .slice none 0 0]) (heap_alloc_last x _)); (case c2 => first | exact it1_one | exact it2_one); (case c3 => (unfold maxLen; omega)); (case c4 => omega); (case c5 => exact Nat.zero_le _); intro g7 cap7 w7 hown7 hgrow7 hat7 hlt7; have hz7 := hgrow7.size; have hl7 : w.heap.size < w7.heap.size := (by simp at hz7; omega); have k7_0 : w7.cell? ⟨w.heap.size, 0, none⟩ = some (.int .i64 6) := (row_cell hgrow7 (b := w.heap.size) (i := 0) (by simp; omega) (fun e => by cases e)).trans (Lib.cell?_alloc_some _ d0); have k7_1 : w7.cell? ⟨w.heap.size, 1, none⟩ = some (.int .u64 0) := (row_cell hgrow7 (b := w.heap.size) (i := 1) (by simp; omega) (fun e => by cases e)).trans (Lib.cell?_alloc_some _ d1); have k7_2 : w7.cell? ⟨w.heap.size, 2, none⟩ = some (.slice none 0 0) := (row_cell hgrow7 (b := w.heap.size) (i := 2) (by simp; omega) (fun e => by cases e)).trans (Lib.cell?_alloc_some _ d2); have k7_3 : w7.cell? ⟨w.heap.size, 3, none⟩ = some (.string { data := #[] }) := (row_cell hgrow7 (b := w.heap.size) (i := 3) (by simp; omega) (fun e => by cases e)).trans (Lib.cell?_alloc_some _ d3); have k7_4 : w7.cell? ⟨w.heap.size, 4, none⟩ = some (.slice none 0 0) := (row_cell hgrow7 (b := w.heap.size) (i := 4) (by simp; omega) (fun e => by cases e)).trans (Lib.cell?_alloc_some _ d4); have kf7_0 := rF hgrow7 w.heap.size 0 (fun e => by cases e); have kf7_1 := rF hgrow7 w.heap.size 1 (fun e => by cases e); have kf7_2 := rF hgrow7 w.heap.size 2 (fun e => by cases e); have kf7_3 := rF hgrow7 w.heap.size 3 (fun e => by cases e); have kf7_4 := rF hgrow7 w.heap.size 4 (fun e => by cases e))))
  have hg7 : w.heap.size + 1 + 1 < g7 := by
    rcases hat7 with h | h
    · cases h
    · simp at h
      omega
  have hb7 : Below x.heap.size x w7 := Below.trans bel ((below_grown hgrow7).mono (by simp))
  have hgw7 : w.grownBy w7 (some g) := grown_trans hgx (grown_below hb7 _)
  have hkx7 : Keeps (fun b => b = g ∨ b = g2) x w7 := Keeps.mono (Keeps.beyond hb7) (Q := fun _ => True) (fun _ _ => True.intro)
  obtain ⟨y, hy⟩ : ∃ X, X = w7.setCell ⟨w.heap.size, 4, none⟩ (.slice (some ⟨g7, 0, none⟩) 1 cap7) := ⟨_, rfl⟩
  rw [← hy]
  have hgy : w.grownBy y (some g) := by
    rw [hy]
    exact grown_set_none hgw7 (Nat.le_refl _) _
  have HRy : Hid (RdC y g g2 c 3) := Lib.hid (by
    rw [hy]
    exact ((HR2.out.keeps hkx).keeps hkx7).keeps (keeps_set (Keeps.refl _ _) (.inl (fun e => by dsimp only at e; omega)) _))
  have HOy : Hid (y.ownsRow 0 96 5 (.slice (some ⟨g7, 0, none⟩) 1 cap7) 1 [.int .i64 4, .int .u64 0, .slice none 0 0, .string { data := #[97] }, .slice none 0 0]) := Lib.hid (by
    rw [hy]
    exact ownsRow_keeps hown7 (fun b hb => heap_setCell_other _ _ _ _ (by have : g7 = b := Option.some.inj hb; dsimp only; omega)))
  have hgy7 : g7 < y.heap.size := by rw [hy]; simpa [World.setCell] using hlt7
  have hzy : w.heap.size + 1 + 1 < y.heap.size := by omega
  have y0 : y.cell? ⟨w.heap.size, 0, none⟩ = some (.int .i64 6) := by
    rw [hy]
    simp [go_sem, *]
  have y1 : y.cell? ⟨w.heap.size, 1, none⟩ = some (.int .u64 0) := by
    rw [hy]
    simp [go_sem, *]
  have y2 : y.cell? ⟨w.heap.size, 2, none⟩ = some (.slice none 0 0) := by
    rw [hy]
    simp [go_sem, *]
  have y3 : y.cell? ⟨w.heap.size, 3, none⟩ = some (.string { data := #[] }) := by
    rw [hy]
    simp [go_sem, *]
  have y4 : y.cell? ⟨w.heap.size, 4, none⟩ = some (.slice (some ⟨g7, 0, none⟩) 1 cap7) := by
    rw [hy]
    simp [go_sem, *]
  have y5 := cS hy (by dsimp only; omega) ((hb7.cell (by dsimp only; omega)).trans d5)
  have y6 := cS hy (by dsimp only; omega) ((hb7.cell (by dsimp only; omega)).trans d6)
  have y7 := cS hy (by dsimp only; omega) ((hb7.cell (by dsimp only; omega)).trans d7)
  have y8 := cS hy (by dsimp only; omega) ((hb7.cell (by dsimp only; omega)).trans d8)
  have y9 := cS hy (by dsimp only; omega) ((hb7.cell (by dsimp only; omega)).trans d9)
  have y10 := cS hy (by dsimp only; omega) ((hb7.cell (by dsimp only; omega)).trans d10)
  have y11 := cS hy (by dsimp only; omega) ((hb7.cell (by dsimp only; omega)).trans d11)
  have y12 := cS hy (by dsimp only; omega) ((hb7.cell (by dsimp only; omega)).trans d12)
  have yf0 : y.frozen? ⟨w.heap.size, 0, none⟩ = false := by
    rw [hy]
    simp [go_sem, *]
  have yf1 : y.frozen? ⟨w.heap.size, 1, none⟩ = false := by
    rw [hy]
    simp [go_sem, *]
  have yf2 : y.frozen? ⟨w.heap.size, 2, none⟩ = false := by
    rw [hy]
    simp [go_sem, *]
  have yf3 : y.frozen? ⟨w.heap.size, 3, none⟩ = false := by
    rw [hy]
    simp [go_sem, *]
  have yf4 : y.frozen? ⟨w.heap.size, 4, none⟩ = false := by
    rw [hy]
    simp [go_sem, *]
  have yf5 := fS hy (by dsimp only; omega) ((hb7.frozen (by dsimp only; omega)).trans df5)
  have yf6 := fS hy (by dsimp only; omega) ((hb7.frozen (by dsimp only; omega)).trans df6)
  have yf7 := fS hy (by dsimp only; omega) ((hb7.frozen (by dsimp only; omega)).trans df7)
  have yf8 := fS hy (by dsimp only; omega) ((hb7.frozen (by dsimp only; omega)).trans df8)
  have yf9 := fS hy (by dsimp only; omega) ((hb7.frozen (by dsimp only; omega)).trans df9)
  have yf10 := fS hy (by dsimp only; omega) ((hb7.frozen (by dsimp only; omega)).trans df10)
  have yf11 := fS hy (by dsimp only; omega) ((hb7.frozen (by dsimp only; omega)).trans df11)
  have yf12 := fS hy (by dsimp only; omega) ((hb7.frozen (by dsimp only; omega)).trans df12)
  clear hy hown7 hgrow7 hat7 hlt7 hb7 hkx7 k7_0 kf7_0 k7_1 kf7_1 k7_2 kf7_2 k7_3 kf7_3 k7_4 kf7_4
  rw [rounds_succ]
  go_wp2_with fail
  with_reducible refine (HI.out _ ?q2).mono ?_
  case q2 => exact HRy.out.beyond bel
  rintro e w3 ⟨rfl, hR3, hg3⟩
  obtain ⟨c3_0, f3_0⟩ := cfG hg3 w.heap.size 0 (.int .i64 6)
  obtain ⟨c3_1, f3_1⟩ := cfG hg3 w.heap.size 1 (.int .u64 0)
  obtain ⟨c3_2, f3_2⟩ := cfG hg3 w.heap.size 2 (.slice none 0 0)
  obtain ⟨c3_3, f3_3⟩ := cfG hg3 w.heap.size 3 (.string { data := #[] })
  obtain ⟨c3_4, f3_4⟩ := cfG hg3 w.heap.size 4 (.slice (some ⟨g7, 0, none⟩) 1 cap7)
  obtain ⟨c3_5, f3_5⟩ := cfG hg3 (w.heap.size + 1) 0 (.int .i64 0)
  obtain ⟨c3_6, f3_6⟩ := cfG hg3 (w.heap.size + 1) 1 (.int .u64 0)
  obtain ⟨c3_7, f3_7⟩ := cfG hg3 (w.heap.size + 1) 2 (.slice none 0 0)
  obtain ⟨c3_8, f3_8⟩ := cfG hg3 (w.heap.size + 1) 3 (.string { data := #[] })
  obtain ⟨c3_9, f3_9⟩ := cfG hg3 (w.heap.size + 1) 4 (.slice none 0 0)
  obtain ⟨c3_10, f3_10⟩ := cfG hg3 (w.heap.size + 1 + 1) 0 (.int .i64 0)
  obtain ⟨c3_11, f3_11⟩ := cfG hg3 (w.heap.size + 1 + 1) 1 (.int .i64 0)
  obtain ⟨c3_12, f3_12⟩ := cfG hg3 (w.heap.size + 1 + 1) 2 (.slice none 0 0)
  have hgw3 : w.grownBy w3 (some g) := grown_trans (grown_trans hgy (grown_below bel _)) hg3
  have hz3 : y.heap.size ≤ w3.heap.size := by have := hg3.size; first | omega | (simp at this; omega)
  have hl3 : w.heap.size + 1 + 1 < w3.heap.size := by omega
  have HR3 := Lib.hid hR3
  have HO3 : Hid (w3.ownsRow 0 96 5 (.slice (some ⟨g7, 0, none⟩) 1 cap7) 1 [.int .i64 4, .int .u64 0, .slice none 0 0, .string { data := #[97] }, .slice none 0 0]) := Lib.hid (ownsRow_keeps HOy.out (fun b hb => by
    have e : g7 = b := Option.some.inj hb
    subst e
    exact hg3.block g7 (by first | omega | (simp; omega)) (fun e => by have := Option.some.inj e; omega)))
  clear hR3 hg3
  go_upto_region 8 with fail
  obtain ⟨z, hz⟩ : ∃ X, X = (w3.alloc (Obj.cells #[.int .i64 1, .int .u64 1, .slice none 0 0, .string { data := #[] }, .slice none 0 0] 96)).alloc (Obj.cells #[.int .i64 0, .int .i64 0, .slice none 0 0] 33) := ⟨_, rfl⟩
  rw [← hz]
  have hgz : w.grownBy z (some g) := by
    rw [hz]
    exact grown_alloc (grown_alloc hgw3 _) _
  have hkz : Keeps (fun _ => True) w3 z := by
    rw [hz]
    exact keeps_alloc (keeps_alloc (Keeps.refl _ _) _) _
  have hlz : w3.heap.size + 1 < z.heap.size := by
    rw [hz]
    simp
  have e0 := cA hz c3_0
  have e1 := cA hz c3_1
  have e2 := cA hz c3_2
  have e3 := cA hz c3_3
  have e4 := cA hz c3_4
  have e5 := cA hz c3_5
  have e6 := cA hz c3_6
  have e7 := cA hz c3_7
  have e8 := cA hz c3_8
  have e9 := cA hz c3_9
  have e10 := cA hz c3_10
  have e11 := cA hz c3_11
  have e12 := cA hz c3_12
  have e13 := cX hz w3.heap.size 0 (.int .i64 1)
  have e14 := cX hz w3.heap.size 1 (.int .u64 1)
  have e15 := cX hz w3.heap.size 2 (.slice none 0 0)
  have e16 := cX hz w3.heap.size 3 (.string { data := #[] })
  have e17 := cX hz w3.heap.size 4 (.slice none 0 0)
  have e18 := cX hz (w3.heap.size + 1) 0 (.int .i64 0)
  have e19 := cX hz (w3.heap.size + 1) 1 (.int .i64 0)
  have e20 := cX hz (w3.heap.size + 1) 2 (.slice none 0 0)
  have ef0 := fA hz f3_0 (by dsimp only; omega)
  have ef1 := fA hz f3_1 (by dsimp only; omega)
  have ef2 := fA hz f3_2 (by dsimp only; omega)
  have ef3 := fA hz f3_3 (by dsimp only; omega)
  have ef4 := fA hz f3_4 (by dsimp only; omega)
  have ef5 := fA hz f3_5 (by dsimp only; omega)
  have ef6 := fA hz f3_6 (by dsimp only; omega)
  have ef7 := fA hz f3_7 (by dsimp only; omega)
  have ef8 := fA hz f3_8 (by dsimp only; omega)
  have ef9 := fA hz f3_9 (by dsimp only; omega)
  have ef10 := fA hz f3_10 (by dsimp only; omega)
  have ef11 := fA hz f3_11 (by dsimp only; omega)
  have ef12 := fA hz f3_12 (by dsimp only; omega)
  have HOz := Lib.hid (ownsRow_keeps HO3.out (fun b hb => hkz.2 b True.intro (World.ownsRow.lt HO3.out b hb).2))
  have HRz := Lib.hid (HR3.out.keeps (hkz.mono (fun _ _ => True.intro)))
  have hgz7 := (World.ownsRow.lt HOz.out g7 rfl).2
  have hlz0 : w.heap.size < z.heap.size := by omega
  clear hz
  go_wp2_with ((at_builtin; go_loud (refine wpList_append_lies _ rfl _ _ 94 rfl 0 96 i0 _ 5 80 Tryz.underlying94 hi iz0 iz1 iz2 rfl (by decide) (.slice (some ⟨g7, 0, none⟩) 1 cap7) 1 [.int .i64 4, .int .u64 0, .slice none 0 0, .string { data := #[97] }, .slice none 0 0] rfl (World.ownsRow.alloc HOz.out _) ⟨z.heap.size, 0, none⟩ 1 1 [.int .i64 1, .int .u64 1, .slice none 0 0, .string { data := #[] }, .slice none 0 0] rfl rfl ?c1 ?c2 (by decide) ?c3 ?c4 ?c5 _ rfl ?_; (case c1 => exact World.news_of_block (cs := #[.int .i64 1, .int .u64 1, .slice none 0 0, .string { data := #[] }, .slice none 0 0]) (heap_alloc_last z _)); (case c2 => first | exact it1_one | exact it2_one); (case c3 => (unfold maxLen; omega)); (case c4 => omega); (case c5 => exact Nat.zero_le _); intro g8 cap8 w8 hown8 hgrow8 hat8 hlt8; have hz8 := hgrow8.size; have hl8 : w.heap.size < w8.heap.size := (by simp at hz8; omega); have hne8 : (Value.slice (some ⟨g7, 0, none⟩) 1 cap7).ownBlock ≠ some w.heap.size := (fun e => by have : g7 = w.heap.size := Option.some.inj e; omega); have k8_0 : w8.cell? ⟨w.heap.size, 0, none⟩ = some (.int .i64 6) := (row_cell hgrow8 (b := w.heap.size) (i := 0) (by simp; omega) hne8).trans (Lib.cell?_alloc_some _ e0); have k8_1 : w8.cell? ⟨w.heap.size, 1, none⟩ = some (.int .u64 0) := (row_cell hgrow8 (b := w.heap.size) (i := 1) (by simp; omega) hne8).trans (Lib.cell?_alloc_some _ e1); have k8_2 : w8.cell? ⟨w.heap.size, 2, none⟩ = some (.slice none 0 0) := (row_cell hgrow8 (b := w.heap.size) (i := 2) (by simp; omega) hne8).trans (Lib.cell?_alloc_some _ e2); have k8_3 : w8.cell? ⟨w.heap.size, 3, none⟩ = some (.string { data := #[] }) := (row_cell hgrow8 (b := w.heap.size) (i := 3) (by simp; omega) hne8).trans (Lib.cell?_alloc_some _ e3); have k8_4 : w8.cell? ⟨w.heap.size, 4, none⟩ = some (.slice (some ⟨g7, 0, none⟩) 1 cap7) := (row_cell hgrow8 (b := w.heap.size) (i := 4) (by simp; omega) hne8).trans (Lib.cell?_alloc_some _ e4); have kf8_0 := rF hgrow8 w.heap.size 0 hne8; have kf8_1 := rF hgrow8 w.heap.size 1 hne8; have kf8_2 := rF hgrow8 w.heap.size 2 hne8; have kf8_3 := rF hgrow8 w.heap.size 3 hne8; have kf8_4 := rF hgrow8 w.heap.size 4 hne8)))
  have hg8 : w.heap.size + 1 + 1 < g8 := by
    rcases hat8 with h | h
    · have : g7 = g8 := Option.some.inj h
      omega
    · simp at h
      omega
  have hgw8 : w.grownBy w8 (some g) := grown_row (grown_alloc hgz _) hgrow8 (fun k hk => by have : g7 = k := Option.some.inj hk; omega)
  have hkz8 : Keeps (fun b => b ≠ g7) z w8 := (keeps_alloc (Keeps.refl _ _) _).trans (keeps_grown hgrow8 (fun b hb _ e => hb (Option.some.inj e).symm))
  have HR8 : Hid (RdC w8 g g2 c 4) := Lib.hid (HRz.out.keeps (hkz8.mono (fun b hb => by rcases hb with rfl | rfl <;> omega)))
  have HIT := Lib.hid (itM_own hown8)
  have m0 := cK hkz8 e0 (by omega) (by omega)
  have mf0 := fK hkz8 ef0 (by omega) (by omega)
  have m1 := cK hkz8 e1 (by omega) (by omega)
  have mf1 := fK hkz8 ef1 (by omega) (by omega)
  have m2 := cK hkz8 e2 (by omega) (by omega)
  have mf2 := fK hkz8 ef2 (by omega) (by omega)
  have m3 := cK hkz8 e3 (by omega) (by omega)
  have mf3 := fK hkz8 ef3 (by omega) (by omega)
  have m4 := cK hkz8 e4 (by omega) (by omega)
  have mf4 := fK hkz8 ef4 (by omega) (by omega)
  have m5 := cK hkz8 e5 (by omega) (by omega)
  have mf5 := fK hkz8 ef5 (by omega) (by omega)
  have m6 := cK hkz8 e6 (by omega) (by omega)
  have mf6 := fK hkz8 ef6 (by omega) (by omega)
  have m7 := cK hkz8 e7 (by omega) (by omega)
  have mf7 := fK hkz8 ef7 (by omega) (by omega)
  have m8 := cK hkz8 e8 (by omega) (by omega)
  have mf8 := fK hkz8 ef8 (by omega) (by omega)
  have m9 := cK hkz8 e9 (by omega) (by omega)
  have mf9 := fK hkz8 ef9 (by omega) (by omega)
  have m10 := cK hkz8 e10 (by omega) (by omega)
  have mf10 := fK hkz8 ef10 (by omega) (by omega)
  have m11 := cK hkz8 e11 (by omega) (by omega)
  have mf11 := fK hkz8 ef11 (by omega) (by omega)
  have m12 := cK hkz8 e12 (by omega) (by omega)
  have mf12 := fK hkz8 ef12 (by omega) (by omega)
  have hl80 : w.heap.size + 1 + 1 < w8.heap.size := by have := hkz8.1; omega
  have hl81 : w.heap.size + 1 < w8.heap.size := by omega
  clear hown8 hgrow8 hat8 hlt8 k8_0 kf8_0 k8_1 kf8_1 k8_2 kf8_2 k8_3 kf8_3 k8_4 kf8_4
  rw [rounds_succ]
  go_wp2_with fail
  rw [rounds_succ]
  go_wp2_with fail
  refine bodyPost_ret (v := .tuple #[.agg #[.int .i64 6, .int .u64 0, .slice none 0 0, .string { data := #[] }, .slice (some ⟨g8, 0, none⟩) 2 cap8], .agg #[.int .i64 0, .int .i64 0, .slice none 0 0]]) (by simp (maxDischargeDepth := 4) [results, Tryz.results135, go_sem, m0, mf0, m1, mf1, m2, mf2, m3, mf3, m4, mf4, m5, mf5, m6, mf6, m7, mf7, m8, mf8, m9, mf9, m10, mf10, m11, mf11, m12, mf12]) rfl ?_
  refine ⟨⟨g8, cap8, rfl, HIT.out.keeps (Q := fun b => b ≠ w.heap.size ∧ b ≠ w.heap.size + 1 ∧ b ≠ w.heap.size + 1 + 1) ?_ ⟨by omega, by omega, by omega⟩, by omega⟩, HR8.out.keeps ?_, ?_⟩
  · repeat' (first | (with_reducible exact Keeps.refl _ _) | (with_reducible refine keeps_set ?_ (by dsimp only; omega) _) | (with_reducible refine keeps_alloc ?_ _))
  · repeat' (first | (with_reducible exact Keeps.refl _ _) | (with_reducible refine keeps_set ?_ (by dsimp only; omega) _) | (with_reducible refine keeps_alloc ?_ _))
  · repeat' (first | (with_reducible assumption) | (with_reducible refine grown_set_none ?_ (by dsimp only; omega) _))
end
section
open Go.RowKit
theorem cread_M (g g2 c : Nat) (w : World) (h : RdC w g g2 c 0) : Calls Tryz.prog 79 #[.pointer (some ⟨g, 0, none⟩), .int .i64 603] w fun e w' => (∃ q cap, e = .returned (.tuple #[.agg #[.int .i64 6, .int .u64 0, .slice none 0 0, .string { data := #[] }, .slice (some ⟨q, 0, none⟩) 2 cap], .agg #[.int .i64 0, .int .i64 0, .slice none 0 0]]) ∧ ItM w' q ∧ w.heap.size ≤ q) ∧ RdC w' g g2 c 4 ∧ w.grownBy w' (some g) := by
  have HA := Lib.hid (fun w (h : RdC w g g2 c 0) => at_0 g g2 c w h)
  have HB := Lib.hid (fun w (h : RdC w g g2 c 0) => rbyte_0 g g2 c w h)
  have HN := Lib.hid cnum_1
  have HK := Lib.hid (fun w (h : RdC w g g2 c 1) => kids_M g g2 c w h)
  have HR := Lib.hid h
  have hg := h.rd.lt
  have hn := h.ne
  clear h
  go_enter Tryz.func79, Tryz.ntmps79
  go_wp2_with fail
  with_reducible refine (HA.out _ ?q1).mono ?_
  case q1 => exact HR.out.beyond bel
  rintro e w' ⟨rfl, rfl⟩
  go_wp2_with fail
  with_reducible refine (HB.out _ ?q2).mono ?_
  case q2 => exact HR.out.beyond bel
  rintro e w2 ⟨rfl, hR2, hg2⟩
  obtain ⟨c2_0, f2_0⟩ := cfG hg2 w.heap.size 0 (.int .i64 0)
  obtain ⟨c2_1, f2_1⟩ := cfG hg2 w.heap.size 1 (.int .u64 0)
  obtain ⟨c2_2, f2_2⟩ := cfG hg2 w.heap.size 2 (.slice none 0 0)
  obtain ⟨c2_3, f2_3⟩ := cfG hg2 w.heap.size 3 (.string { data := #[] })
  obtain ⟨c2_4, f2_4⟩ := cfG hg2 w.heap.size 4 (.slice none 0 0)
  obtain ⟨c2_5, f2_5⟩ := cfG hg2 (w.heap.size + 1) 0 (.int .i64 0)
  obtain ⟨c2_6, f2_6⟩ := cfG hg2 (w.heap.size + 1) 1 (.int .i64 0)
  obtain ⟨c2_7, f2_7⟩ := cfG hg2 (w.heap.size + 1) 2 (.slice none 0 0)
  have hgw : w.grownBy w2 (some g) := grown_trans (grown_below bel _) hg2
  have hz2 := hg2.size
  have hl20 : w.heap.size + 1 < w2.heap.size := by first | omega | (simp at hz2; omega)
  have hl21 : w.heap.size < w2.heap.size := by omega
  have HR2 := Lib.hid hR2
  clear hg2 hR2
  go_wp2_with fail
  with_reducible refine (HN.out _ _).mono ?_
  rintro e w' ⟨rfl, rfl⟩
  go_upto_region 19 with fail
  go_quiet (fail)
  all_goals
    go_wp2_with fail
    with_reducible refine (HK.out _ ?q3).mono ?_
    case q3 => exact HR2.out.keeps (keeps_drewN (Keeps.refl _ _) _)
    rintro e w3 ⟨⟨q, cap, rfl, hI, hq⟩, hR3, hg3⟩
    have c3_0 := hC hg3 c2_0
    have f3_0 := hF hg3 f2_0
    have c3_1 := hC hg3 c2_1
    have f3_1 := hF hg3 f2_1
    have c3_2 := hC hg3 c2_2
    have f3_2 := hF hg3 f2_2
    have c3_3 := hC hg3 c2_3
    have f3_3 := hF hg3 f2_3
    have c3_4 := hC hg3 c2_4
    have f3_4 := hF hg3 f2_4
    have c3_5 := hC hg3 c2_5
    have f3_5 := hF hg3 f2_5
    have c3_6 := hC hg3 c2_6
    have f3_6 := hF hg3 f2_6
    have c3_7 := hC hg3 c2_7
    have f3_7 := hF hg3 f2_7
    have hgw3 : w.grownBy w3 (some g) := grown_trans (grown_drewM hgw _) hg3
    have hz3 := hg3.size
    have hq1 : w.heap.size + 1 < q := by first | omega | (simp at hq; omega)
    have hl30 : w.heap.size + 1 < w3.heap.size := by first | omega | (simp at hz3; omega)
    have hl31 : w.heap.size < w3.heap.size := by omega
    have HR3 := Lib.hid hR3
    have HI3 := Lib.hid hI
    clear hg3 hR3 hI hq
    go_wp2_with fail
    refine bodyPost_ret (v := .tuple #[.agg #[.int .i64 6, .int .u64 0, .slice none 0 0, .string { data := #[] }, .slice (some ⟨q, 0, none⟩) 2 cap], .agg #[.int .i64 0, .int .i64 0, .slice none 0 0]]) (by simp (maxDischargeDepth := 4) [results, Tryz.results79, go_sem, c3_0, f3_0, c3_1, f3_1, c3_2, f3_2, c3_3, f3_3, c3_4, f3_4, c3_5, f3_5, c3_6, f3_6, c3_7, f3_7]) rfl ?_
    refine ⟨⟨_, _, rfl, HI3.out.keeps (Q := fun b => w.heap.size + 1 < b) ?_ hq1, by omega⟩, HR3.out.keeps ?_, ?_⟩
    · repeat' (first | (with_reducible exact Keeps.refl _ _) | (with_reducible refine keeps_drew ?_) | (with_reducible refine keeps_drewN ?_ _) | (with_reducible refine keeps_set ?_ (by dsimp only; omega) _) | (with_reducible refine keeps_alloc ?_ _))
    · repeat' (first | (with_reducible exact Keeps.refl _ _) | (with_reducible refine keeps_drew ?_) | (with_reducible refine keeps_drewN ?_ _) | (with_reducible refine keeps_set ?_ (by dsimp only; omega) _) | (with_reducible refine keeps_alloc ?_ _))
    · repeat' (first | (with_reducible assumption) | (with_reducible refine grown_set_none ?_ (by dsimp only; omega) _) | (with_reducible refine grown_drew ?_) | (with_reducible refine grown_drewM ?_ _) | (with_reducible refine grown_alloc ?_ _))
theorem decode_c (b c : Nat) (w : World) (h : Bs w b 0 cborL) : Calls Tryz.prog 44 #[.slice (some ⟨b, 0, none⟩) 4 c, .int .i64 603] w fun e w' => (∃ q cap, e = .returned (.tuple #[.agg #[.int .i64 6, .int .u64 0, .slice none 0 0, .string { data := #[] }, .slice (some ⟨q, 0, none⟩) 2 cap], .agg #[.int .i64 0, .int .i64 0, .slice none 0 0]]) ∧ ItM w' q ∧ w.heap.size ≤ q) ∧ Below w.heap.size w w' := by
  have HN := Lib.hid (fun w (h : Bs w b 0 cborL) => new_any b 0 4 c cborL rfl (by decide) w h)
  have HD := Lib.hid (fun g g2 c w (h : RdC w g g2 c 0) => cread_M g g2 c w h)
  have HL : Hid (∀ g g2 c w, Rdr w g g2 4 c 4 → Calls Tryz.prog 80 #[.pointer (some ⟨g, 0, none⟩)] w fun e w' => e = .returned (.int .i64 0) ∧ Below w.heap.size w w') := Lib.hid (fun g g2 c w h => left_any g g2 4 c 4 (by decide) (by decide) w h)
  have HB := Lib.hid h
  clear h
  go_enter Tryz.func44, Tryz.ntmps44
  go_wp2_with fail
  with_reducible refine (HN.out _ ?q1).mono ?_
  case q1 => exact HB.out.beyond bel
  rintro e w1 ⟨⟨g, g2, c2, rfl, hc2, hne, hge, hblk, hbs⟩, hb1⟩
  have hw1 := bwB hb1 w.heap.size w
  obtain ⟨c1_0, f1_0⟩ := cf hb1 w.heap.size 0 (.int .i64 0)
  obtain ⟨c1_1, f1_1⟩ := cf hb1 w.heap.size 1 (.int .u64 0)
  obtain ⟨c1_2, f1_2⟩ := cf hb1 w.heap.size 2 (.slice none 0 0)
  obtain ⟨c1_3, f1_3⟩ := cf hb1 w.heap.size 3 (.string { data := #[] })
  obtain ⟨c1_4, f1_4⟩ := cf hb1 w.heap.size 4 (.slice none 0 0)
  obtain ⟨c1_5, f1_5⟩ := cf hb1 (w.heap.size + 1) 0 (.int .i64 0)
  obtain ⟨c1_6, f1_6⟩ := cf hb1 (w.heap.size + 1) 1 (.int .i64 0)
  obtain ⟨c1_7, f1_7⟩ := cf hb1 (w.heap.size + 1) 2 (.slice none 0 0)
  have hl10 : w.heap.size + 1 < w1.heap.size := by have := hb1.size; simp at this; omega
  have hl11 : w.heap.size < w1.heap.size := by omega
  have HR1 : Hid (RdC w1 g g2 c2 0) := Lib.hid ⟨hblk, hbs, hne, hc2⟩
  have hz1 := hb1.size
  have hge1 : w.heap.size + 1 < g := by first | omega | (simp at hge; omega)
  have hg1 := HR1.out.rd.lt
  clear hblk hbs hb1 hge
  go_wp2_with fail
  with_reducible refine (HD.out g g2 c2 _ ?q2).mono ?_
  case q2 => exact HR1.out.beyond bel
  rintro e w2 ⟨⟨q, cap, rfl, hI, hq⟩, hR2, hg2⟩
  have hgw2 : w1.grownBy w2 (some g) := grown_trans (grown_below bel _) hg2
  have c2_0 := hC hgw2 c1_0
  have f2_0 := hF hgw2 f1_0
  have c2_1 := hC hgw2 c1_1
  have f2_1 := hF hgw2 f1_1
  have c2_2 := hC hgw2 c1_2
  have f2_2 := hF hgw2 f1_2
  have c2_3 := hC hgw2 c1_3
  have f2_3 := hF hgw2 f1_3
  have c2_4 := hC hgw2 c1_4
  have f2_4 := hF hgw2 f1_4
  have c2_5 := hC hgw2 c1_5
  have f2_5 := hF hgw2 f1_5
  have c2_6 := hC hgw2 c1_6
  have f2_6 := hF hgw2 f1_6
  have c2_7 := hC hgw2 c1_7
  have f2_7 := hF hgw2 f1_7
  have hz2 := hgw2.size
  have hb2 : Below w.heap.size w w2 := hw1.grown hgw2 hw1.size (fun k hk => by have : g = k := Option.some.inj hk; omega)
  have HR2 := Lib.hid hR2
  have HI2 := Lib.hid hI
  have hq1 : w.heap.size + 1 < q := by first | omega | (simp at hq; omega)
  have hl20 : w.heap.size + 1 < w2.heap.size := by omega
  have hl21 : w.heap.size < w2.heap.size := by omega
  clear hR2 hI hg2 hq
  go_wp2_with fail
  with_reducible refine (HL.out g g2 c2 _ ?q3).mono ?_
  case q3 => exact HR2.out.rd.beyond bel
  rintro e w3 ⟨rfl, hb3⟩
  have c3_0 : w3.cell? ⟨w.heap.size, 0, none⟩ = some (.int .i64 0) := (hb3.cell (p := ⟨w.heap.size, 0, none⟩) (by simp; omega)).trans (Lib.cell?_alloc_some _ (Lib.cell?_alloc_some _ c2_0))
  have f3_0 : w3.frozen? ⟨w.heap.size, 0, none⟩ = false := (hb3.frozen (p := ⟨w.heap.size, 0, none⟩) (by simp; omega)).trans ((Below.refl w2.heap.size w2 |>.alloc (Nat.le_refl _) _ |>.alloc (by simp) _).frozen (p := ⟨w.heap.size, 0, none⟩) (by dsimp only; omega) |>.trans f2_0)
  have c3_1 : w3.cell? ⟨w.heap.size, 1, none⟩ = some (.int .u64 0) := (hb3.cell (p := ⟨w.heap.size, 1, none⟩) (by simp; omega)).trans (Lib.cell?_alloc_some _ (Lib.cell?_alloc_some _ c2_1))
  have f3_1 : w3.frozen? ⟨w.heap.size, 1, none⟩ = false := (hb3.frozen (p := ⟨w.heap.size, 1, none⟩) (by simp; omega)).trans ((Below.refl w2.heap.size w2 |>.alloc (Nat.le_refl _) _ |>.alloc (by simp) _).frozen (p := ⟨w.heap.size, 1, none⟩) (by dsimp only; omega) |>.trans f2_1)
  have c3_2 : w3.cell? ⟨w.heap.size, 2, none⟩ = some (.slice none 0 0) := (hb3.cell (p := ⟨w.heap.size, 2, none⟩) (by simp; omega)).trans (Lib.cell?_alloc_some _ (Lib.cell?_alloc_some _ c2_2))
  have f3_2 : w3.frozen? ⟨w.heap.size, 2, none⟩ = false := (hb3.frozen (p := ⟨w.heap.size, 2, none⟩) (by simp; omega)).trans ((Below.refl w2.heap.size w2 |>.alloc (Nat.le_refl _) _ |>.alloc (by simp) _).frozen (p := ⟨w.heap.size, 2, none⟩) (by dsimp only; omega) |>.trans f2_2)
  have c3_3 : w3.cell? ⟨w.heap.size, 3, none⟩ = some (.string { data := #[] }) := (hb3.cell (p := ⟨w.heap.size, 3, none⟩) (by simp; omega)).trans (Lib.cell?_alloc_some _ (Lib.cell?_alloc_some _ c2_3))
  have f3_3 : w3.frozen? ⟨w.heap.size, 3, none⟩ = false := (hb3.frozen (p := ⟨w.heap.size, 3, none⟩) (by simp; omega)).trans ((Below.refl w2.heap.size w2 |>.alloc (Nat.le_refl _) _ |>.alloc (by simp) _).frozen (p := ⟨w.heap.size, 3, none⟩) (by dsimp only; omega) |>.trans f2_3)
  have c3_4 : w3.cell? ⟨w.heap.size, 4, none⟩ = some (.slice none 0 0) := (hb3.cell (p := ⟨w.heap.size, 4, none⟩) (by simp; omega)).trans (Lib.cell?_alloc_some _ (Lib.cell?_alloc_some _ c2_4))
  have f3_4 : w3.frozen? ⟨w.heap.size, 4, none⟩ = false := (hb3.frozen (p := ⟨w.heap.size, 4, none⟩) (by simp; omega)).trans ((Below.refl w2.heap.size w2 |>.alloc (Nat.le_refl _) _ |>.alloc (by simp) _).frozen (p := ⟨w.heap.size, 4, none⟩) (by dsimp only; omega) |>.trans f2_4)
  have c3_5 : w3.cell? ⟨w.heap.size + 1, 0, none⟩ = some (.int .i64 0) := (hb3.cell (p := ⟨w.heap.size + 1, 0, none⟩) (by simp; omega)).trans (Lib.cell?_alloc_some _ (Lib.cell?_alloc_some _ c2_5))
  have f3_5 : w3.frozen? ⟨w.heap.size + 1, 0, none⟩ = false := (hb3.frozen (p := ⟨w.heap.size + 1, 0, none⟩) (by simp; omega)).trans ((Below.refl w2.heap.size w2 |>.alloc (Nat.le_refl _) _ |>.alloc (by simp) _).frozen (p := ⟨w.heap.size + 1, 0, none⟩) (by dsimp only; omega) |>.trans f2_5)
  have c3_6 : w3.cell? ⟨w.heap.size + 1, 1, none⟩ = some (.int .i64 0) := (hb3.cell (p := ⟨w.heap.size + 1, 1, none⟩) (by simp; omega)).trans (Lib.cell?_alloc_some _ (Lib.cell?_alloc_some _ c2_6))
  have f3_6 : w3.frozen? ⟨w.heap.size + 1, 1, none⟩ = false := (hb3.frozen (p := ⟨w.heap.size + 1, 1, none⟩) (by simp; omega)).trans ((Below.refl w2.heap.size w2 |>.alloc (Nat.le_refl _) _ |>.alloc (by simp) _).frozen (p := ⟨w.heap.size + 1, 1, none⟩) (by dsimp only; omega) |>.trans f2_6)
  have c3_7 : w3.cell? ⟨w.heap.size + 1, 2, none⟩ = some (.slice none 0 0) := (hb3.cell (p := ⟨w.heap.size + 1, 2, none⟩) (by simp; omega)).trans (Lib.cell?_alloc_some _ (Lib.cell?_alloc_some _ c2_7))
  have f3_7 : w3.frozen? ⟨w.heap.size + 1, 2, none⟩ = false := (hb3.frozen (p := ⟨w.heap.size + 1, 2, none⟩) (by simp; omega)).trans ((Below.refl w2.heap.size w2 |>.alloc (Nat.le_refl _) _ |>.alloc (by simp) _).frozen (p := ⟨w.heap.size + 1, 2, none⟩) (by dsimp only; omega) |>.trans f2_7)
  have e3_0 := cB hb3 w2.heap.size 0 (.int .i64 6)
  have e3_1 := cB hb3 w2.heap.size 1 (.int .u64 0)
  have e3_2 := cB hb3 w2.heap.size 2 (.slice none 0 0)
  have e3_3 := cB hb3 w2.heap.size 3 (.string { data := #[] })
  have e3_4 := cB hb3 w2.heap.size 4 (.slice (some ⟨q, 0, none⟩) 2 cap)
  have hw3 := bwB hb3 w.heap.size w
  have HI3 := Lib.hid (HI2.out.beyond (Below.trans bel (hb3.mono (by first | (simp; done) | (simp; omega)))))
  have hz3 := hb3.size
  have hl30 : w.heap.size + 1 < w3.heap.size := by simp at hz3; omega
  have hl31 : w.heap.size < w3.heap.size := by omega
  have hl32 : w2.heap.size < w3.heap.size := by simp at hz3; omega
  clear hb3
  go_wp2_with fail
  refine bodyPost_ret (v := .tuple #[.agg #[.int .i64 6, .int .u64 0, .slice none 0 0, .string { data := #[] }, .slice (some ⟨q, 0, none⟩) 2 cap], .agg #[.int .i64 0, .int .i64 0, .slice none 0 0]]) (by simp (maxDischargeDepth := 4) [results, Tryz.results44, go_sem, c3_0, f3_0, c3_1, f3_1, c3_2, f3_2, c3_3, f3_3, c3_4, f3_4, c3_5, f3_5, c3_6, f3_6, c3_7, f3_7, e3_0, e3_1, e3_2, e3_3, e3_4]) rfl ?_
  refine ⟨⟨_, _, rfl, HI3.out.keeps (Q := fun b => w.heap.size + 1 < b) ?_ hq1, by omega⟩, bel⟩
  repeat' (first | (with_reducible exact Keeps.refl _ _) | (with_reducible refine keeps_drew ?_) | (with_reducible refine keeps_drewN ?_ _) | (with_reducible refine keeps_set ?_ (by dsimp only; omega) _) | (with_reducible refine keeps_alloc ?_ _))
end
end Go.Proofs.YtihnfhhopldllaaGreatDoor
