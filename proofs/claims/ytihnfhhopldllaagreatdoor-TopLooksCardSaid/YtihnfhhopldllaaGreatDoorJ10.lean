/- Parts of the proof of TopLooks: U21. No condition. -/
import Derived.Test.YtihnfhhopldllaaGreatDoorJ1
import Derived.Test.YtihnfhhopldllaaGreatDoorJ5
namespace Go.Proofs.YtihnfhhopldllaaGreatDoor
set_option linter.unusedSimpArgs false
set_option linter.unusedVariables false
set_option maxHeartbeats 6400000
set_option maxRecDepth 100000
section
open Go.RowKit
theorem hi_u8 : ∃ i0, Tryz.prog.info? 5 = some i0 ∧ i0.zero = some (.int .u8 0) ∧ i0.size = 1 ∧ i0.bytes = 1 := by
  have h : (Tryz.prog.info? 5).map (fun i => (i.zero, i.size, i.bytes)) = some (some (.int .u8 0), 1, 1) := by kernel_rfl
  obtain ⟨i0, h0, h1⟩ := Option.map_eq_some_iff.1 h
  injection h1 with h1 h2
  injection h2 with h2 h3
  exact ⟨i0, h0, h1, h2, h3⟩
theorem two_u8 {a b : Int} : ∀ u ∈ [Value.int .u8 a, .int .u8 b], u.oneCell' = true := fun u hu => by
  simp only [List.mem_cons, List.not_mem_nil, or_false] at hu
  rcases hu with rfl | rfl
  all_goals rfl
theorem conv_back {w : World} {base g n cap : Nat} {xs : List Value} (l : List UInt8) (ho : w.ownsRow base 5 1 (.slice (some ⟨g, 0, none⟩) n cap) n xs) (hx : xs = l.map (fun x => .int .u8 (x.toNat : Int)) := by rfl) : (convert 24 9 (.slice (some ⟨g, 0, none⟩) n cap)).run Tryz.prog w = .ok (.string (bs l)) w := by
  subst hx
  have hn : n = l.length := by have := ho.1; simp at this; omega
  subst hn
  refine run_convert_bytes_back w _ _ 5 ⟨g, 0, none⟩ cap l ty_bytes ty_u8 ty_str (fun j hj => ?_)
  exact World.ownsRow.cells ho (g := g) rfl j _ (by rw [List.getElem?_map, List.getElem?_eq_getElem hj]; rfl)
theorem hexa_0 (a : Addr) (n c : Nat) (w : World) (ha : a.block < w.heap.size) (hc : w.cell? a = some (.int .u8 0)) : Calls Tryz.prog 248 #[.slice (some a) 1 c] w fun e w' => e = .returned (.string { data := #[48, 48] }) ∧ Below w.heap.size w w' := by
  obtain ⟨i0, hi, iz0, iz1, iz2⟩ := hi_u8
  go_enter Tryz.func248, Tryz.ntmps248
  go_wp2_with (at_make; refine wpList_make_own _ rfl _ _ 24 rfl w.heap.size 5 i0 (.int .u8 0) 1 Tryz.underlying24 hi iz0 iz1 .i64 .i64 2 2 rfl rfl (by omega) (by rw [iz2]; omega) (by unfold maxLen; omega) (Nat.le_refl _) ?_; intro w1 hown1 hgrow1)
  have hw1 : Below w.heap.size w w1 := Below.grown (Below.refl _ _) hgrow1 (Nat.le_refl _) (fun k hk => by cases hk)
  have hc1 : w1.cell? a = some (.int .u8 0) := (hw1.cell ha).trans hc
  have hz1 := hw1.size
  clear hgrow1
  replace hown1 := Lib.hid hown1
  go_loopw [3, 12] (fun v x wr => (v = .slice (some ⟨w.heap.size, 0, none⟩) 0 2 ∧ x = .int .i64 0 ∧ w1 = wr) ∨ (∃ g cap, v = .slice (some ⟨g, 0, none⟩) 2 cap ∧ x = .int .i64 1 ∧ Hid (wr.ownsRow w.heap.size 5 1 (.slice (some ⟨g, 0, none⟩) 2 cap) 2 [.int .u8 48, .int .u8 48]) ∧ Below w.heap.size w wr)) (fun _ x _ => 1 - (intOf x).toNat)
  case atStart => exact .inl ⟨rfl, rfl, rfl⟩
  case round =>
    rcases hrel with ⟨rfl, rfl, rfl⟩ | ⟨g, cap, rfl, rfl, ho, hwr⟩
    · have hand : bits .and .u8 (0 : Int) 15 = 0 := by decide
      go_wp2_with fail
      go_region_law (refine step_append_lies _ rfl (.tmp 16) (.tmp 23) 24 rfl w.heap.size 5 i0 _ 1 1 Tryz.underlying24 hi iz0 iz1 iz2 rfl (by decide) (.slice (some ⟨w.heap.size, 0, none⟩) 0 2) 0 [] evl (hown1.out.alloc _) ⟨w1.heap.size, 0, none⟩ 2 2 [.int .u8 48, .int .u8 48] evl rfl ?c1 ?c2 (by decide) ?c3 ?c4 ?c5 _ rfl ?_; (case c1 => exact World.news_of_block (cs := #[.int .u8 48, .int .u8 48]) (heap_alloc_last w1 _)); (case c2 => exact two_u8); (case c3 => (unfold maxLen; omega)); (case c4 => omega); (case c5 => (simp; omega)); intro g6 cap6 w6 hown6 hgrow6 hat6 hlt6)
      all_goals
        have hw6 : Below w.heap.size w w6 := Below.grown bel hgrow6 (by simp; omega) (fun k hk => (hown1.out.lt k hk).1)
        replace hown6 := Lib.hid hown6
        clear hgrow6 hat6
        go_wp2_with fail
        go_roundw
        case rel => exact .inr ⟨g6, cap6, rfl, by go_num, hown6, hw6⟩
        case measure => simp [intOf]
    · have hcv := conv_back [48, 48] ho.out
      go_wp2_with fail
      go_ret
      exact ⟨rfl, hwr⟩
theorem hexa_1 (a : Addr) (n c : Nat) (w : World) (ha : a.block < w.heap.size) (hc : w.cell? a = some (.int .u8 1)) : Calls Tryz.prog 248 #[.slice (some a) 1 c] w fun e w' => e = .returned (.string { data := #[48, 49] }) ∧ Below w.heap.size w w' := by
  obtain ⟨i0, hi, iz0, iz1, iz2⟩ := hi_u8
  go_enter Tryz.func248, Tryz.ntmps248
  go_wp2_with (at_make; refine wpList_make_own _ rfl _ _ 24 rfl w.heap.size 5 i0 (.int .u8 0) 1 Tryz.underlying24 hi iz0 iz1 .i64 .i64 2 2 rfl rfl (by omega) (by rw [iz2]; omega) (by unfold maxLen; omega) (Nat.le_refl _) ?_; intro w1 hown1 hgrow1)
  have hw1 : Below w.heap.size w w1 := Below.grown (Below.refl _ _) hgrow1 (Nat.le_refl _) (fun k hk => by cases hk)
  have hc1 : w1.cell? a = some (.int .u8 1) := (hw1.cell ha).trans hc
  have hz1 := hw1.size
  clear hgrow1
  replace hown1 := Lib.hid hown1
  go_loopw [3, 12] (fun v x wr => (v = .slice (some ⟨w.heap.size, 0, none⟩) 0 2 ∧ x = .int .i64 0 ∧ w1 = wr) ∨ (∃ g cap, v = .slice (some ⟨g, 0, none⟩) 2 cap ∧ x = .int .i64 1 ∧ Hid (wr.ownsRow w.heap.size 5 1 (.slice (some ⟨g, 0, none⟩) 2 cap) 2 [.int .u8 48, .int .u8 49]) ∧ Below w.heap.size w wr)) (fun _ x _ => 1 - (intOf x).toNat)
  case atStart => exact .inl ⟨rfl, rfl, rfl⟩
  case round =>
    rcases hrel with ⟨rfl, rfl, rfl⟩ | ⟨g, cap, rfl, rfl, ho, hwr⟩
    · have hand : bits .and .u8 (1 : Int) 15 = 1 := by decide
      go_wp2_with fail
      go_region_law (refine step_append_lies _ rfl (.tmp 16) (.tmp 23) 24 rfl w.heap.size 5 i0 _ 1 1 Tryz.underlying24 hi iz0 iz1 iz2 rfl (by decide) (.slice (some ⟨w.heap.size, 0, none⟩) 0 2) 0 [] evl (hown1.out.alloc _) ⟨w1.heap.size, 0, none⟩ 2 2 [.int .u8 48, .int .u8 49] evl rfl ?c1 ?c2 (by decide) ?c3 ?c4 ?c5 _ rfl ?_; (case c1 => exact World.news_of_block (cs := #[.int .u8 48, .int .u8 49]) (heap_alloc_last w1 _)); (case c2 => exact two_u8); (case c3 => (unfold maxLen; omega)); (case c4 => omega); (case c5 => (simp; omega)); intro g6 cap6 w6 hown6 hgrow6 hat6 hlt6)
      all_goals
        have hw6 : Below w.heap.size w w6 := Below.grown bel hgrow6 (by simp; omega) (fun k hk => (hown1.out.lt k hk).1)
        replace hown6 := Lib.hid hown6
        clear hgrow6 hat6
        go_wp2_with fail
        go_roundw
        case rel => exact .inr ⟨g6, cap6, rfl, by go_num, hown6, hw6⟩
        case measure => simp [intOf]
    · have hcv := conv_back [48, 49] ho.out
      go_wp2_with fail
      go_ret
      exact ⟨rfl, hwr⟩
theorem hexa_2 (a : Addr) (n c : Nat) (w : World) (ha : a.block < w.heap.size) (hc : w.cell? a = some (.int .u8 2)) : Calls Tryz.prog 248 #[.slice (some a) 1 c] w fun e w' => e = .returned (.string { data := #[48, 50] }) ∧ Below w.heap.size w w' := by
  obtain ⟨i0, hi, iz0, iz1, iz2⟩ := hi_u8
  go_enter Tryz.func248, Tryz.ntmps248
  go_wp2_with (at_make; refine wpList_make_own _ rfl _ _ 24 rfl w.heap.size 5 i0 (.int .u8 0) 1 Tryz.underlying24 hi iz0 iz1 .i64 .i64 2 2 rfl rfl (by omega) (by rw [iz2]; omega) (by unfold maxLen; omega) (Nat.le_refl _) ?_; intro w1 hown1 hgrow1)
  have hw1 : Below w.heap.size w w1 := Below.grown (Below.refl _ _) hgrow1 (Nat.le_refl _) (fun k hk => by cases hk)
  have hc1 : w1.cell? a = some (.int .u8 2) := (hw1.cell ha).trans hc
  have hz1 := hw1.size
  clear hgrow1
  replace hown1 := Lib.hid hown1
  go_loopw [3, 12] (fun v x wr => (v = .slice (some ⟨w.heap.size, 0, none⟩) 0 2 ∧ x = .int .i64 0 ∧ w1 = wr) ∨ (∃ g cap, v = .slice (some ⟨g, 0, none⟩) 2 cap ∧ x = .int .i64 1 ∧ Hid (wr.ownsRow w.heap.size 5 1 (.slice (some ⟨g, 0, none⟩) 2 cap) 2 [.int .u8 48, .int .u8 50]) ∧ Below w.heap.size w wr)) (fun _ x _ => 1 - (intOf x).toNat)
  case atStart => exact .inl ⟨rfl, rfl, rfl⟩
  case round =>
    rcases hrel with ⟨rfl, rfl, rfl⟩ | ⟨g, cap, rfl, rfl, ho, hwr⟩
    · have hand : bits .and .u8 (2 : Int) 15 = 2 := by decide
      go_wp2_with fail
      go_region_law (refine step_append_lies _ rfl (.tmp 16) (.tmp 23) 24 rfl w.heap.size 5 i0 _ 1 1 Tryz.underlying24 hi iz0 iz1 iz2 rfl (by decide) (.slice (some ⟨w.heap.size, 0, none⟩) 0 2) 0 [] evl (hown1.out.alloc _) ⟨w1.heap.size, 0, none⟩ 2 2 [.int .u8 48, .int .u8 50] evl rfl ?c1 ?c2 (by decide) ?c3 ?c4 ?c5 _ rfl ?_; (case c1 => exact World.news_of_block (cs := #[.int .u8 48, .int .u8 50]) (heap_alloc_last w1 _)); (case c2 => exact two_u8); (case c3 => (unfold maxLen; omega)); (case c4 => omega); (case c5 => (simp; omega)); intro g6 cap6 w6 hown6 hgrow6 hat6 hlt6)
      all_goals
        have hw6 : Below w.heap.size w w6 := Below.grown bel hgrow6 (by simp; omega) (fun k hk => (hown1.out.lt k hk).1)
        replace hown6 := Lib.hid hown6
        clear hgrow6 hat6
        go_wp2_with fail
        go_roundw
        case rel => exact .inr ⟨g6, cap6, rfl, by go_num, hown6, hw6⟩
        case measure => simp [intOf]
    · have hcv := conv_back [48, 50] ho.out
      go_wp2_with fail
      go_ret
      exact ⟨rfl, hwr⟩
theorem hexa_3 (a : Addr) (n c : Nat) (w : World) (ha : a.block < w.heap.size) (hc : w.cell? a = some (.int .u8 3)) : Calls Tryz.prog 248 #[.slice (some a) 1 c] w fun e w' => e = .returned (.string { data := #[48, 51] }) ∧ Below w.heap.size w w' := by
  obtain ⟨i0, hi, iz0, iz1, iz2⟩ := hi_u8
  go_enter Tryz.func248, Tryz.ntmps248
  go_wp2_with (at_make; refine wpList_make_own _ rfl _ _ 24 rfl w.heap.size 5 i0 (.int .u8 0) 1 Tryz.underlying24 hi iz0 iz1 .i64 .i64 2 2 rfl rfl (by omega) (by rw [iz2]; omega) (by unfold maxLen; omega) (Nat.le_refl _) ?_; intro w1 hown1 hgrow1)
  have hw1 : Below w.heap.size w w1 := Below.grown (Below.refl _ _) hgrow1 (Nat.le_refl _) (fun k hk => by cases hk)
  have hc1 : w1.cell? a = some (.int .u8 3) := (hw1.cell ha).trans hc
  have hz1 := hw1.size
  clear hgrow1
  replace hown1 := Lib.hid hown1
  go_loopw [3, 12] (fun v x wr => (v = .slice (some ⟨w.heap.size, 0, none⟩) 0 2 ∧ x = .int .i64 0 ∧ w1 = wr) ∨ (∃ g cap, v = .slice (some ⟨g, 0, none⟩) 2 cap ∧ x = .int .i64 1 ∧ Hid (wr.ownsRow w.heap.size 5 1 (.slice (some ⟨g, 0, none⟩) 2 cap) 2 [.int .u8 48, .int .u8 51]) ∧ Below w.heap.size w wr)) (fun _ x _ => 1 - (intOf x).toNat)
  case atStart => exact .inl ⟨rfl, rfl, rfl⟩
  case round =>
    rcases hrel with ⟨rfl, rfl, rfl⟩ | ⟨g, cap, rfl, rfl, ho, hwr⟩
    · have hand : bits .and .u8 (3 : Int) 15 = 3 := by decide
      go_wp2_with fail
      go_region_law (refine step_append_lies _ rfl (.tmp 16) (.tmp 23) 24 rfl w.heap.size 5 i0 _ 1 1 Tryz.underlying24 hi iz0 iz1 iz2 rfl (by decide) (.slice (some ⟨w.heap.size, 0, none⟩) 0 2) 0 [] evl (hown1.out.alloc _) ⟨w1.heap.size, 0, none⟩ 2 2 [.int .u8 48, .int .u8 51] evl rfl ?c1 ?c2 (by decide) ?c3 ?c4 ?c5 _ rfl ?_; (case c1 => exact World.news_of_block (cs := #[.int .u8 48, .int .u8 51]) (heap_alloc_last w1 _)); (case c2 => exact two_u8); (case c3 => (unfold maxLen; omega)); (case c4 => omega); (case c5 => (simp; omega)); intro g6 cap6 w6 hown6 hgrow6 hat6 hlt6)
      all_goals
        have hw6 : Below w.heap.size w w6 := Below.grown bel hgrow6 (by simp; omega) (fun k hk => (hown1.out.lt k hk).1)
        replace hown6 := Lib.hid hown6
        clear hgrow6 hat6
        go_wp2_with fail
        go_roundw
        case rel => exact .inr ⟨g6, cap6, rfl, by go_num, hown6, hw6⟩
        case measure => simp [intOf]
    · have hcv := conv_back [48, 51] ho.out
      go_wp2_with fail
      go_ret
      exact ⟨rfl, hwr⟩
theorem hexa_4 (a : Addr) (n c : Nat) (w : World) (ha : a.block < w.heap.size) (hc : w.cell? a = some (.int .u8 4)) : Calls Tryz.prog 248 #[.slice (some a) 1 c] w fun e w' => e = .returned (.string { data := #[48, 52] }) ∧ Below w.heap.size w w' := by
  obtain ⟨i0, hi, iz0, iz1, iz2⟩ := hi_u8
  go_enter Tryz.func248, Tryz.ntmps248
  go_wp2_with (at_make; refine wpList_make_own _ rfl _ _ 24 rfl w.heap.size 5 i0 (.int .u8 0) 1 Tryz.underlying24 hi iz0 iz1 .i64 .i64 2 2 rfl rfl (by omega) (by rw [iz2]; omega) (by unfold maxLen; omega) (Nat.le_refl _) ?_; intro w1 hown1 hgrow1)
  have hw1 : Below w.heap.size w w1 := Below.grown (Below.refl _ _) hgrow1 (Nat.le_refl _) (fun k hk => by cases hk)
  have hc1 : w1.cell? a = some (.int .u8 4) := (hw1.cell ha).trans hc
  have hz1 := hw1.size
  clear hgrow1
  replace hown1 := Lib.hid hown1
  go_loopw [3, 12] (fun v x wr => (v = .slice (some ⟨w.heap.size, 0, none⟩) 0 2 ∧ x = .int .i64 0 ∧ w1 = wr) ∨ (∃ g cap, v = .slice (some ⟨g, 0, none⟩) 2 cap ∧ x = .int .i64 1 ∧ Hid (wr.ownsRow w.heap.size 5 1 (.slice (some ⟨g, 0, none⟩) 2 cap) 2 [.int .u8 48, .int .u8 52]) ∧ Below w.heap.size w wr)) (fun _ x _ => 1 - (intOf x).toNat)
  case atStart => exact .inl ⟨rfl, rfl, rfl⟩
  case round =>
    rcases hrel with ⟨rfl, rfl, rfl⟩ | ⟨g, cap, rfl, rfl, ho, hwr⟩
    · have hand : bits .and .u8 (4 : Int) 15 = 4 := by decide
      go_wp2_with fail
      go_region_law (refine step_append_lies _ rfl (.tmp 16) (.tmp 23) 24 rfl w.heap.size 5 i0 _ 1 1 Tryz.underlying24 hi iz0 iz1 iz2 rfl (by decide) (.slice (some ⟨w.heap.size, 0, none⟩) 0 2) 0 [] evl (hown1.out.alloc _) ⟨w1.heap.size, 0, none⟩ 2 2 [.int .u8 48, .int .u8 52] evl rfl ?c1 ?c2 (by decide) ?c3 ?c4 ?c5 _ rfl ?_; (case c1 => exact World.news_of_block (cs := #[.int .u8 48, .int .u8 52]) (heap_alloc_last w1 _)); (case c2 => exact two_u8); (case c3 => (unfold maxLen; omega)); (case c4 => omega); (case c5 => (simp; omega)); intro g6 cap6 w6 hown6 hgrow6 hat6 hlt6)
      all_goals
        have hw6 : Below w.heap.size w w6 := Below.grown bel hgrow6 (by simp; omega) (fun k hk => (hown1.out.lt k hk).1)
        replace hown6 := Lib.hid hown6
        clear hgrow6 hat6
        go_wp2_with fail
        go_roundw
        case rel => exact .inr ⟨g6, cap6, rfl, by go_num, hown6, hw6⟩
        case measure => simp [intOf]
    · have hcv := conv_back [48, 52] ho.out
      go_wp2_with fail
      go_ret
      exact ⟨rfl, hwr⟩
theorem hexa_5 (a : Addr) (n c : Nat) (w : World) (ha : a.block < w.heap.size) (hc : w.cell? a = some (.int .u8 5)) : Calls Tryz.prog 248 #[.slice (some a) 1 c] w fun e w' => e = .returned (.string { data := #[48, 53] }) ∧ Below w.heap.size w w' := by
  obtain ⟨i0, hi, iz0, iz1, iz2⟩ := hi_u8
  go_enter Tryz.func248, Tryz.ntmps248
  go_wp2_with (at_make; refine wpList_make_own _ rfl _ _ 24 rfl w.heap.size 5 i0 (.int .u8 0) 1 Tryz.underlying24 hi iz0 iz1 .i64 .i64 2 2 rfl rfl (by omega) (by rw [iz2]; omega) (by unfold maxLen; omega) (Nat.le_refl _) ?_; intro w1 hown1 hgrow1)
  have hw1 : Below w.heap.size w w1 := Below.grown (Below.refl _ _) hgrow1 (Nat.le_refl _) (fun k hk => by cases hk)
  have hc1 : w1.cell? a = some (.int .u8 5) := (hw1.cell ha).trans hc
  have hz1 := hw1.size
  clear hgrow1
  replace hown1 := Lib.hid hown1
  go_loopw [3, 12] (fun v x wr => (v = .slice (some ⟨w.heap.size, 0, none⟩) 0 2 ∧ x = .int .i64 0 ∧ w1 = wr) ∨ (∃ g cap, v = .slice (some ⟨g, 0, none⟩) 2 cap ∧ x = .int .i64 1 ∧ Hid (wr.ownsRow w.heap.size 5 1 (.slice (some ⟨g, 0, none⟩) 2 cap) 2 [.int .u8 48, .int .u8 53]) ∧ Below w.heap.size w wr)) (fun _ x _ => 1 - (intOf x).toNat)
  case atStart => exact .inl ⟨rfl, rfl, rfl⟩
  case round =>
    rcases hrel with ⟨rfl, rfl, rfl⟩ | ⟨g, cap, rfl, rfl, ho, hwr⟩
    · have hand : bits .and .u8 (5 : Int) 15 = 5 := by decide
      go_wp2_with fail
      go_region_law (refine step_append_lies _ rfl (.tmp 16) (.tmp 23) 24 rfl w.heap.size 5 i0 _ 1 1 Tryz.underlying24 hi iz0 iz1 iz2 rfl (by decide) (.slice (some ⟨w.heap.size, 0, none⟩) 0 2) 0 [] evl (hown1.out.alloc _) ⟨w1.heap.size, 0, none⟩ 2 2 [.int .u8 48, .int .u8 53] evl rfl ?c1 ?c2 (by decide) ?c3 ?c4 ?c5 _ rfl ?_; (case c1 => exact World.news_of_block (cs := #[.int .u8 48, .int .u8 53]) (heap_alloc_last w1 _)); (case c2 => exact two_u8); (case c3 => (unfold maxLen; omega)); (case c4 => omega); (case c5 => (simp; omega)); intro g6 cap6 w6 hown6 hgrow6 hat6 hlt6)
      all_goals
        have hw6 : Below w.heap.size w w6 := Below.grown bel hgrow6 (by simp; omega) (fun k hk => (hown1.out.lt k hk).1)
        replace hown6 := Lib.hid hown6
        clear hgrow6 hat6
        go_wp2_with fail
        go_roundw
        case rel => exact .inr ⟨g6, cap6, rfl, by go_num, hown6, hw6⟩
        case measure => simp [intOf]
    · have hcv := conv_back [48, 53] ho.out
      go_wp2_with fail
      go_ret
      exact ⟨rfl, hwr⟩
theorem hexa_6 (a : Addr) (n c : Nat) (w : World) (ha : a.block < w.heap.size) (hc : w.cell? a = some (.int .u8 6)) : Calls Tryz.prog 248 #[.slice (some a) 1 c] w fun e w' => e = .returned (.string { data := #[48, 54] }) ∧ Below w.heap.size w w' := by
  obtain ⟨i0, hi, iz0, iz1, iz2⟩ := hi_u8
  go_enter Tryz.func248, Tryz.ntmps248
  go_wp2_with (at_make; refine wpList_make_own _ rfl _ _ 24 rfl w.heap.size 5 i0 (.int .u8 0) 1 Tryz.underlying24 hi iz0 iz1 .i64 .i64 2 2 rfl rfl (by omega) (by rw [iz2]; omega) (by unfold maxLen; omega) (Nat.le_refl _) ?_; intro w1 hown1 hgrow1)
  have hw1 : Below w.heap.size w w1 := Below.grown (Below.refl _ _) hgrow1 (Nat.le_refl _) (fun k hk => by cases hk)
  have hc1 : w1.cell? a = some (.int .u8 6) := (hw1.cell ha).trans hc
  have hz1 := hw1.size
  clear hgrow1
  replace hown1 := Lib.hid hown1
  go_loopw [3, 12] (fun v x wr => (v = .slice (some ⟨w.heap.size, 0, none⟩) 0 2 ∧ x = .int .i64 0 ∧ w1 = wr) ∨ (∃ g cap, v = .slice (some ⟨g, 0, none⟩) 2 cap ∧ x = .int .i64 1 ∧ Hid (wr.ownsRow w.heap.size 5 1 (.slice (some ⟨g, 0, none⟩) 2 cap) 2 [.int .u8 48, .int .u8 54]) ∧ Below w.heap.size w wr)) (fun _ x _ => 1 - (intOf x).toNat)
  case atStart => exact .inl ⟨rfl, rfl, rfl⟩
  case round =>
    rcases hrel with ⟨rfl, rfl, rfl⟩ | ⟨g, cap, rfl, rfl, ho, hwr⟩
    · have hand : bits .and .u8 (6 : Int) 15 = 6 := by decide
      go_wp2_with fail
      go_region_law (refine step_append_lies _ rfl (.tmp 16) (.tmp 23) 24 rfl w.heap.size 5 i0 _ 1 1 Tryz.underlying24 hi iz0 iz1 iz2 rfl (by decide) (.slice (some ⟨w.heap.size, 0, none⟩) 0 2) 0 [] evl (hown1.out.alloc _) ⟨w1.heap.size, 0, none⟩ 2 2 [.int .u8 48, .int .u8 54] evl rfl ?c1 ?c2 (by decide) ?c3 ?c4 ?c5 _ rfl ?_; (case c1 => exact World.news_of_block (cs := #[.int .u8 48, .int .u8 54]) (heap_alloc_last w1 _)); (case c2 => exact two_u8); (case c3 => (unfold maxLen; omega)); (case c4 => omega); (case c5 => (simp; omega)); intro g6 cap6 w6 hown6 hgrow6 hat6 hlt6)
      all_goals
        have hw6 : Below w.heap.size w w6 := Below.grown bel hgrow6 (by simp; omega) (fun k hk => (hown1.out.lt k hk).1)
        replace hown6 := Lib.hid hown6
        clear hgrow6 hat6
        go_wp2_with fail
        go_roundw
        case rel => exact .inr ⟨g6, cap6, rfl, by go_num, hown6, hw6⟩
        case measure => simp [intOf]
    · have hcv := conv_back [48, 54] ho.out
      go_wp2_with fail
      go_ret
      exact ⟨rfl, hwr⟩
theorem hexa_7 (a : Addr) (n c : Nat) (w : World) (ha : a.block < w.heap.size) (hc : w.cell? a = some (.int .u8 7)) : Calls Tryz.prog 248 #[.slice (some a) 1 c] w fun e w' => e = .returned (.string { data := #[48, 55] }) ∧ Below w.heap.size w w' := by
  obtain ⟨i0, hi, iz0, iz1, iz2⟩ := hi_u8
  go_enter Tryz.func248, Tryz.ntmps248
  go_wp2_with (at_make; refine wpList_make_own _ rfl _ _ 24 rfl w.heap.size 5 i0 (.int .u8 0) 1 Tryz.underlying24 hi iz0 iz1 .i64 .i64 2 2 rfl rfl (by omega) (by rw [iz2]; omega) (by unfold maxLen; omega) (Nat.le_refl _) ?_; intro w1 hown1 hgrow1)
  have hw1 : Below w.heap.size w w1 := Below.grown (Below.refl _ _) hgrow1 (Nat.le_refl _) (fun k hk => by cases hk)
  have hc1 : w1.cell? a = some (.int .u8 7) := (hw1.cell ha).trans hc
  have hz1 := hw1.size
  clear hgrow1
  replace hown1 := Lib.hid hown1
  go_loopw [3, 12] (fun v x wr => (v = .slice (some ⟨w.heap.size, 0, none⟩) 0 2 ∧ x = .int .i64 0 ∧ w1 = wr) ∨ (∃ g cap, v = .slice (some ⟨g, 0, none⟩) 2 cap ∧ x = .int .i64 1 ∧ Hid (wr.ownsRow w.heap.size 5 1 (.slice (some ⟨g, 0, none⟩) 2 cap) 2 [.int .u8 48, .int .u8 55]) ∧ Below w.heap.size w wr)) (fun _ x _ => 1 - (intOf x).toNat)
  case atStart => exact .inl ⟨rfl, rfl, rfl⟩
  case round =>
    rcases hrel with ⟨rfl, rfl, rfl⟩ | ⟨g, cap, rfl, rfl, ho, hwr⟩
    · have hand : bits .and .u8 (7 : Int) 15 = 7 := by decide
      go_wp2_with fail
      go_region_law (refine step_append_lies _ rfl (.tmp 16) (.tmp 23) 24 rfl w.heap.size 5 i0 _ 1 1 Tryz.underlying24 hi iz0 iz1 iz2 rfl (by decide) (.slice (some ⟨w.heap.size, 0, none⟩) 0 2) 0 [] evl (hown1.out.alloc _) ⟨w1.heap.size, 0, none⟩ 2 2 [.int .u8 48, .int .u8 55] evl rfl ?c1 ?c2 (by decide) ?c3 ?c4 ?c5 _ rfl ?_; (case c1 => exact World.news_of_block (cs := #[.int .u8 48, .int .u8 55]) (heap_alloc_last w1 _)); (case c2 => exact two_u8); (case c3 => (unfold maxLen; omega)); (case c4 => omega); (case c5 => (simp; omega)); intro g6 cap6 w6 hown6 hgrow6 hat6 hlt6)
      all_goals
        have hw6 : Below w.heap.size w w6 := Below.grown bel hgrow6 (by simp; omega) (fun k hk => (hown1.out.lt k hk).1)
        replace hown6 := Lib.hid hown6
        clear hgrow6 hat6
        go_wp2_with fail
        go_roundw
        case rel => exact .inr ⟨g6, cap6, rfl, by go_num, hown6, hw6⟩
        case measure => simp [intOf]
    · have hcv := conv_back [48, 55] ho.out
      go_wp2_with fail
      go_ret
      exact ⟨rfl, hwr⟩
theorem hexa_8 (a : Addr) (n c : Nat) (w : World) (ha : a.block < w.heap.size) (hc : w.cell? a = some (.int .u8 8)) : Calls Tryz.prog 248 #[.slice (some a) 1 c] w fun e w' => e = .returned (.string { data := #[48, 56] }) ∧ Below w.heap.size w w' := by
  obtain ⟨i0, hi, iz0, iz1, iz2⟩ := hi_u8
  go_enter Tryz.func248, Tryz.ntmps248
  go_wp2_with (at_make; refine wpList_make_own _ rfl _ _ 24 rfl w.heap.size 5 i0 (.int .u8 0) 1 Tryz.underlying24 hi iz0 iz1 .i64 .i64 2 2 rfl rfl (by omega) (by rw [iz2]; omega) (by unfold maxLen; omega) (Nat.le_refl _) ?_; intro w1 hown1 hgrow1)
  have hw1 : Below w.heap.size w w1 := Below.grown (Below.refl _ _) hgrow1 (Nat.le_refl _) (fun k hk => by cases hk)
  have hc1 : w1.cell? a = some (.int .u8 8) := (hw1.cell ha).trans hc
  have hz1 := hw1.size
  clear hgrow1
  replace hown1 := Lib.hid hown1
  go_loopw [3, 12] (fun v x wr => (v = .slice (some ⟨w.heap.size, 0, none⟩) 0 2 ∧ x = .int .i64 0 ∧ w1 = wr) ∨ (∃ g cap, v = .slice (some ⟨g, 0, none⟩) 2 cap ∧ x = .int .i64 1 ∧ Hid (wr.ownsRow w.heap.size 5 1 (.slice (some ⟨g, 0, none⟩) 2 cap) 2 [.int .u8 48, .int .u8 56]) ∧ Below w.heap.size w wr)) (fun _ x _ => 1 - (intOf x).toNat)
  case atStart => exact .inl ⟨rfl, rfl, rfl⟩
  case round =>
    rcases hrel with ⟨rfl, rfl, rfl⟩ | ⟨g, cap, rfl, rfl, ho, hwr⟩
    · have hand : bits .and .u8 (8 : Int) 15 = 8 := by decide
      go_wp2_with fail
      go_region_law (refine step_append_lies _ rfl (.tmp 16) (.tmp 23) 24 rfl w.heap.size 5 i0 _ 1 1 Tryz.underlying24 hi iz0 iz1 iz2 rfl (by decide) (.slice (some ⟨w.heap.size, 0, none⟩) 0 2) 0 [] evl (hown1.out.alloc _) ⟨w1.heap.size, 0, none⟩ 2 2 [.int .u8 48, .int .u8 56] evl rfl ?c1 ?c2 (by decide) ?c3 ?c4 ?c5 _ rfl ?_; (case c1 => exact World.news_of_block (cs := #[.int .u8 48, .int .u8 56]) (heap_alloc_last w1 _)); (case c2 => exact two_u8); (case c3 => (unfold maxLen; omega)); (case c4 => omega); (case c5 => (simp; omega)); intro g6 cap6 w6 hown6 hgrow6 hat6 hlt6)
      all_goals
        have hw6 : Below w.heap.size w w6 := Below.grown bel hgrow6 (by simp; omega) (fun k hk => (hown1.out.lt k hk).1)
        replace hown6 := Lib.hid hown6
        clear hgrow6 hat6
        go_wp2_with fail
        go_roundw
        case rel => exact .inr ⟨g6, cap6, rfl, by go_num, hown6, hw6⟩
        case measure => simp [intOf]
    · have hcv := conv_back [48, 56] ho.out
      go_wp2_with fail
      go_ret
      exact ⟨rfl, hwr⟩
theorem hexa_9 (a : Addr) (n c : Nat) (w : World) (ha : a.block < w.heap.size) (hc : w.cell? a = some (.int .u8 9)) : Calls Tryz.prog 248 #[.slice (some a) 1 c] w fun e w' => e = .returned (.string { data := #[48, 57] }) ∧ Below w.heap.size w w' := by
  obtain ⟨i0, hi, iz0, iz1, iz2⟩ := hi_u8
  go_enter Tryz.func248, Tryz.ntmps248
  go_wp2_with (at_make; refine wpList_make_own _ rfl _ _ 24 rfl w.heap.size 5 i0 (.int .u8 0) 1 Tryz.underlying24 hi iz0 iz1 .i64 .i64 2 2 rfl rfl (by omega) (by rw [iz2]; omega) (by unfold maxLen; omega) (Nat.le_refl _) ?_; intro w1 hown1 hgrow1)
  have hw1 : Below w.heap.size w w1 := Below.grown (Below.refl _ _) hgrow1 (Nat.le_refl _) (fun k hk => by cases hk)
  have hc1 : w1.cell? a = some (.int .u8 9) := (hw1.cell ha).trans hc
  have hz1 := hw1.size
  clear hgrow1
  replace hown1 := Lib.hid hown1
  go_loopw [3, 12] (fun v x wr => (v = .slice (some ⟨w.heap.size, 0, none⟩) 0 2 ∧ x = .int .i64 0 ∧ w1 = wr) ∨ (∃ g cap, v = .slice (some ⟨g, 0, none⟩) 2 cap ∧ x = .int .i64 1 ∧ Hid (wr.ownsRow w.heap.size 5 1 (.slice (some ⟨g, 0, none⟩) 2 cap) 2 [.int .u8 48, .int .u8 57]) ∧ Below w.heap.size w wr)) (fun _ x _ => 1 - (intOf x).toNat)
  case atStart => exact .inl ⟨rfl, rfl, rfl⟩
  case round =>
    rcases hrel with ⟨rfl, rfl, rfl⟩ | ⟨g, cap, rfl, rfl, ho, hwr⟩
    · have hand : bits .and .u8 (9 : Int) 15 = 9 := by decide
      go_wp2_with fail
      go_region_law (refine step_append_lies _ rfl (.tmp 16) (.tmp 23) 24 rfl w.heap.size 5 i0 _ 1 1 Tryz.underlying24 hi iz0 iz1 iz2 rfl (by decide) (.slice (some ⟨w.heap.size, 0, none⟩) 0 2) 0 [] evl (hown1.out.alloc _) ⟨w1.heap.size, 0, none⟩ 2 2 [.int .u8 48, .int .u8 57] evl rfl ?c1 ?c2 (by decide) ?c3 ?c4 ?c5 _ rfl ?_; (case c1 => exact World.news_of_block (cs := #[.int .u8 48, .int .u8 57]) (heap_alloc_last w1 _)); (case c2 => exact two_u8); (case c3 => (unfold maxLen; omega)); (case c4 => omega); (case c5 => (simp; omega)); intro g6 cap6 w6 hown6 hgrow6 hat6 hlt6)
      all_goals
        have hw6 : Below w.heap.size w w6 := Below.grown bel hgrow6 (by simp; omega) (fun k hk => (hown1.out.lt k hk).1)
        replace hown6 := Lib.hid hown6
        clear hgrow6 hat6
        go_wp2_with fail
        go_roundw
        case rel => exact .inr ⟨g6, cap6, rfl, by go_num, hown6, hw6⟩
        case measure => simp [intOf]
    · have hcv := conv_back [48, 57] ho.out
      go_wp2_with fail
      go_ret
      exact ⟨rfl, hwr⟩
theorem hexa_10 (a : Addr) (n c : Nat) (w : World) (ha : a.block < w.heap.size) (hc : w.cell? a = some (.int .u8 10)) : Calls Tryz.prog 248 #[.slice (some a) 1 c] w fun e w' => e = .returned (.string { data := #[48, 97] }) ∧ Below w.heap.size w w' := by
  obtain ⟨i0, hi, iz0, iz1, iz2⟩ := hi_u8
  go_enter Tryz.func248, Tryz.ntmps248
  go_wp2_with (at_make; refine wpList_make_own _ rfl _ _ 24 rfl w.heap.size 5 i0 (.int .u8 0) 1 Tryz.underlying24 hi iz0 iz1 .i64 .i64 2 2 rfl rfl (by omega) (by rw [iz2]; omega) (by unfold maxLen; omega) (Nat.le_refl _) ?_; intro w1 hown1 hgrow1)
  have hw1 : Below w.heap.size w w1 := Below.grown (Below.refl _ _) hgrow1 (Nat.le_refl _) (fun k hk => by cases hk)
  have hc1 : w1.cell? a = some (.int .u8 10) := (hw1.cell ha).trans hc
  have hz1 := hw1.size
  clear hgrow1
  replace hown1 := Lib.hid hown1
  go_loopw [3, 12] (fun v x wr => (v = .slice (some ⟨w.heap.size, 0, none⟩) 0 2 ∧ x = .int .i64 0 ∧ w1 = wr) ∨ (∃ g cap, v = .slice (some ⟨g, 0, none⟩) 2 cap ∧ x = .int .i64 1 ∧ Hid (wr.ownsRow w.heap.size 5 1 (.slice (some ⟨g, 0, none⟩) 2 cap) 2 [.int .u8 48, .int .u8 97]) ∧ Below w.heap.size w wr)) (fun _ x _ => 1 - (intOf x).toNat)
  case atStart => exact .inl ⟨rfl, rfl, rfl⟩
  case round =>
    rcases hrel with ⟨rfl, rfl, rfl⟩ | ⟨g, cap, rfl, rfl, ho, hwr⟩
    · have hand : bits .and .u8 (10 : Int) 15 = 10 := by decide
      go_wp2_with fail
      go_region_law (refine step_append_lies _ rfl (.tmp 16) (.tmp 23) 24 rfl w.heap.size 5 i0 _ 1 1 Tryz.underlying24 hi iz0 iz1 iz2 rfl (by decide) (.slice (some ⟨w.heap.size, 0, none⟩) 0 2) 0 [] evl (hown1.out.alloc _) ⟨w1.heap.size, 0, none⟩ 2 2 [.int .u8 48, .int .u8 97] evl rfl ?c1 ?c2 (by decide) ?c3 ?c4 ?c5 _ rfl ?_; (case c1 => exact World.news_of_block (cs := #[.int .u8 48, .int .u8 97]) (heap_alloc_last w1 _)); (case c2 => exact two_u8); (case c3 => (unfold maxLen; omega)); (case c4 => omega); (case c5 => (simp; omega)); intro g6 cap6 w6 hown6 hgrow6 hat6 hlt6)
      all_goals
        have hw6 : Below w.heap.size w w6 := Below.grown bel hgrow6 (by simp; omega) (fun k hk => (hown1.out.lt k hk).1)
        replace hown6 := Lib.hid hown6
        clear hgrow6 hat6
        go_wp2_with fail
        go_roundw
        case rel => exact .inr ⟨g6, cap6, rfl, by go_num, hown6, hw6⟩
        case measure => simp [intOf]
    · have hcv := conv_back [48, 97] ho.out
      go_wp2_with fail
      go_ret
      exact ⟨rfl, hwr⟩
theorem hexa_11 (a : Addr) (n c : Nat) (w : World) (ha : a.block < w.heap.size) (hc : w.cell? a = some (.int .u8 11)) : Calls Tryz.prog 248 #[.slice (some a) 1 c] w fun e w' => e = .returned (.string { data := #[48, 98] }) ∧ Below w.heap.size w w' := by
  obtain ⟨i0, hi, iz0, iz1, iz2⟩ := hi_u8
  go_enter Tryz.func248, Tryz.ntmps248
  go_wp2_with (at_make; refine wpList_make_own _ rfl _ _ 24 rfl w.heap.size 5 i0 (.int .u8 0) 1 Tryz.underlying24 hi iz0 iz1 .i64 .i64 2 2 rfl rfl (by omega) (by rw [iz2]; omega) (by unfold maxLen; omega) (Nat.le_refl _) ?_; intro w1 hown1 hgrow1)
  have hw1 : Below w.heap.size w w1 := Below.grown (Below.refl _ _) hgrow1 (Nat.le_refl _) (fun k hk => by cases hk)
  have hc1 : w1.cell? a = some (.int .u8 11) := (hw1.cell ha).trans hc
  have hz1 := hw1.size
  clear hgrow1
  replace hown1 := Lib.hid hown1
  go_loopw [3, 12] (fun v x wr => (v = .slice (some ⟨w.heap.size, 0, none⟩) 0 2 ∧ x = .int .i64 0 ∧ w1 = wr) ∨ (∃ g cap, v = .slice (some ⟨g, 0, none⟩) 2 cap ∧ x = .int .i64 1 ∧ Hid (wr.ownsRow w.heap.size 5 1 (.slice (some ⟨g, 0, none⟩) 2 cap) 2 [.int .u8 48, .int .u8 98]) ∧ Below w.heap.size w wr)) (fun _ x _ => 1 - (intOf x).toNat)
  case atStart => exact .inl ⟨rfl, rfl, rfl⟩
  case round =>
    rcases hrel with ⟨rfl, rfl, rfl⟩ | ⟨g, cap, rfl, rfl, ho, hwr⟩
    · have hand : bits .and .u8 (11 : Int) 15 = 11 := by decide
      go_wp2_with fail
      go_region_law (refine step_append_lies _ rfl (.tmp 16) (.tmp 23) 24 rfl w.heap.size 5 i0 _ 1 1 Tryz.underlying24 hi iz0 iz1 iz2 rfl (by decide) (.slice (some ⟨w.heap.size, 0, none⟩) 0 2) 0 [] evl (hown1.out.alloc _) ⟨w1.heap.size, 0, none⟩ 2 2 [.int .u8 48, .int .u8 98] evl rfl ?c1 ?c2 (by decide) ?c3 ?c4 ?c5 _ rfl ?_; (case c1 => exact World.news_of_block (cs := #[.int .u8 48, .int .u8 98]) (heap_alloc_last w1 _)); (case c2 => exact two_u8); (case c3 => (unfold maxLen; omega)); (case c4 => omega); (case c5 => (simp; omega)); intro g6 cap6 w6 hown6 hgrow6 hat6 hlt6)
      all_goals
        have hw6 : Below w.heap.size w w6 := Below.grown bel hgrow6 (by simp; omega) (fun k hk => (hown1.out.lt k hk).1)
        replace hown6 := Lib.hid hown6
        clear hgrow6 hat6
        go_wp2_with fail
        go_roundw
        case rel => exact .inr ⟨g6, cap6, rfl, by go_num, hown6, hw6⟩
        case measure => simp [intOf]
    · have hcv := conv_back [48, 98] ho.out
      go_wp2_with fail
      go_ret
      exact ⟨rfl, hwr⟩
theorem hexa_12 (a : Addr) (n c : Nat) (w : World) (ha : a.block < w.heap.size) (hc : w.cell? a = some (.int .u8 12)) : Calls Tryz.prog 248 #[.slice (some a) 1 c] w fun e w' => e = .returned (.string { data := #[48, 99] }) ∧ Below w.heap.size w w' := by
  obtain ⟨i0, hi, iz0, iz1, iz2⟩ := hi_u8
  go_enter Tryz.func248, Tryz.ntmps248
  go_wp2_with (at_make; refine wpList_make_own _ rfl _ _ 24 rfl w.heap.size 5 i0 (.int .u8 0) 1 Tryz.underlying24 hi iz0 iz1 .i64 .i64 2 2 rfl rfl (by omega) (by rw [iz2]; omega) (by unfold maxLen; omega) (Nat.le_refl _) ?_; intro w1 hown1 hgrow1)
  have hw1 : Below w.heap.size w w1 := Below.grown (Below.refl _ _) hgrow1 (Nat.le_refl _) (fun k hk => by cases hk)
  have hc1 : w1.cell? a = some (.int .u8 12) := (hw1.cell ha).trans hc
  have hz1 := hw1.size
  clear hgrow1
  replace hown1 := Lib.hid hown1
  go_loopw [3, 12] (fun v x wr => (v = .slice (some ⟨w.heap.size, 0, none⟩) 0 2 ∧ x = .int .i64 0 ∧ w1 = wr) ∨ (∃ g cap, v = .slice (some ⟨g, 0, none⟩) 2 cap ∧ x = .int .i64 1 ∧ Hid (wr.ownsRow w.heap.size 5 1 (.slice (some ⟨g, 0, none⟩) 2 cap) 2 [.int .u8 48, .int .u8 99]) ∧ Below w.heap.size w wr)) (fun _ x _ => 1 - (intOf x).toNat)
  case atStart => exact .inl ⟨rfl, rfl, rfl⟩
  case round =>
    rcases hrel with ⟨rfl, rfl, rfl⟩ | ⟨g, cap, rfl, rfl, ho, hwr⟩
    · have hand : bits .and .u8 (12 : Int) 15 = 12 := by decide
      go_wp2_with fail
      go_region_law (refine step_append_lies _ rfl (.tmp 16) (.tmp 23) 24 rfl w.heap.size 5 i0 _ 1 1 Tryz.underlying24 hi iz0 iz1 iz2 rfl (by decide) (.slice (some ⟨w.heap.size, 0, none⟩) 0 2) 0 [] evl (hown1.out.alloc _) ⟨w1.heap.size, 0, none⟩ 2 2 [.int .u8 48, .int .u8 99] evl rfl ?c1 ?c2 (by decide) ?c3 ?c4 ?c5 _ rfl ?_; (case c1 => exact World.news_of_block (cs := #[.int .u8 48, .int .u8 99]) (heap_alloc_last w1 _)); (case c2 => exact two_u8); (case c3 => (unfold maxLen; omega)); (case c4 => omega); (case c5 => (simp; omega)); intro g6 cap6 w6 hown6 hgrow6 hat6 hlt6)
      all_goals
        have hw6 : Below w.heap.size w w6 := Below.grown bel hgrow6 (by simp; omega) (fun k hk => (hown1.out.lt k hk).1)
        replace hown6 := Lib.hid hown6
        clear hgrow6 hat6
        go_wp2_with fail
        go_roundw
        case rel => exact .inr ⟨g6, cap6, rfl, by go_num, hown6, hw6⟩
        case measure => simp [intOf]
    · have hcv := conv_back [48, 99] ho.out
      go_wp2_with fail
      go_ret
      exact ⟨rfl, hwr⟩
theorem hexa_13 (a : Addr) (n c : Nat) (w : World) (ha : a.block < w.heap.size) (hc : w.cell? a = some (.int .u8 13)) : Calls Tryz.prog 248 #[.slice (some a) 1 c] w fun e w' => e = .returned (.string { data := #[48, 100] }) ∧ Below w.heap.size w w' := by
  obtain ⟨i0, hi, iz0, iz1, iz2⟩ := hi_u8
  go_enter Tryz.func248, Tryz.ntmps248
  go_wp2_with (at_make; refine wpList_make_own _ rfl _ _ 24 rfl w.heap.size 5 i0 (.int .u8 0) 1 Tryz.underlying24 hi iz0 iz1 .i64 .i64 2 2 rfl rfl (by omega) (by rw [iz2]; omega) (by unfold maxLen; omega) (Nat.le_refl _) ?_; intro w1 hown1 hgrow1)
  have hw1 : Below w.heap.size w w1 := Below.grown (Below.refl _ _) hgrow1 (Nat.le_refl _) (fun k hk => by cases hk)
  have hc1 : w1.cell? a = some (.int .u8 13) := (hw1.cell ha).trans hc
  have hz1 := hw1.size
  clear hgrow1
  replace hown1 := Lib.hid hown1
  go_loopw [3, 12] (fun v x wr => (v = .slice (some ⟨w.heap.size, 0, none⟩) 0 2 ∧ x = .int .i64 0 ∧ w1 = wr) ∨ (∃ g cap, v = .slice (some ⟨g, 0, none⟩) 2 cap ∧ x = .int .i64 1 ∧ Hid (wr.ownsRow w.heap.size 5 1 (.slice (some ⟨g, 0, none⟩) 2 cap) 2 [.int .u8 48, .int .u8 100]) ∧ Below w.heap.size w wr)) (fun _ x _ => 1 - (intOf x).toNat)
  case atStart => exact .inl ⟨rfl, rfl, rfl⟩
  case round =>
    rcases hrel with ⟨rfl, rfl, rfl⟩ | ⟨g, cap, rfl, rfl, ho, hwr⟩
    · have hand : bits .and .u8 (13 : Int) 15 = 13 := by decide
      go_wp2_with fail
      go_region_law (refine step_append_lies _ rfl (.tmp 16) (.tmp 23) 24 rfl w.heap.size 5 i0 _ 1 1 Tryz.underlying24 hi iz0 iz1 iz2 rfl (by decide) (.slice (some ⟨w.heap.size, 0, none⟩) 0 2) 0 [] evl (hown1.out.alloc _) ⟨w1.heap.size, 0, none⟩ 2 2 [.int .u8 48, .int .u8 100] evl rfl ?c1 ?c2 (by decide) ?c3 ?c4 ?c5 _ rfl ?_; (case c1 => exact World.news_of_block (cs := #[.int .u8 48, .int .u8 100]) (heap_alloc_last w1 _)); (case c2 => exact two_u8); (case c3 => (unfold maxLen; omega)); (case c4 => omega); (case c5 => (simp; omega)); intro g6 cap6 w6 hown6 hgrow6 hat6 hlt6)
      all_goals
        have hw6 : Below w.heap.size w w6 := Below.grown bel hgrow6 (by simp; omega) (fun k hk => (hown1.out.lt k hk).1)
        replace hown6 := Lib.hid hown6
        clear hgrow6 hat6
        go_wp2_with fail
        go_roundw
        case rel => exact .inr ⟨g6, cap6, rfl, by go_num, hown6, hw6⟩
        case measure => simp [intOf]
    · have hcv := conv_back [48, 100] ho.out
      go_wp2_with fail
      go_ret
      exact ⟨rfl, hwr⟩
theorem hexa_14 (a : Addr) (n c : Nat) (w : World) (ha : a.block < w.heap.size) (hc : w.cell? a = some (.int .u8 14)) : Calls Tryz.prog 248 #[.slice (some a) 1 c] w fun e w' => e = .returned (.string { data := #[48, 101] }) ∧ Below w.heap.size w w' := by
  obtain ⟨i0, hi, iz0, iz1, iz2⟩ := hi_u8
  go_enter Tryz.func248, Tryz.ntmps248
  go_wp2_with (at_make; refine wpList_make_own _ rfl _ _ 24 rfl w.heap.size 5 i0 (.int .u8 0) 1 Tryz.underlying24 hi iz0 iz1 .i64 .i64 2 2 rfl rfl (by omega) (by rw [iz2]; omega) (by unfold maxLen; omega) (Nat.le_refl _) ?_; intro w1 hown1 hgrow1)
  have hw1 : Below w.heap.size w w1 := Below.grown (Below.refl _ _) hgrow1 (Nat.le_refl _) (fun k hk => by cases hk)
  have hc1 : w1.cell? a = some (.int .u8 14) := (hw1.cell ha).trans hc
  have hz1 := hw1.size
  clear hgrow1
  replace hown1 := Lib.hid hown1
  go_loopw [3, 12] (fun v x wr => (v = .slice (some ⟨w.heap.size, 0, none⟩) 0 2 ∧ x = .int .i64 0 ∧ w1 = wr) ∨ (∃ g cap, v = .slice (some ⟨g, 0, none⟩) 2 cap ∧ x = .int .i64 1 ∧ Hid (wr.ownsRow w.heap.size 5 1 (.slice (some ⟨g, 0, none⟩) 2 cap) 2 [.int .u8 48, .int .u8 101]) ∧ Below w.heap.size w wr)) (fun _ x _ => 1 - (intOf x).toNat)
  case atStart => exact .inl ⟨rfl, rfl, rfl⟩
  case round =>
    rcases hrel with ⟨rfl, rfl, rfl⟩ | ⟨g, cap, rfl, rfl, ho, hwr⟩
    · have hand : bits .and .u8 (14 : Int) 15 = 14 := by decide
      go_wp2_with fail
      go_region_law (refine step_append_lies _ rfl (.tmp 16) (.tmp 23) 24 rfl w.heap.size 5 i0 _ 1 1 Tryz.underlying24 hi iz0 iz1 iz2 rfl (by decide) (.slice (some ⟨w.heap.size, 0, none⟩) 0 2) 0 [] evl (hown1.out.alloc _) ⟨w1.heap.size, 0, none⟩ 2 2 [.int .u8 48, .int .u8 101] evl rfl ?c1 ?c2 (by decide) ?c3 ?c4 ?c5 _ rfl ?_; (case c1 => exact World.news_of_block (cs := #[.int .u8 48, .int .u8 101]) (heap_alloc_last w1 _)); (case c2 => exact two_u8); (case c3 => (unfold maxLen; omega)); (case c4 => omega); (case c5 => (simp; omega)); intro g6 cap6 w6 hown6 hgrow6 hat6 hlt6)
      all_goals
        have hw6 : Below w.heap.size w w6 := Below.grown bel hgrow6 (by simp; omega) (fun k hk => (hown1.out.lt k hk).1)
        replace hown6 := Lib.hid hown6
        clear hgrow6 hat6
        go_wp2_with fail
        go_roundw
        case rel => exact .inr ⟨g6, cap6, rfl, by go_num, hown6, hw6⟩
        case measure => simp [intOf]
    · have hcv := conv_back [48, 101] ho.out
      go_wp2_with fail
      go_ret
      exact ⟨rfl, hwr⟩
theorem hexa_15 (a : Addr) (n c : Nat) (w : World) (ha : a.block < w.heap.size) (hc : w.cell? a = some (.int .u8 15)) : Calls Tryz.prog 248 #[.slice (some a) 1 c] w fun e w' => e = .returned (.string { data := #[48, 102] }) ∧ Below w.heap.size w w' := by
  obtain ⟨i0, hi, iz0, iz1, iz2⟩ := hi_u8
  go_enter Tryz.func248, Tryz.ntmps248
  go_wp2_with (at_make; refine wpList_make_own _ rfl _ _ 24 rfl w.heap.size 5 i0 (.int .u8 0) 1 Tryz.underlying24 hi iz0 iz1 .i64 .i64 2 2 rfl rfl (by omega) (by rw [iz2]; omega) (by unfold maxLen; omega) (Nat.le_refl _) ?_; intro w1 hown1 hgrow1)
  have hw1 : Below w.heap.size w w1 := Below.grown (Below.refl _ _) hgrow1 (Nat.le_refl _) (fun k hk => by cases hk)
  have hc1 : w1.cell? a = some (.int .u8 15) := (hw1.cell ha).trans hc
  have hz1 := hw1.size
  clear hgrow1
  replace hown1 := Lib.hid hown1
  go_loopw [3, 12] (fun v x wr => (v = .slice (some ⟨w.heap.size, 0, none⟩) 0 2 ∧ x = .int .i64 0 ∧ w1 = wr) ∨ (∃ g cap, v = .slice (some ⟨g, 0, none⟩) 2 cap ∧ x = .int .i64 1 ∧ Hid (wr.ownsRow w.heap.size 5 1 (.slice (some ⟨g, 0, none⟩) 2 cap) 2 [.int .u8 48, .int .u8 102]) ∧ Below w.heap.size w wr)) (fun _ x _ => 1 - (intOf x).toNat)
  case atStart => exact .inl ⟨rfl, rfl, rfl⟩
  case round =>
    rcases hrel with ⟨rfl, rfl, rfl⟩ | ⟨g, cap, rfl, rfl, ho, hwr⟩
    · have hand : bits .and .u8 (15 : Int) 15 = 15 := by decide
      go_wp2_with fail
      go_region_law (refine step_append_lies _ rfl (.tmp 16) (.tmp 23) 24 rfl w.heap.size 5 i0 _ 1 1 Tryz.underlying24 hi iz0 iz1 iz2 rfl (by decide) (.slice (some ⟨w.heap.size, 0, none⟩) 0 2) 0 [] evl (hown1.out.alloc _) ⟨w1.heap.size, 0, none⟩ 2 2 [.int .u8 48, .int .u8 102] evl rfl ?c1 ?c2 (by decide) ?c3 ?c4 ?c5 _ rfl ?_; (case c1 => exact World.news_of_block (cs := #[.int .u8 48, .int .u8 102]) (heap_alloc_last w1 _)); (case c2 => exact two_u8); (case c3 => (unfold maxLen; omega)); (case c4 => omega); (case c5 => (simp; omega)); intro g6 cap6 w6 hown6 hgrow6 hat6 hlt6)
      all_goals
        have hw6 : Below w.heap.size w w6 := Below.grown bel hgrow6 (by simp; omega) (fun k hk => (hown1.out.lt k hk).1)
        replace hown6 := Lib.hid hown6
        clear hgrow6 hat6
        go_wp2_with fail
        go_roundw
        case rel => exact .inr ⟨g6, cap6, rfl, by go_num, hown6, hw6⟩
        case measure => simp [intOf]
    · have hcv := conv_back [48, 102] ho.out
      go_wp2_with fail
      go_ret
      exact ⟨rfl, hwr⟩
theorem hexa_16 (a : Addr) (n c : Nat) (w : World) (ha : a.block < w.heap.size) (hc : w.cell? a = some (.int .u8 16)) : Calls Tryz.prog 248 #[.slice (some a) 1 c] w fun e w' => e = .returned (.string { data := #[49, 48] }) ∧ Below w.heap.size w w' := by
  obtain ⟨i0, hi, iz0, iz1, iz2⟩ := hi_u8
  go_enter Tryz.func248, Tryz.ntmps248
  go_wp2_with (at_make; refine wpList_make_own _ rfl _ _ 24 rfl w.heap.size 5 i0 (.int .u8 0) 1 Tryz.underlying24 hi iz0 iz1 .i64 .i64 2 2 rfl rfl (by omega) (by rw [iz2]; omega) (by unfold maxLen; omega) (Nat.le_refl _) ?_; intro w1 hown1 hgrow1)
  have hw1 : Below w.heap.size w w1 := Below.grown (Below.refl _ _) hgrow1 (Nat.le_refl _) (fun k hk => by cases hk)
  have hc1 : w1.cell? a = some (.int .u8 16) := (hw1.cell ha).trans hc
  have hz1 := hw1.size
  clear hgrow1
  replace hown1 := Lib.hid hown1
  go_loopw [3, 12] (fun v x wr => (v = .slice (some ⟨w.heap.size, 0, none⟩) 0 2 ∧ x = .int .i64 0 ∧ w1 = wr) ∨ (∃ g cap, v = .slice (some ⟨g, 0, none⟩) 2 cap ∧ x = .int .i64 1 ∧ Hid (wr.ownsRow w.heap.size 5 1 (.slice (some ⟨g, 0, none⟩) 2 cap) 2 [.int .u8 49, .int .u8 48]) ∧ Below w.heap.size w wr)) (fun _ x _ => 1 - (intOf x).toNat)
  case atStart => exact .inl ⟨rfl, rfl, rfl⟩
  case round =>
    rcases hrel with ⟨rfl, rfl, rfl⟩ | ⟨g, cap, rfl, rfl, ho, hwr⟩
    · have hand : bits .and .u8 (16 : Int) 15 = 0 := by decide
      go_wp2_with fail
      go_region_law (refine step_append_lies _ rfl (.tmp 16) (.tmp 23) 24 rfl w.heap.size 5 i0 _ 1 1 Tryz.underlying24 hi iz0 iz1 iz2 rfl (by decide) (.slice (some ⟨w.heap.size, 0, none⟩) 0 2) 0 [] evl (hown1.out.alloc _) ⟨w1.heap.size, 0, none⟩ 2 2 [.int .u8 49, .int .u8 48] evl rfl ?c1 ?c2 (by decide) ?c3 ?c4 ?c5 _ rfl ?_; (case c1 => exact World.news_of_block (cs := #[.int .u8 49, .int .u8 48]) (heap_alloc_last w1 _)); (case c2 => exact two_u8); (case c3 => (unfold maxLen; omega)); (case c4 => omega); (case c5 => (simp; omega)); intro g6 cap6 w6 hown6 hgrow6 hat6 hlt6)
      all_goals
        have hw6 : Below w.heap.size w w6 := Below.grown bel hgrow6 (by simp; omega) (fun k hk => (hown1.out.lt k hk).1)
        replace hown6 := Lib.hid hown6
        clear hgrow6 hat6
        go_wp2_with fail
        go_roundw
        case rel => exact .inr ⟨g6, cap6, rfl, by go_num, hown6, hw6⟩
        case measure => simp [intOf]
    · have hcv := conv_back [49, 48] ho.out
      go_wp2_with fail
      go_ret
      exact ⟨rfl, hwr⟩
theorem hexa_17 (a : Addr) (n c : Nat) (w : World) (ha : a.block < w.heap.size) (hc : w.cell? a = some (.int .u8 17)) : Calls Tryz.prog 248 #[.slice (some a) 1 c] w fun e w' => e = .returned (.string { data := #[49, 49] }) ∧ Below w.heap.size w w' := by
  obtain ⟨i0, hi, iz0, iz1, iz2⟩ := hi_u8
  go_enter Tryz.func248, Tryz.ntmps248
  go_wp2_with (at_make; refine wpList_make_own _ rfl _ _ 24 rfl w.heap.size 5 i0 (.int .u8 0) 1 Tryz.underlying24 hi iz0 iz1 .i64 .i64 2 2 rfl rfl (by omega) (by rw [iz2]; omega) (by unfold maxLen; omega) (Nat.le_refl _) ?_; intro w1 hown1 hgrow1)
  have hw1 : Below w.heap.size w w1 := Below.grown (Below.refl _ _) hgrow1 (Nat.le_refl _) (fun k hk => by cases hk)
  have hc1 : w1.cell? a = some (.int .u8 17) := (hw1.cell ha).trans hc
  have hz1 := hw1.size
  clear hgrow1
  replace hown1 := Lib.hid hown1
  go_loopw [3, 12] (fun v x wr => (v = .slice (some ⟨w.heap.size, 0, none⟩) 0 2 ∧ x = .int .i64 0 ∧ w1 = wr) ∨ (∃ g cap, v = .slice (some ⟨g, 0, none⟩) 2 cap ∧ x = .int .i64 1 ∧ Hid (wr.ownsRow w.heap.size 5 1 (.slice (some ⟨g, 0, none⟩) 2 cap) 2 [.int .u8 49, .int .u8 49]) ∧ Below w.heap.size w wr)) (fun _ x _ => 1 - (intOf x).toNat)
  case atStart => exact .inl ⟨rfl, rfl, rfl⟩
  case round =>
    rcases hrel with ⟨rfl, rfl, rfl⟩ | ⟨g, cap, rfl, rfl, ho, hwr⟩
    · have hand : bits .and .u8 (17 : Int) 15 = 1 := by decide
      go_wp2_with fail
      go_region_law (refine step_append_lies _ rfl (.tmp 16) (.tmp 23) 24 rfl w.heap.size 5 i0 _ 1 1 Tryz.underlying24 hi iz0 iz1 iz2 rfl (by decide) (.slice (some ⟨w.heap.size, 0, none⟩) 0 2) 0 [] evl (hown1.out.alloc _) ⟨w1.heap.size, 0, none⟩ 2 2 [.int .u8 49, .int .u8 49] evl rfl ?c1 ?c2 (by decide) ?c3 ?c4 ?c5 _ rfl ?_; (case c1 => exact World.news_of_block (cs := #[.int .u8 49, .int .u8 49]) (heap_alloc_last w1 _)); (case c2 => exact two_u8); (case c3 => (unfold maxLen; omega)); (case c4 => omega); (case c5 => (simp; omega)); intro g6 cap6 w6 hown6 hgrow6 hat6 hlt6)
      all_goals
        have hw6 : Below w.heap.size w w6 := Below.grown bel hgrow6 (by simp; omega) (fun k hk => (hown1.out.lt k hk).1)
        replace hown6 := Lib.hid hown6
        clear hgrow6 hat6
        go_wp2_with fail
        go_roundw
        case rel => exact .inr ⟨g6, cap6, rfl, by go_num, hown6, hw6⟩
        case measure => simp [intOf]
    · have hcv := conv_back [49, 49] ho.out
      go_wp2_with fail
      go_ret
      exact ⟨rfl, hwr⟩
theorem hexa_18 (a : Addr) (n c : Nat) (w : World) (ha : a.block < w.heap.size) (hc : w.cell? a = some (.int .u8 18)) : Calls Tryz.prog 248 #[.slice (some a) 1 c] w fun e w' => e = .returned (.string { data := #[49, 50] }) ∧ Below w.heap.size w w' := by
  obtain ⟨i0, hi, iz0, iz1, iz2⟩ := hi_u8
  go_enter Tryz.func248, Tryz.ntmps248
  go_wp2_with (at_make; refine wpList_make_own _ rfl _ _ 24 rfl w.heap.size 5 i0 (.int .u8 0) 1 Tryz.underlying24 hi iz0 iz1 .i64 .i64 2 2 rfl rfl (by omega) (by rw [iz2]; omega) (by unfold maxLen; omega) (Nat.le_refl _) ?_; intro w1 hown1 hgrow1)
  have hw1 : Below w.heap.size w w1 := Below.grown (Below.refl _ _) hgrow1 (Nat.le_refl _) (fun k hk => by cases hk)
  have hc1 : w1.cell? a = some (.int .u8 18) := (hw1.cell ha).trans hc
  have hz1 := hw1.size
  clear hgrow1
  replace hown1 := Lib.hid hown1
  go_loopw [3, 12] (fun v x wr => (v = .slice (some ⟨w.heap.size, 0, none⟩) 0 2 ∧ x = .int .i64 0 ∧ w1 = wr) ∨ (∃ g cap, v = .slice (some ⟨g, 0, none⟩) 2 cap ∧ x = .int .i64 1 ∧ Hid (wr.ownsRow w.heap.size 5 1 (.slice (some ⟨g, 0, none⟩) 2 cap) 2 [.int .u8 49, .int .u8 50]) ∧ Below w.heap.size w wr)) (fun _ x _ => 1 - (intOf x).toNat)
  case atStart => exact .inl ⟨rfl, rfl, rfl⟩
  case round =>
    rcases hrel with ⟨rfl, rfl, rfl⟩ | ⟨g, cap, rfl, rfl, ho, hwr⟩
    · have hand : bits .and .u8 (18 : Int) 15 = 2 := by decide
      go_wp2_with fail
      go_region_law (refine step_append_lies _ rfl (.tmp 16) (.tmp 23) 24 rfl w.heap.size 5 i0 _ 1 1 Tryz.underlying24 hi iz0 iz1 iz2 rfl (by decide) (.slice (some ⟨w.heap.size, 0, none⟩) 0 2) 0 [] evl (hown1.out.alloc _) ⟨w1.heap.size, 0, none⟩ 2 2 [.int .u8 49, .int .u8 50] evl rfl ?c1 ?c2 (by decide) ?c3 ?c4 ?c5 _ rfl ?_; (case c1 => exact World.news_of_block (cs := #[.int .u8 49, .int .u8 50]) (heap_alloc_last w1 _)); (case c2 => exact two_u8); (case c3 => (unfold maxLen; omega)); (case c4 => omega); (case c5 => (simp; omega)); intro g6 cap6 w6 hown6 hgrow6 hat6 hlt6)
      all_goals
        have hw6 : Below w.heap.size w w6 := Below.grown bel hgrow6 (by simp; omega) (fun k hk => (hown1.out.lt k hk).1)
        replace hown6 := Lib.hid hown6
        clear hgrow6 hat6
        go_wp2_with fail
        go_roundw
        case rel => exact .inr ⟨g6, cap6, rfl, by go_num, hown6, hw6⟩
        case measure => simp [intOf]
    · have hcv := conv_back [49, 50] ho.out
      go_wp2_with fail
      go_ret
      exact ⟨rfl, hwr⟩
theorem hexa_19 (a : Addr) (n c : Nat) (w : World) (ha : a.block < w.heap.size) (hc : w.cell? a = some (.int .u8 19)) : Calls Tryz.prog 248 #[.slice (some a) 1 c] w fun e w' => e = .returned (.string { data := #[49, 51] }) ∧ Below w.heap.size w w' := by
  obtain ⟨i0, hi, iz0, iz1, iz2⟩ := hi_u8
  go_enter Tryz.func248, Tryz.ntmps248
  go_wp2_with (at_make; refine wpList_make_own _ rfl _ _ 24 rfl w.heap.size 5 i0 (.int .u8 0) 1 Tryz.underlying24 hi iz0 iz1 .i64 .i64 2 2 rfl rfl (by omega) (by rw [iz2]; omega) (by unfold maxLen; omega) (Nat.le_refl _) ?_; intro w1 hown1 hgrow1)
  have hw1 : Below w.heap.size w w1 := Below.grown (Below.refl _ _) hgrow1 (Nat.le_refl _) (fun k hk => by cases hk)
  have hc1 : w1.cell? a = some (.int .u8 19) := (hw1.cell ha).trans hc
  have hz1 := hw1.size
  clear hgrow1
  replace hown1 := Lib.hid hown1
  go_loopw [3, 12] (fun v x wr => (v = .slice (some ⟨w.heap.size, 0, none⟩) 0 2 ∧ x = .int .i64 0 ∧ w1 = wr) ∨ (∃ g cap, v = .slice (some ⟨g, 0, none⟩) 2 cap ∧ x = .int .i64 1 ∧ Hid (wr.ownsRow w.heap.size 5 1 (.slice (some ⟨g, 0, none⟩) 2 cap) 2 [.int .u8 49, .int .u8 51]) ∧ Below w.heap.size w wr)) (fun _ x _ => 1 - (intOf x).toNat)
  case atStart => exact .inl ⟨rfl, rfl, rfl⟩
  case round =>
    rcases hrel with ⟨rfl, rfl, rfl⟩ | ⟨g, cap, rfl, rfl, ho, hwr⟩
    · have hand : bits .and .u8 (19 : Int) 15 = 3 := by decide
      go_wp2_with fail
      go_region_law (refine step_append_lies _ rfl (.tmp 16) (.tmp 23) 24 rfl w.heap.size 5 i0 _ 1 1 Tryz.underlying24 hi iz0 iz1 iz2 rfl (by decide) (.slice (some ⟨w.heap.size, 0, none⟩) 0 2) 0 [] evl (hown1.out.alloc _) ⟨w1.heap.size, 0, none⟩ 2 2 [.int .u8 49, .int .u8 51] evl rfl ?c1 ?c2 (by decide) ?c3 ?c4 ?c5 _ rfl ?_; (case c1 => exact World.news_of_block (cs := #[.int .u8 49, .int .u8 51]) (heap_alloc_last w1 _)); (case c2 => exact two_u8); (case c3 => (unfold maxLen; omega)); (case c4 => omega); (case c5 => (simp; omega)); intro g6 cap6 w6 hown6 hgrow6 hat6 hlt6)
      all_goals
        have hw6 : Below w.heap.size w w6 := Below.grown bel hgrow6 (by simp; omega) (fun k hk => (hown1.out.lt k hk).1)
        replace hown6 := Lib.hid hown6
        clear hgrow6 hat6
        go_wp2_with fail
        go_roundw
        case rel => exact .inr ⟨g6, cap6, rfl, by go_num, hown6, hw6⟩
        case measure => simp [intOf]
    · have hcv := conv_back [49, 51] ho.out
      go_wp2_with fail
      go_ret
      exact ⟨rfl, hwr⟩
theorem hexa_20 (a : Addr) (n c : Nat) (w : World) (ha : a.block < w.heap.size) (hc : w.cell? a = some (.int .u8 20)) : Calls Tryz.prog 248 #[.slice (some a) 1 c] w fun e w' => e = .returned (.string { data := #[49, 52] }) ∧ Below w.heap.size w w' := by
  obtain ⟨i0, hi, iz0, iz1, iz2⟩ := hi_u8
  go_enter Tryz.func248, Tryz.ntmps248
  go_wp2_with (at_make; refine wpList_make_own _ rfl _ _ 24 rfl w.heap.size 5 i0 (.int .u8 0) 1 Tryz.underlying24 hi iz0 iz1 .i64 .i64 2 2 rfl rfl (by omega) (by rw [iz2]; omega) (by unfold maxLen; omega) (Nat.le_refl _) ?_; intro w1 hown1 hgrow1)
  have hw1 : Below w.heap.size w w1 := Below.grown (Below.refl _ _) hgrow1 (Nat.le_refl _) (fun k hk => by cases hk)
  have hc1 : w1.cell? a = some (.int .u8 20) := (hw1.cell ha).trans hc
  have hz1 := hw1.size
  clear hgrow1
  replace hown1 := Lib.hid hown1
  go_loopw [3, 12] (fun v x wr => (v = .slice (some ⟨w.heap.size, 0, none⟩) 0 2 ∧ x = .int .i64 0 ∧ w1 = wr) ∨ (∃ g cap, v = .slice (some ⟨g, 0, none⟩) 2 cap ∧ x = .int .i64 1 ∧ Hid (wr.ownsRow w.heap.size 5 1 (.slice (some ⟨g, 0, none⟩) 2 cap) 2 [.int .u8 49, .int .u8 52]) ∧ Below w.heap.size w wr)) (fun _ x _ => 1 - (intOf x).toNat)
  case atStart => exact .inl ⟨rfl, rfl, rfl⟩
  case round =>
    rcases hrel with ⟨rfl, rfl, rfl⟩ | ⟨g, cap, rfl, rfl, ho, hwr⟩
    · have hand : bits .and .u8 (20 : Int) 15 = 4 := by decide
      go_wp2_with fail
      go_region_law (refine step_append_lies _ rfl (.tmp 16) (.tmp 23) 24 rfl w.heap.size 5 i0 _ 1 1 Tryz.underlying24 hi iz0 iz1 iz2 rfl (by decide) (.slice (some ⟨w.heap.size, 0, none⟩) 0 2) 0 [] evl (hown1.out.alloc _) ⟨w1.heap.size, 0, none⟩ 2 2 [.int .u8 49, .int .u8 52] evl rfl ?c1 ?c2 (by decide) ?c3 ?c4 ?c5 _ rfl ?_; (case c1 => exact World.news_of_block (cs := #[.int .u8 49, .int .u8 52]) (heap_alloc_last w1 _)); (case c2 => exact two_u8); (case c3 => (unfold maxLen; omega)); (case c4 => omega); (case c5 => (simp; omega)); intro g6 cap6 w6 hown6 hgrow6 hat6 hlt6)
      all_goals
        have hw6 : Below w.heap.size w w6 := Below.grown bel hgrow6 (by simp; omega) (fun k hk => (hown1.out.lt k hk).1)
        replace hown6 := Lib.hid hown6
        clear hgrow6 hat6
        go_wp2_with fail
        go_roundw
        case rel => exact .inr ⟨g6, cap6, rfl, by go_num, hown6, hw6⟩
        case measure => simp [intOf]
    · have hcv := conv_back [49, 52] ho.out
      go_wp2_with fail
      go_ret
      exact ⟨rfl, hwr⟩
theorem hexa_21 (a : Addr) (n c : Nat) (w : World) (ha : a.block < w.heap.size) (hc : w.cell? a = some (.int .u8 21)) : Calls Tryz.prog 248 #[.slice (some a) 1 c] w fun e w' => e = .returned (.string { data := #[49, 53] }) ∧ Below w.heap.size w w' := by
  obtain ⟨i0, hi, iz0, iz1, iz2⟩ := hi_u8
  go_enter Tryz.func248, Tryz.ntmps248
  go_wp2_with (at_make; refine wpList_make_own _ rfl _ _ 24 rfl w.heap.size 5 i0 (.int .u8 0) 1 Tryz.underlying24 hi iz0 iz1 .i64 .i64 2 2 rfl rfl (by omega) (by rw [iz2]; omega) (by unfold maxLen; omega) (Nat.le_refl _) ?_; intro w1 hown1 hgrow1)
  have hw1 : Below w.heap.size w w1 := Below.grown (Below.refl _ _) hgrow1 (Nat.le_refl _) (fun k hk => by cases hk)
  have hc1 : w1.cell? a = some (.int .u8 21) := (hw1.cell ha).trans hc
  have hz1 := hw1.size
  clear hgrow1
  replace hown1 := Lib.hid hown1
  go_loopw [3, 12] (fun v x wr => (v = .slice (some ⟨w.heap.size, 0, none⟩) 0 2 ∧ x = .int .i64 0 ∧ w1 = wr) ∨ (∃ g cap, v = .slice (some ⟨g, 0, none⟩) 2 cap ∧ x = .int .i64 1 ∧ Hid (wr.ownsRow w.heap.size 5 1 (.slice (some ⟨g, 0, none⟩) 2 cap) 2 [.int .u8 49, .int .u8 53]) ∧ Below w.heap.size w wr)) (fun _ x _ => 1 - (intOf x).toNat)
  case atStart => exact .inl ⟨rfl, rfl, rfl⟩
  case round =>
    rcases hrel with ⟨rfl, rfl, rfl⟩ | ⟨g, cap, rfl, rfl, ho, hwr⟩
    · have hand : bits .and .u8 (21 : Int) 15 = 5 := by decide
      go_wp2_with fail
      go_region_law (refine step_append_lies _ rfl (.tmp 16) (.tmp 23) 24 rfl w.heap.size 5 i0 _ 1 1 Tryz.underlying24 hi iz0 iz1 iz2 rfl (by decide) (.slice (some ⟨w.heap.size, 0, none⟩) 0 2) 0 [] evl (hown1.out.alloc _) ⟨w1.heap.size, 0, none⟩ 2 2 [.int .u8 49, .int .u8 53] evl rfl ?c1 ?c2 (by decide) ?c3 ?c4 ?c5 _ rfl ?_; (case c1 => exact World.news_of_block (cs := #[.int .u8 49, .int .u8 53]) (heap_alloc_last w1 _)); (case c2 => exact two_u8); (case c3 => (unfold maxLen; omega)); (case c4 => omega); (case c5 => (simp; omega)); intro g6 cap6 w6 hown6 hgrow6 hat6 hlt6)
      all_goals
        have hw6 : Below w.heap.size w w6 := Below.grown bel hgrow6 (by simp; omega) (fun k hk => (hown1.out.lt k hk).1)
        replace hown6 := Lib.hid hown6
        clear hgrow6 hat6
        go_wp2_with fail
        go_roundw
        case rel => exact .inr ⟨g6, cap6, rfl, by go_num, hown6, hw6⟩
        case measure => simp [intOf]
    · have hcv := conv_back [49, 53] ho.out
      go_wp2_with fail
      go_ret
      exact ⟨rfl, hwr⟩
theorem hexa_22 (a : Addr) (n c : Nat) (w : World) (ha : a.block < w.heap.size) (hc : w.cell? a = some (.int .u8 22)) : Calls Tryz.prog 248 #[.slice (some a) 1 c] w fun e w' => e = .returned (.string { data := #[49, 54] }) ∧ Below w.heap.size w w' := by
  obtain ⟨i0, hi, iz0, iz1, iz2⟩ := hi_u8
  go_enter Tryz.func248, Tryz.ntmps248
  go_wp2_with (at_make; refine wpList_make_own _ rfl _ _ 24 rfl w.heap.size 5 i0 (.int .u8 0) 1 Tryz.underlying24 hi iz0 iz1 .i64 .i64 2 2 rfl rfl (by omega) (by rw [iz2]; omega) (by unfold maxLen; omega) (Nat.le_refl _) ?_; intro w1 hown1 hgrow1)
  have hw1 : Below w.heap.size w w1 := Below.grown (Below.refl _ _) hgrow1 (Nat.le_refl _) (fun k hk => by cases hk)
  have hc1 : w1.cell? a = some (.int .u8 22) := (hw1.cell ha).trans hc
  have hz1 := hw1.size
  clear hgrow1
  replace hown1 := Lib.hid hown1
  go_loopw [3, 12] (fun v x wr => (v = .slice (some ⟨w.heap.size, 0, none⟩) 0 2 ∧ x = .int .i64 0 ∧ w1 = wr) ∨ (∃ g cap, v = .slice (some ⟨g, 0, none⟩) 2 cap ∧ x = .int .i64 1 ∧ Hid (wr.ownsRow w.heap.size 5 1 (.slice (some ⟨g, 0, none⟩) 2 cap) 2 [.int .u8 49, .int .u8 54]) ∧ Below w.heap.size w wr)) (fun _ x _ => 1 - (intOf x).toNat)
  case atStart => exact .inl ⟨rfl, rfl, rfl⟩
  case round =>
    rcases hrel with ⟨rfl, rfl, rfl⟩ | ⟨g, cap, rfl, rfl, ho, hwr⟩
    · have hand : bits .and .u8 (22 : Int) 15 = 6 := by decide
      go_wp2_with fail
      go_region_law (refine step_append_lies _ rfl (.tmp 16) (.tmp 23) 24 rfl w.heap.size 5 i0 _ 1 1 Tryz.underlying24 hi iz0 iz1 iz2 rfl (by decide) (.slice (some ⟨w.heap.size, 0, none⟩) 0 2) 0 [] evl (hown1.out.alloc _) ⟨w1.heap.size, 0, none⟩ 2 2 [.int .u8 49, .int .u8 54] evl rfl ?c1 ?c2 (by decide) ?c3 ?c4 ?c5 _ rfl ?_; (case c1 => exact World.news_of_block (cs := #[.int .u8 49, .int .u8 54]) (heap_alloc_last w1 _)); (case c2 => exact two_u8); (case c3 => (unfold maxLen; omega)); (case c4 => omega); (case c5 => (simp; omega)); intro g6 cap6 w6 hown6 hgrow6 hat6 hlt6)
      all_goals
        have hw6 : Below w.heap.size w w6 := Below.grown bel hgrow6 (by simp; omega) (fun k hk => (hown1.out.lt k hk).1)
        replace hown6 := Lib.hid hown6
        clear hgrow6 hat6
        go_wp2_with fail
        go_roundw
        case rel => exact .inr ⟨g6, cap6, rfl, by go_num, hown6, hw6⟩
        case measure => simp [intOf]
    · have hcv := conv_back [49, 54] ho.out
      go_wp2_with fail
      go_ret
      exact ⟨rfl, hwr⟩
theorem hexa_23 (a : Addr) (n c : Nat) (w : World) (ha : a.block < w.heap.size) (hc : w.cell? a = some (.int .u8 23)) : Calls Tryz.prog 248 #[.slice (some a) 1 c] w fun e w' => e = .returned (.string { data := #[49, 55] }) ∧ Below w.heap.size w w' := by
  obtain ⟨i0, hi, iz0, iz1, iz2⟩ := hi_u8
  go_enter Tryz.func248, Tryz.ntmps248
  go_wp2_with (at_make; refine wpList_make_own _ rfl _ _ 24 rfl w.heap.size 5 i0 (.int .u8 0) 1 Tryz.underlying24 hi iz0 iz1 .i64 .i64 2 2 rfl rfl (by omega) (by rw [iz2]; omega) (by unfold maxLen; omega) (Nat.le_refl _) ?_; intro w1 hown1 hgrow1)
  have hw1 : Below w.heap.size w w1 := Below.grown (Below.refl _ _) hgrow1 (Nat.le_refl _) (fun k hk => by cases hk)
  have hc1 : w1.cell? a = some (.int .u8 23) := (hw1.cell ha).trans hc
  have hz1 := hw1.size
  clear hgrow1
  replace hown1 := Lib.hid hown1
  go_loopw [3, 12] (fun v x wr => (v = .slice (some ⟨w.heap.size, 0, none⟩) 0 2 ∧ x = .int .i64 0 ∧ w1 = wr) ∨ (∃ g cap, v = .slice (some ⟨g, 0, none⟩) 2 cap ∧ x = .int .i64 1 ∧ Hid (wr.ownsRow w.heap.size 5 1 (.slice (some ⟨g, 0, none⟩) 2 cap) 2 [.int .u8 49, .int .u8 55]) ∧ Below w.heap.size w wr)) (fun _ x _ => 1 - (intOf x).toNat)
  case atStart => exact .inl ⟨rfl, rfl, rfl⟩
  case round =>
    rcases hrel with ⟨rfl, rfl, rfl⟩ | ⟨g, cap, rfl, rfl, ho, hwr⟩
    · have hand : bits .and .u8 (23 : Int) 15 = 7 := by decide
      go_wp2_with fail
      go_region_law (refine step_append_lies _ rfl (.tmp 16) (.tmp 23) 24 rfl w.heap.size 5 i0 _ 1 1 Tryz.underlying24 hi iz0 iz1 iz2 rfl (by decide) (.slice (some ⟨w.heap.size, 0, none⟩) 0 2) 0 [] evl (hown1.out.alloc _) ⟨w1.heap.size, 0, none⟩ 2 2 [.int .u8 49, .int .u8 55] evl rfl ?c1 ?c2 (by decide) ?c3 ?c4 ?c5 _ rfl ?_; (case c1 => exact World.news_of_block (cs := #[.int .u8 49, .int .u8 55]) (heap_alloc_last w1 _)); (case c2 => exact two_u8); (case c3 => (unfold maxLen; omega)); (case c4 => omega); (case c5 => (simp; omega)); intro g6 cap6 w6 hown6 hgrow6 hat6 hlt6)
      all_goals
        have hw6 : Below w.heap.size w w6 := Below.grown bel hgrow6 (by simp; omega) (fun k hk => (hown1.out.lt k hk).1)
        replace hown6 := Lib.hid hown6
        clear hgrow6 hat6
        go_wp2_with fail
        go_roundw
        case rel => exact .inr ⟨g6, cap6, rfl, by go_num, hown6, hw6⟩
        case measure => simp [intOf]
    · have hcv := conv_back [49, 55] ho.out
      go_wp2_with fail
      go_ret
      exact ⟨rfl, hwr⟩
theorem hexa_24 (a : Addr) (n c : Nat) (w : World) (ha : a.block < w.heap.size) (hc : w.cell? a = some (.int .u8 24)) : Calls Tryz.prog 248 #[.slice (some a) 1 c] w fun e w' => e = .returned (.string { data := #[49, 56] }) ∧ Below w.heap.size w w' := by
  obtain ⟨i0, hi, iz0, iz1, iz2⟩ := hi_u8
  go_enter Tryz.func248, Tryz.ntmps248
  go_wp2_with (at_make; refine wpList_make_own _ rfl _ _ 24 rfl w.heap.size 5 i0 (.int .u8 0) 1 Tryz.underlying24 hi iz0 iz1 .i64 .i64 2 2 rfl rfl (by omega) (by rw [iz2]; omega) (by unfold maxLen; omega) (Nat.le_refl _) ?_; intro w1 hown1 hgrow1)
  have hw1 : Below w.heap.size w w1 := Below.grown (Below.refl _ _) hgrow1 (Nat.le_refl _) (fun k hk => by cases hk)
  have hc1 : w1.cell? a = some (.int .u8 24) := (hw1.cell ha).trans hc
  have hz1 := hw1.size
  clear hgrow1
  replace hown1 := Lib.hid hown1
  go_loopw [3, 12] (fun v x wr => (v = .slice (some ⟨w.heap.size, 0, none⟩) 0 2 ∧ x = .int .i64 0 ∧ w1 = wr) ∨ (∃ g cap, v = .slice (some ⟨g, 0, none⟩) 2 cap ∧ x = .int .i64 1 ∧ Hid (wr.ownsRow w.heap.size 5 1 (.slice (some ⟨g, 0, none⟩) 2 cap) 2 [.int .u8 49, .int .u8 56]) ∧ Below w.heap.size w wr)) (fun _ x _ => 1 - (intOf x).toNat)
  case atStart => exact .inl ⟨rfl, rfl, rfl⟩
  case round =>
    rcases hrel with ⟨rfl, rfl, rfl⟩ | ⟨g, cap, rfl, rfl, ho, hwr⟩
    · have hand : bits .and .u8 (24 : Int) 15 = 8 := by decide
      go_wp2_with fail
      go_region_law (refine step_append_lies _ rfl (.tmp 16) (.tmp 23) 24 rfl w.heap.size 5 i0 _ 1 1 Tryz.underlying24 hi iz0 iz1 iz2 rfl (by decide) (.slice (some ⟨w.heap.size, 0, none⟩) 0 2) 0 [] evl (hown1.out.alloc _) ⟨w1.heap.size, 0, none⟩ 2 2 [.int .u8 49, .int .u8 56] evl rfl ?c1 ?c2 (by decide) ?c3 ?c4 ?c5 _ rfl ?_; (case c1 => exact World.news_of_block (cs := #[.int .u8 49, .int .u8 56]) (heap_alloc_last w1 _)); (case c2 => exact two_u8); (case c3 => (unfold maxLen; omega)); (case c4 => omega); (case c5 => (simp; omega)); intro g6 cap6 w6 hown6 hgrow6 hat6 hlt6)
      all_goals
        have hw6 : Below w.heap.size w w6 := Below.grown bel hgrow6 (by simp; omega) (fun k hk => (hown1.out.lt k hk).1)
        replace hown6 := Lib.hid hown6
        clear hgrow6 hat6
        go_wp2_with fail
        go_roundw
        case rel => exact .inr ⟨g6, cap6, rfl, by go_num, hown6, hw6⟩
        case measure => simp [intOf]
    · have hcv := conv_back [49, 56] ho.out
      go_wp2_with fail
      go_ret
      exact ⟨rfl, hwr⟩
theorem hexa_25 (a : Addr) (n c : Nat) (w : World) (ha : a.block < w.heap.size) (hc : w.cell? a = some (.int .u8 25)) : Calls Tryz.prog 248 #[.slice (some a) 1 c] w fun e w' => e = .returned (.string { data := #[49, 57] }) ∧ Below w.heap.size w w' := by
  obtain ⟨i0, hi, iz0, iz1, iz2⟩ := hi_u8
  go_enter Tryz.func248, Tryz.ntmps248
  go_wp2_with (at_make; refine wpList_make_own _ rfl _ _ 24 rfl w.heap.size 5 i0 (.int .u8 0) 1 Tryz.underlying24 hi iz0 iz1 .i64 .i64 2 2 rfl rfl (by omega) (by rw [iz2]; omega) (by unfold maxLen; omega) (Nat.le_refl _) ?_; intro w1 hown1 hgrow1)
  have hw1 : Below w.heap.size w w1 := Below.grown (Below.refl _ _) hgrow1 (Nat.le_refl _) (fun k hk => by cases hk)
  have hc1 : w1.cell? a = some (.int .u8 25) := (hw1.cell ha).trans hc
  have hz1 := hw1.size
  clear hgrow1
  replace hown1 := Lib.hid hown1
  go_loopw [3, 12] (fun v x wr => (v = .slice (some ⟨w.heap.size, 0, none⟩) 0 2 ∧ x = .int .i64 0 ∧ w1 = wr) ∨ (∃ g cap, v = .slice (some ⟨g, 0, none⟩) 2 cap ∧ x = .int .i64 1 ∧ Hid (wr.ownsRow w.heap.size 5 1 (.slice (some ⟨g, 0, none⟩) 2 cap) 2 [.int .u8 49, .int .u8 57]) ∧ Below w.heap.size w wr)) (fun _ x _ => 1 - (intOf x).toNat)
  case atStart => exact .inl ⟨rfl, rfl, rfl⟩
  case round =>
    rcases hrel with ⟨rfl, rfl, rfl⟩ | ⟨g, cap, rfl, rfl, ho, hwr⟩
    · have hand : bits .and .u8 (25 : Int) 15 = 9 := by decide
      go_wp2_with fail
      go_region_law (refine step_append_lies _ rfl (.tmp 16) (.tmp 23) 24 rfl w.heap.size 5 i0 _ 1 1 Tryz.underlying24 hi iz0 iz1 iz2 rfl (by decide) (.slice (some ⟨w.heap.size, 0, none⟩) 0 2) 0 [] evl (hown1.out.alloc _) ⟨w1.heap.size, 0, none⟩ 2 2 [.int .u8 49, .int .u8 57] evl rfl ?c1 ?c2 (by decide) ?c3 ?c4 ?c5 _ rfl ?_; (case c1 => exact World.news_of_block (cs := #[.int .u8 49, .int .u8 57]) (heap_alloc_last w1 _)); (case c2 => exact two_u8); (case c3 => (unfold maxLen; omega)); (case c4 => omega); (case c5 => (simp; omega)); intro g6 cap6 w6 hown6 hgrow6 hat6 hlt6)
      all_goals
        have hw6 : Below w.heap.size w w6 := Below.grown bel hgrow6 (by simp; omega) (fun k hk => (hown1.out.lt k hk).1)
        replace hown6 := Lib.hid hown6
        clear hgrow6 hat6
        go_wp2_with fail
        go_roundw
        case rel => exact .inr ⟨g6, cap6, rfl, by go_num, hown6, hw6⟩
        case measure => simp [intOf]
    · have hcv := conv_back [49, 57] ho.out
      go_wp2_with fail
      go_ret
      exact ⟨rfl, hwr⟩
theorem hexa_26 (a : Addr) (n c : Nat) (w : World) (ha : a.block < w.heap.size) (hc : w.cell? a = some (.int .u8 26)) : Calls Tryz.prog 248 #[.slice (some a) 1 c] w fun e w' => e = .returned (.string { data := #[49, 97] }) ∧ Below w.heap.size w w' := by
  obtain ⟨i0, hi, iz0, iz1, iz2⟩ := hi_u8
  go_enter Tryz.func248, Tryz.ntmps248
  go_wp2_with (at_make; refine wpList_make_own _ rfl _ _ 24 rfl w.heap.size 5 i0 (.int .u8 0) 1 Tryz.underlying24 hi iz0 iz1 .i64 .i64 2 2 rfl rfl (by omega) (by rw [iz2]; omega) (by unfold maxLen; omega) (Nat.le_refl _) ?_; intro w1 hown1 hgrow1)
  have hw1 : Below w.heap.size w w1 := Below.grown (Below.refl _ _) hgrow1 (Nat.le_refl _) (fun k hk => by cases hk)
  have hc1 : w1.cell? a = some (.int .u8 26) := (hw1.cell ha).trans hc
  have hz1 := hw1.size
  clear hgrow1
  replace hown1 := Lib.hid hown1
  go_loopw [3, 12] (fun v x wr => (v = .slice (some ⟨w.heap.size, 0, none⟩) 0 2 ∧ x = .int .i64 0 ∧ w1 = wr) ∨ (∃ g cap, v = .slice (some ⟨g, 0, none⟩) 2 cap ∧ x = .int .i64 1 ∧ Hid (wr.ownsRow w.heap.size 5 1 (.slice (some ⟨g, 0, none⟩) 2 cap) 2 [.int .u8 49, .int .u8 97]) ∧ Below w.heap.size w wr)) (fun _ x _ => 1 - (intOf x).toNat)
  case atStart => exact .inl ⟨rfl, rfl, rfl⟩
  case round =>
    rcases hrel with ⟨rfl, rfl, rfl⟩ | ⟨g, cap, rfl, rfl, ho, hwr⟩
    · have hand : bits .and .u8 (26 : Int) 15 = 10 := by decide
      go_wp2_with fail
      go_region_law (refine step_append_lies _ rfl (.tmp 16) (.tmp 23) 24 rfl w.heap.size 5 i0 _ 1 1 Tryz.underlying24 hi iz0 iz1 iz2 rfl (by decide) (.slice (some ⟨w.heap.size, 0, none⟩) 0 2) 0 [] evl (hown1.out.alloc _) ⟨w1.heap.size, 0, none⟩ 2 2 [.int .u8 49, .int .u8 97] evl rfl ?c1 ?c2 (by decide) ?c3 ?c4 ?c5 _ rfl ?_; (case c1 => exact World.news_of_block (cs := #[.int .u8 49, .int .u8 97]) (heap_alloc_last w1 _)); (case c2 => exact two_u8); (case c3 => (unfold maxLen; omega)); (case c4 => omega); (case c5 => (simp; omega)); intro g6 cap6 w6 hown6 hgrow6 hat6 hlt6)
      all_goals
        have hw6 : Below w.heap.size w w6 := Below.grown bel hgrow6 (by simp; omega) (fun k hk => (hown1.out.lt k hk).1)
        replace hown6 := Lib.hid hown6
        clear hgrow6 hat6
        go_wp2_with fail
        go_roundw
        case rel => exact .inr ⟨g6, cap6, rfl, by go_num, hown6, hw6⟩
        case measure => simp [intOf]
    · have hcv := conv_back [49, 97] ho.out
      go_wp2_with fail
      go_ret
      exact ⟨rfl, hwr⟩
theorem hexa_27 (a : Addr) (n c : Nat) (w : World) (ha : a.block < w.heap.size) (hc : w.cell? a = some (.int .u8 27)) : Calls Tryz.prog 248 #[.slice (some a) 1 c] w fun e w' => e = .returned (.string { data := #[49, 98] }) ∧ Below w.heap.size w w' := by
  obtain ⟨i0, hi, iz0, iz1, iz2⟩ := hi_u8
  go_enter Tryz.func248, Tryz.ntmps248
  go_wp2_with (at_make; refine wpList_make_own _ rfl _ _ 24 rfl w.heap.size 5 i0 (.int .u8 0) 1 Tryz.underlying24 hi iz0 iz1 .i64 .i64 2 2 rfl rfl (by omega) (by rw [iz2]; omega) (by unfold maxLen; omega) (Nat.le_refl _) ?_; intro w1 hown1 hgrow1)
  have hw1 : Below w.heap.size w w1 := Below.grown (Below.refl _ _) hgrow1 (Nat.le_refl _) (fun k hk => by cases hk)
  have hc1 : w1.cell? a = some (.int .u8 27) := (hw1.cell ha).trans hc
  have hz1 := hw1.size
  clear hgrow1
  replace hown1 := Lib.hid hown1
  go_loopw [3, 12] (fun v x wr => (v = .slice (some ⟨w.heap.size, 0, none⟩) 0 2 ∧ x = .int .i64 0 ∧ w1 = wr) ∨ (∃ g cap, v = .slice (some ⟨g, 0, none⟩) 2 cap ∧ x = .int .i64 1 ∧ Hid (wr.ownsRow w.heap.size 5 1 (.slice (some ⟨g, 0, none⟩) 2 cap) 2 [.int .u8 49, .int .u8 98]) ∧ Below w.heap.size w wr)) (fun _ x _ => 1 - (intOf x).toNat)
  case atStart => exact .inl ⟨rfl, rfl, rfl⟩
  case round =>
    rcases hrel with ⟨rfl, rfl, rfl⟩ | ⟨g, cap, rfl, rfl, ho, hwr⟩
    · have hand : bits .and .u8 (27 : Int) 15 = 11 := by decide
      go_wp2_with fail
      go_region_law (refine step_append_lies _ rfl (.tmp 16) (.tmp 23) 24 rfl w.heap.size 5 i0 _ 1 1 Tryz.underlying24 hi iz0 iz1 iz2 rfl (by decide) (.slice (some ⟨w.heap.size, 0, none⟩) 0 2) 0 [] evl (hown1.out.alloc _) ⟨w1.heap.size, 0, none⟩ 2 2 [.int .u8 49, .int .u8 98] evl rfl ?c1 ?c2 (by decide) ?c3 ?c4 ?c5 _ rfl ?_; (case c1 => exact World.news_of_block (cs := #[.int .u8 49, .int .u8 98]) (heap_alloc_last w1 _)); (case c2 => exact two_u8); (case c3 => (unfold maxLen; omega)); (case c4 => omega); (case c5 => (simp; omega)); intro g6 cap6 w6 hown6 hgrow6 hat6 hlt6)
      all_goals
        have hw6 : Below w.heap.size w w6 := Below.grown bel hgrow6 (by simp; omega) (fun k hk => (hown1.out.lt k hk).1)
        replace hown6 := Lib.hid hown6
        clear hgrow6 hat6
        go_wp2_with fail
        go_roundw
        case rel => exact .inr ⟨g6, cap6, rfl, by go_num, hown6, hw6⟩
        case measure => simp [intOf]
    · have hcv := conv_back [49, 98] ho.out
      go_wp2_with fail
      go_ret
      exact ⟨rfl, hwr⟩
theorem hexa_28 (a : Addr) (n c : Nat) (w : World) (ha : a.block < w.heap.size) (hc : w.cell? a = some (.int .u8 28)) : Calls Tryz.prog 248 #[.slice (some a) 1 c] w fun e w' => e = .returned (.string { data := #[49, 99] }) ∧ Below w.heap.size w w' := by
  obtain ⟨i0, hi, iz0, iz1, iz2⟩ := hi_u8
  go_enter Tryz.func248, Tryz.ntmps248
  go_wp2_with (at_make; refine wpList_make_own _ rfl _ _ 24 rfl w.heap.size 5 i0 (.int .u8 0) 1 Tryz.underlying24 hi iz0 iz1 .i64 .i64 2 2 rfl rfl (by omega) (by rw [iz2]; omega) (by unfold maxLen; omega) (Nat.le_refl _) ?_; intro w1 hown1 hgrow1)
  have hw1 : Below w.heap.size w w1 := Below.grown (Below.refl _ _) hgrow1 (Nat.le_refl _) (fun k hk => by cases hk)
  have hc1 : w1.cell? a = some (.int .u8 28) := (hw1.cell ha).trans hc
  have hz1 := hw1.size
  clear hgrow1
  replace hown1 := Lib.hid hown1
  go_loopw [3, 12] (fun v x wr => (v = .slice (some ⟨w.heap.size, 0, none⟩) 0 2 ∧ x = .int .i64 0 ∧ w1 = wr) ∨ (∃ g cap, v = .slice (some ⟨g, 0, none⟩) 2 cap ∧ x = .int .i64 1 ∧ Hid (wr.ownsRow w.heap.size 5 1 (.slice (some ⟨g, 0, none⟩) 2 cap) 2 [.int .u8 49, .int .u8 99]) ∧ Below w.heap.size w wr)) (fun _ x _ => 1 - (intOf x).toNat)
  case atStart => exact .inl ⟨rfl, rfl, rfl⟩
  case round =>
    rcases hrel with ⟨rfl, rfl, rfl⟩ | ⟨g, cap, rfl, rfl, ho, hwr⟩
    · have hand : bits .and .u8 (28 : Int) 15 = 12 := by decide
      go_wp2_with fail
      go_region_law (refine step_append_lies _ rfl (.tmp 16) (.tmp 23) 24 rfl w.heap.size 5 i0 _ 1 1 Tryz.underlying24 hi iz0 iz1 iz2 rfl (by decide) (.slice (some ⟨w.heap.size, 0, none⟩) 0 2) 0 [] evl (hown1.out.alloc _) ⟨w1.heap.size, 0, none⟩ 2 2 [.int .u8 49, .int .u8 99] evl rfl ?c1 ?c2 (by decide) ?c3 ?c4 ?c5 _ rfl ?_; (case c1 => exact World.news_of_block (cs := #[.int .u8 49, .int .u8 99]) (heap_alloc_last w1 _)); (case c2 => exact two_u8); (case c3 => (unfold maxLen; omega)); (case c4 => omega); (case c5 => (simp; omega)); intro g6 cap6 w6 hown6 hgrow6 hat6 hlt6)
      all_goals
        have hw6 : Below w.heap.size w w6 := Below.grown bel hgrow6 (by simp; omega) (fun k hk => (hown1.out.lt k hk).1)
        replace hown6 := Lib.hid hown6
        clear hgrow6 hat6
        go_wp2_with fail
        go_roundw
        case rel => exact .inr ⟨g6, cap6, rfl, by go_num, hown6, hw6⟩
        case measure => simp [intOf]
    · have hcv := conv_back [49, 99] ho.out
      go_wp2_with fail
      go_ret
      exact ⟨rfl, hwr⟩
theorem hexa_29 (a : Addr) (n c : Nat) (w : World) (ha : a.block < w.heap.size) (hc : w.cell? a = some (.int .u8 29)) : Calls Tryz.prog 248 #[.slice (some a) 1 c] w fun e w' => e = .returned (.string { data := #[49, 100] }) ∧ Below w.heap.size w w' := by
  obtain ⟨i0, hi, iz0, iz1, iz2⟩ := hi_u8
  go_enter Tryz.func248, Tryz.ntmps248
  go_wp2_with (at_make; refine wpList_make_own _ rfl _ _ 24 rfl w.heap.size 5 i0 (.int .u8 0) 1 Tryz.underlying24 hi iz0 iz1 .i64 .i64 2 2 rfl rfl (by omega) (by rw [iz2]; omega) (by unfold maxLen; omega) (Nat.le_refl _) ?_; intro w1 hown1 hgrow1)
  have hw1 : Below w.heap.size w w1 := Below.grown (Below.refl _ _) hgrow1 (Nat.le_refl _) (fun k hk => by cases hk)
  have hc1 : w1.cell? a = some (.int .u8 29) := (hw1.cell ha).trans hc
  have hz1 := hw1.size
  clear hgrow1
  replace hown1 := Lib.hid hown1
  go_loopw [3, 12] (fun v x wr => (v = .slice (some ⟨w.heap.size, 0, none⟩) 0 2 ∧ x = .int .i64 0 ∧ w1 = wr) ∨ (∃ g cap, v = .slice (some ⟨g, 0, none⟩) 2 cap ∧ x = .int .i64 1 ∧ Hid (wr.ownsRow w.heap.size 5 1 (.slice (some ⟨g, 0, none⟩) 2 cap) 2 [.int .u8 49, .int .u8 100]) ∧ Below w.heap.size w wr)) (fun _ x _ => 1 - (intOf x).toNat)
  case atStart => exact .inl ⟨rfl, rfl, rfl⟩
  case round =>
    rcases hrel with ⟨rfl, rfl, rfl⟩ | ⟨g, cap, rfl, rfl, ho, hwr⟩
    · have hand : bits .and .u8 (29 : Int) 15 = 13 := by decide
      go_wp2_with fail
      go_region_law (refine step_append_lies _ rfl (.tmp 16) (.tmp 23) 24 rfl w.heap.size 5 i0 _ 1 1 Tryz.underlying24 hi iz0 iz1 iz2 rfl (by decide) (.slice (some ⟨w.heap.size, 0, none⟩) 0 2) 0 [] evl (hown1.out.alloc _) ⟨w1.heap.size, 0, none⟩ 2 2 [.int .u8 49, .int .u8 100] evl rfl ?c1 ?c2 (by decide) ?c3 ?c4 ?c5 _ rfl ?_; (case c1 => exact World.news_of_block (cs := #[.int .u8 49, .int .u8 100]) (heap_alloc_last w1 _)); (case c2 => exact two_u8); (case c3 => (unfold maxLen; omega)); (case c4 => omega); (case c5 => (simp; omega)); intro g6 cap6 w6 hown6 hgrow6 hat6 hlt6)
      all_goals
        have hw6 : Below w.heap.size w w6 := Below.grown bel hgrow6 (by simp; omega) (fun k hk => (hown1.out.lt k hk).1)
        replace hown6 := Lib.hid hown6
        clear hgrow6 hat6
        go_wp2_with fail
        go_roundw
        case rel => exact .inr ⟨g6, cap6, rfl, by go_num, hown6, hw6⟩
        case measure => simp [intOf]
    · have hcv := conv_back [49, 100] ho.out
      go_wp2_with fail
      go_ret
      exact ⟨rfl, hwr⟩
theorem hexa_30 (a : Addr) (n c : Nat) (w : World) (ha : a.block < w.heap.size) (hc : w.cell? a = some (.int .u8 30)) : Calls Tryz.prog 248 #[.slice (some a) 1 c] w fun e w' => e = .returned (.string { data := #[49, 101] }) ∧ Below w.heap.size w w' := by
  obtain ⟨i0, hi, iz0, iz1, iz2⟩ := hi_u8
  go_enter Tryz.func248, Tryz.ntmps248
  go_wp2_with (at_make; refine wpList_make_own _ rfl _ _ 24 rfl w.heap.size 5 i0 (.int .u8 0) 1 Tryz.underlying24 hi iz0 iz1 .i64 .i64 2 2 rfl rfl (by omega) (by rw [iz2]; omega) (by unfold maxLen; omega) (Nat.le_refl _) ?_; intro w1 hown1 hgrow1)
  have hw1 : Below w.heap.size w w1 := Below.grown (Below.refl _ _) hgrow1 (Nat.le_refl _) (fun k hk => by cases hk)
  have hc1 : w1.cell? a = some (.int .u8 30) := (hw1.cell ha).trans hc
  have hz1 := hw1.size
  clear hgrow1
  replace hown1 := Lib.hid hown1
  go_loopw [3, 12] (fun v x wr => (v = .slice (some ⟨w.heap.size, 0, none⟩) 0 2 ∧ x = .int .i64 0 ∧ w1 = wr) ∨ (∃ g cap, v = .slice (some ⟨g, 0, none⟩) 2 cap ∧ x = .int .i64 1 ∧ Hid (wr.ownsRow w.heap.size 5 1 (.slice (some ⟨g, 0, none⟩) 2 cap) 2 [.int .u8 49, .int .u8 101]) ∧ Below w.heap.size w wr)) (fun _ x _ => 1 - (intOf x).toNat)
  case atStart => exact .inl ⟨rfl, rfl, rfl⟩
  case round =>
    rcases hrel with ⟨rfl, rfl, rfl⟩ | ⟨g, cap, rfl, rfl, ho, hwr⟩
    · have hand : bits .and .u8 (30 : Int) 15 = 14 := by decide
      go_wp2_with fail
      go_region_law (refine step_append_lies _ rfl (.tmp 16) (.tmp 23) 24 rfl w.heap.size 5 i0 _ 1 1 Tryz.underlying24 hi iz0 iz1 iz2 rfl (by decide) (.slice (some ⟨w.heap.size, 0, none⟩) 0 2) 0 [] evl (hown1.out.alloc _) ⟨w1.heap.size, 0, none⟩ 2 2 [.int .u8 49, .int .u8 101] evl rfl ?c1 ?c2 (by decide) ?c3 ?c4 ?c5 _ rfl ?_; (case c1 => exact World.news_of_block (cs := #[.int .u8 49, .int .u8 101]) (heap_alloc_last w1 _)); (case c2 => exact two_u8); (case c3 => (unfold maxLen; omega)); (case c4 => omega); (case c5 => (simp; omega)); intro g6 cap6 w6 hown6 hgrow6 hat6 hlt6)
      all_goals
        have hw6 : Below w.heap.size w w6 := Below.grown bel hgrow6 (by simp; omega) (fun k hk => (hown1.out.lt k hk).1)
        replace hown6 := Lib.hid hown6
        clear hgrow6 hat6
        go_wp2_with fail
        go_roundw
        case rel => exact .inr ⟨g6, cap6, rfl, by go_num, hown6, hw6⟩
        case measure => simp [intOf]
    · have hcv := conv_back [49, 101] ho.out
      go_wp2_with fail
      go_ret
      exact ⟨rfl, hwr⟩
theorem hexa_31 (a : Addr) (n c : Nat) (w : World) (ha : a.block < w.heap.size) (hc : w.cell? a = some (.int .u8 31)) : Calls Tryz.prog 248 #[.slice (some a) 1 c] w fun e w' => e = .returned (.string { data := #[49, 102] }) ∧ Below w.heap.size w w' := by
  obtain ⟨i0, hi, iz0, iz1, iz2⟩ := hi_u8
  go_enter Tryz.func248, Tryz.ntmps248
  go_wp2_with (at_make; refine wpList_make_own _ rfl _ _ 24 rfl w.heap.size 5 i0 (.int .u8 0) 1 Tryz.underlying24 hi iz0 iz1 .i64 .i64 2 2 rfl rfl (by omega) (by rw [iz2]; omega) (by unfold maxLen; omega) (Nat.le_refl _) ?_; intro w1 hown1 hgrow1)
  have hw1 : Below w.heap.size w w1 := Below.grown (Below.refl _ _) hgrow1 (Nat.le_refl _) (fun k hk => by cases hk)
  have hc1 : w1.cell? a = some (.int .u8 31) := (hw1.cell ha).trans hc
  have hz1 := hw1.size
  clear hgrow1
  replace hown1 := Lib.hid hown1
  go_loopw [3, 12] (fun v x wr => (v = .slice (some ⟨w.heap.size, 0, none⟩) 0 2 ∧ x = .int .i64 0 ∧ w1 = wr) ∨ (∃ g cap, v = .slice (some ⟨g, 0, none⟩) 2 cap ∧ x = .int .i64 1 ∧ Hid (wr.ownsRow w.heap.size 5 1 (.slice (some ⟨g, 0, none⟩) 2 cap) 2 [.int .u8 49, .int .u8 102]) ∧ Below w.heap.size w wr)) (fun _ x _ => 1 - (intOf x).toNat)
  case atStart => exact .inl ⟨rfl, rfl, rfl⟩
  case round =>
    rcases hrel with ⟨rfl, rfl, rfl⟩ | ⟨g, cap, rfl, rfl, ho, hwr⟩
    · have hand : bits .and .u8 (31 : Int) 15 = 15 := by decide
      go_wp2_with fail
      go_region_law (refine step_append_lies _ rfl (.tmp 16) (.tmp 23) 24 rfl w.heap.size 5 i0 _ 1 1 Tryz.underlying24 hi iz0 iz1 iz2 rfl (by decide) (.slice (some ⟨w.heap.size, 0, none⟩) 0 2) 0 [] evl (hown1.out.alloc _) ⟨w1.heap.size, 0, none⟩ 2 2 [.int .u8 49, .int .u8 102] evl rfl ?c1 ?c2 (by decide) ?c3 ?c4 ?c5 _ rfl ?_; (case c1 => exact World.news_of_block (cs := #[.int .u8 49, .int .u8 102]) (heap_alloc_last w1 _)); (case c2 => exact two_u8); (case c3 => (unfold maxLen; omega)); (case c4 => omega); (case c5 => (simp; omega)); intro g6 cap6 w6 hown6 hgrow6 hat6 hlt6)
      all_goals
        have hw6 : Below w.heap.size w w6 := Below.grown bel hgrow6 (by simp; omega) (fun k hk => (hown1.out.lt k hk).1)
        replace hown6 := Lib.hid hown6
        clear hgrow6 hat6
        go_wp2_with fail
        go_roundw
        case rel => exact .inr ⟨g6, cap6, rfl, by go_num, hown6, hw6⟩
        case measure => simp [intOf]
    · have hcv := conv_back [49, 102] ho.out
      go_wp2_with fail
      go_ret
      exact ⟨rfl, hwr⟩
theorem hexa1_any (x : UInt8) (hx : x.toNat < 32) (a : Addr) (c : Nat) (w : World) (ha : a.block < w.heap.size) (hc : w.cell? a = some (.int .u8 (x.toNat : Int))) : Calls Tryz.prog 248 #[.slice (some a) 1 c] w fun e w' => e = .returned (.string (bs [hexD (x.toNat / 16), hexD (x.toNat % 16)])) ∧ Below w.heap.size w w' := by
  rcases (show x.toNat = 0 ∨ x.toNat = 1 ∨ x.toNat = 2 ∨ x.toNat = 3 ∨ x.toNat = 4 ∨ x.toNat = 5 ∨ x.toNat = 6 ∨ x.toNat = 7 ∨ x.toNat = 8 ∨ x.toNat = 9 ∨ x.toNat = 10 ∨ x.toNat = 11 ∨ x.toNat = 12 ∨ x.toNat = 13 ∨ x.toNat = 14 ∨ x.toNat = 15 ∨ x.toNat = 16 ∨ x.toNat = 17 ∨ x.toNat = 18 ∨ x.toNat = 19 ∨ x.toNat = 20 ∨ x.toNat = 21 ∨ x.toNat = 22 ∨ x.toNat = 23 ∨ x.toNat = 24 ∨ x.toNat = 25 ∨ x.toNat = 26 ∨ x.toNat = 27 ∨ x.toNat = 28 ∨ x.toNat = 29 ∨ x.toNat = 30 ∨ x.toNat = 31 by omega) with h | h | h | h | h | h | h | h | h | h | h | h | h | h | h | h | h | h | h | h | h | h | h | h | h | h | h | h | h | h | h | h
  · rw [h] at hc ⊢
    exact hexa_0 a 0 c w ha hc
  · rw [h] at hc ⊢
    exact hexa_1 a 0 c w ha hc
  · rw [h] at hc ⊢
    exact hexa_2 a 0 c w ha hc
  · rw [h] at hc ⊢
    exact hexa_3 a 0 c w ha hc
  · rw [h] at hc ⊢
    exact hexa_4 a 0 c w ha hc
  · rw [h] at hc ⊢
    exact hexa_5 a 0 c w ha hc
  · rw [h] at hc ⊢
    exact hexa_6 a 0 c w ha hc
  · rw [h] at hc ⊢
    exact hexa_7 a 0 c w ha hc
  · rw [h] at hc ⊢
    exact hexa_8 a 0 c w ha hc
  · rw [h] at hc ⊢
    exact hexa_9 a 0 c w ha hc
  · rw [h] at hc ⊢
    exact hexa_10 a 0 c w ha hc
  · rw [h] at hc ⊢
    exact hexa_11 a 0 c w ha hc
  · rw [h] at hc ⊢
    exact hexa_12 a 0 c w ha hc
  · rw [h] at hc ⊢
    exact hexa_13 a 0 c w ha hc
  · rw [h] at hc ⊢
    exact hexa_14 a 0 c w ha hc
  · rw [h] at hc ⊢
    exact hexa_15 a 0 c w ha hc
  · rw [h] at hc ⊢
    exact hexa_16 a 0 c w ha hc
  · rw [h] at hc ⊢
    exact hexa_17 a 0 c w ha hc
  · rw [h] at hc ⊢
    exact hexa_18 a 0 c w ha hc
  · rw [h] at hc ⊢
    exact hexa_19 a 0 c w ha hc
  · rw [h] at hc ⊢
    exact hexa_20 a 0 c w ha hc
  · rw [h] at hc ⊢
    exact hexa_21 a 0 c w ha hc
  · rw [h] at hc ⊢
    exact hexa_22 a 0 c w ha hc
  · rw [h] at hc ⊢
    exact hexa_23 a 0 c w ha hc
  · rw [h] at hc ⊢
    exact hexa_24 a 0 c w ha hc
  · rw [h] at hc ⊢
    exact hexa_25 a 0 c w ha hc
  · rw [h] at hc ⊢
    exact hexa_26 a 0 c w ha hc
  · rw [h] at hc ⊢
    exact hexa_27 a 0 c w ha hc
  · rw [h] at hc ⊢
    exact hexa_28 a 0 c w ha hc
  · rw [h] at hc ⊢
    exact hexa_29 a 0 c w ha hc
  · rw [h] at hc ⊢
    exact hexa_30 a 0 c w ha hc
  · rw [h] at hc ⊢
    exact hexa_31 a 0 c w ha hc
end
end Go.Proofs.YtihnfhhopldllaaGreatDoor
