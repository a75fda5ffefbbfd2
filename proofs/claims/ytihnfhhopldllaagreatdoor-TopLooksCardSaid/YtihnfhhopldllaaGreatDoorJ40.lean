/- Parts of the proof of TopLooks: U84, U85, U66, U95. No condition. -/
import Derived.Test.YtihnfhhopldllaaGreatDoorJ1
import Derived.Test.YtihnfhhopldllaaGreatDoorJ12
import Derived.Test.YtihnfhhopldllaaGreatDoorJ35
import Derived.Test.YtihnfhhopldllaaGreatDoorJ37
import Derived.Test.YtihnfhhopldllaaGreatDoorJ38
namespace Go.Proofs.YtihnfhhopldllaaGreatDoor
set_option linter.unusedSimpArgs false
set_option linter.unusedVariables false
set_option maxHeartbeats 6400000
set_option maxRecDepth 100000
section
open Go.RowKit
theorem WPost.cell {w w' : World} {g : Nat} {l' : List UInt8} {v v' : Value} (h : WPost w w' g l' v v') {b i : Nat} (hb : b < w.heap.size) (hg : b ≠ g) (hr : v.ownBlock ≠ some b) : w'.cell? ⟨b, i, none⟩ = w.cell? ⟨b, i, none⟩ := World.cell?_of_block (a := ⟨b, i, none⟩) (h.keeps.2 b ⟨hg, hr⟩ hb)
theorem WPost.size {w w' : World} {g : Nat} {l' : List UInt8} {v v' : Value} (h : WPost w w' g l' v v') : w.heap.size ≤ w'.heap.size := h.below.size
theorem need_1 (w : World) : Calls Tryz.prog 133 #[.int .u64 1] w fun e w' => e = .returned (.int .i64 0) ∧ w = w' := by
  go_enter Tryz.func133, Tryz.ntmps133
  go_wp2_with fail
  go_ret
  exact ⟨rfl, rfl⟩
theorem head_5 (g : Nat) (l : List UInt8) (v : Value) (w : World) (h : Wr w g l v) (hl : l.length ≤ 100000) : Calls Tryz.prog 156 #[.pointer (some ⟨g, 0, none⟩), .int .i64 5, .int .u64 1] w fun e w' => e = .returned (.tuple #[]) ∧ ∃ v', WPost w w' g (l ++ [161]) v v' := by
  have HN := Lib.hid need_1
  have HB : Hid (Calls Tryz.prog 150 #[.pointer (some ⟨g, 0, none⟩), .int .i64 161] w fun e w' => e = .returned (.tuple #[]) ∧ ∃ v', WPost w w' g (l ++ [161]) v v') := Lib.hid (byte_w g l v 161 w h (by omega))
  have HH := Lib.hid (fun w => high_0 (.pointer (some ⟨g, 0, none⟩)) 1 w)
  clear h
  go_enter Tryz.func156, Tryz.ntmps156
  go_wp2_with fail
  with_reducible refine (HN.out _).mono ?_
  rintro e w' ⟨rfl, rfl⟩
  go_wp2_with fail
  with_reducible refine HB.out.mono ?_
  rintro e w1 ⟨rfl, v1, hp1⟩
  go_wp2_with fail
  with_reducible refine (HH.out _).mono ?_
  rintro e w' ⟨rfl, rfl⟩
  go_wp2_with fail
  refine bodyPost_end (v := .tuple #[]) (by simp [results, Tryz.results156]) rfl ?_
  exact ⟨rfl, v1, hp1⟩
theorem head_3 (g : Nat) (l : List UInt8) (v : Value) (w : World) (h : Wr w g l v) (hl : l.length ≤ 100000) : Calls Tryz.prog 156 #[.pointer (some ⟨g, 0, none⟩), .int .i64 3, .int .u64 1] w fun e w' => e = .returned (.tuple #[]) ∧ ∃ v', WPost w w' g (l ++ [97]) v v' := by
  have HN := Lib.hid need_1
  have HB : Hid (Calls Tryz.prog 150 #[.pointer (some ⟨g, 0, none⟩), .int .i64 97] w fun e w' => e = .returned (.tuple #[]) ∧ ∃ v', WPost w w' g (l ++ [97]) v v') := Lib.hid (byte_w g l v 97 w h (by omega))
  have HH := Lib.hid (fun w => high_0 (.pointer (some ⟨g, 0, none⟩)) 1 w)
  clear h
  go_enter Tryz.func156, Tryz.ntmps156
  go_wp2_with fail
  with_reducible refine (HN.out _).mono ?_
  rintro e w' ⟨rfl, rfl⟩
  go_wp2_with fail
  with_reducible refine HB.out.mono ?_
  rintro e w1 ⟨rfl, v1, hp1⟩
  go_wp2_with fail
  with_reducible refine (HH.out _).mono ?_
  rintro e w' ⟨rfl, rfl⟩
  go_wp2_with fail
  refine bodyPost_end (v := .tuple #[]) (by simp [results, Tryz.results156]) rfl ?_
  exact ⟨rfl, v1, hp1⟩
theorem head_0 (g : Nat) (l : List UInt8) (v : Value) (w : World) (h : Wr w g l v) (hl : l.length ≤ 100000) : Calls Tryz.prog 156 #[.pointer (some ⟨g, 0, none⟩), .int .i64 0, .int .u64 1] w fun e w' => e = .returned (.tuple #[]) ∧ ∃ v', WPost w w' g (l ++ [1]) v v' := by
  have HN := Lib.hid need_1
  have HB : Hid (Calls Tryz.prog 150 #[.pointer (some ⟨g, 0, none⟩), .int .i64 1] w fun e w' => e = .returned (.tuple #[]) ∧ ∃ v', WPost w w' g (l ++ [1]) v v') := Lib.hid (byte_w g l v 1 w h (by omega))
  have HH := Lib.hid (fun w => high_0 (.pointer (some ⟨g, 0, none⟩)) 1 w)
  clear h
  go_enter Tryz.func156, Tryz.ntmps156
  go_wp2_with fail
  with_reducible refine (HN.out _).mono ?_
  rintro e w' ⟨rfl, rfl⟩
  go_wp2_with fail
  with_reducible refine HB.out.mono ?_
  rintro e w1 ⟨rfl, v1, hp1⟩
  go_wp2_with fail
  with_reducible refine (HH.out _).mono ?_
  rintro e w' ⟨rfl, rfl⟩
  go_wp2_with fail
  refine bodyPost_end (v := .tuple #[]) (by simp [results, Tryz.results156]) rfl ?_
  exact ⟨rfl, v1, hp1⟩
theorem lay_U (g : Nat) (l : List UInt8) (v : Value) (w : World) (h : Wr w g l v) (hl : l.length ≤ 100000) : Calls Tryz.prog 94 #[.pointer (some ⟨g, 0, none⟩), .agg #[.int .i64 1, .int .u64 1, .slice none 0 0, .string { data := #[] }, .slice none 0 0]] w fun e w' => e = .returned (.tuple #[]) ∧ ∃ v', WPost w w' g (l ++ [1]) v v' := by
  have HH := Lib.hid (fun w h => head_0 g l v w h hl)
  have HW := Lib.hid h
  have hg := h.lt
  have hrow := h.row
  have hgn : g ≠ w.heap.size := by omega
  clear h
  go_enter Tryz.func94, Tryz.ntmps94
  go_wp2_with fail
  have HA := HW.out.beyond ((Below.refl _ _).alloc (Nat.le_refl _) (.cells #[.int .i64 1, .int .u64 1, .slice none 0 0, .string { data := #[] }, .slice none 0 0] 96))
  with_reducible refine (HH.out _ HA).mono ?_
  rintro e w1 ⟨rfl, v1, hp1⟩
  have c1_0 : w1.cell? ⟨w.heap.size, 0, none⟩ = some (.int .i64 1) := (hp1.cell (b := w.heap.size) (i := 0) (by simp) (by omega) (fun e => by have := hrow _ e; omega)).trans (by simp [go_sem])
  have c1_1 : w1.cell? ⟨w.heap.size, 1, none⟩ = some (.int .u64 1) := (hp1.cell (b := w.heap.size) (i := 1) (by simp) (by omega) (fun e => by have := hrow _ e; omega)).trans (by simp [go_sem])
  have c1_2 : w1.cell? ⟨w.heap.size, 2, none⟩ = some (.slice none 0 0) := (hp1.cell (b := w.heap.size) (i := 2) (by simp) (by omega) (fun e => by have := hrow _ e; omega)).trans (by simp [go_sem])
  have c1_3 : w1.cell? ⟨w.heap.size, 3, none⟩ = some (.string { data := #[] }) := (hp1.cell (b := w.heap.size) (i := 3) (by simp) (by omega) (fun e => by have := hrow _ e; omega)).trans (by simp [go_sem])
  have c1_4 : w1.cell? ⟨w.heap.size, 4, none⟩ = some (.slice none 0 0) := (hp1.cell (b := w.heap.size) (i := 4) (by simp) (by omega) (fun e => by have := hrow _ e; omega)).trans (by simp [go_sem])
  have hz1 : w.heap.size < w1.heap.size := by have := hp1.size; simp at this; omega
  go_wp2_with fail
  refine wp_loop_rounds 1 ?_
  rw [rounds_succ]
  go_wp2_with fail
  refine bodyPost_end (v := .tuple #[]) (by simp [results, Tryz.results94]) rfl ?_
  exact ⟨rfl, v1, WPost.before ((Below.refl _ _).alloc (Nat.le_refl _) _) HW.out hp1⟩
theorem lay_T (g : Nat) (l : List UInt8) (v : Value) (w : World) (h : Wr w g l v) (hl : l.length ≤ 100000) : Calls Tryz.prog 94 #[.pointer (some ⟨g, 0, none⟩), .agg #[.int .i64 4, .int .u64 0, .slice none 0 0, .string { data := #[97] }, .slice none 0 0]] w fun e w' => e = .returned (.tuple #[]) ∧ ∃ v', WPost w w' g (l ++ [97, 97]) v v' := by
  have HH := Lib.hid (fun w h => head_3 g l v w h hl)
  have HR := Lib.hid (fun b c v w h hB => raw_w g b 1 c (l ++ [97]) [97] rfl (by decide) (by decide) v w h (by simp; omega) hB)
  have hcv0 : ∀ w, (convert 9 24 (.string { data := #[97] })).run Tryz.prog w = .ok (.slice (some ⟨w.heap.size, 0, none⟩) 1 (cvC (bs [97]) w)) (cvW (bs [97]) w) := fun w => cv_run (bs [97]) w
  have HW := Lib.hid h
  have hg := h.lt
  have hrow := h.row
  have hgn : g ≠ w.heap.size := by omega
  clear h
  go_enter Tryz.func94, Tryz.ntmps94
  go_wp2_with fail
  have HA := HW.out.beyond ((Below.refl _ _).alloc (Nat.le_refl _) (.cells #[.int .i64 4, .int .u64 0, .slice none 0 0, .string { data := #[97] }, .slice none 0 0] 96))
  with_reducible refine (HH.out _ HA).mono ?_
  rintro e w1 ⟨rfl, v1, hp1⟩
  have c1_0 : w1.cell? ⟨w.heap.size, 0, none⟩ = some (.int .i64 4) := (hp1.cell (b := w.heap.size) (i := 0) (by simp) (by omega) (fun e => by have := hrow _ e; omega)).trans (by simp [go_sem])
  have c1_1 : w1.cell? ⟨w.heap.size, 1, none⟩ = some (.int .u64 0) := (hp1.cell (b := w.heap.size) (i := 1) (by simp) (by omega) (fun e => by have := hrow _ e; omega)).trans (by simp [go_sem])
  have c1_2 : w1.cell? ⟨w.heap.size, 2, none⟩ = some (.slice none 0 0) := (hp1.cell (b := w.heap.size) (i := 2) (by simp) (by omega) (fun e => by have := hrow _ e; omega)).trans (by simp [go_sem])
  have c1_3 : w1.cell? ⟨w.heap.size, 3, none⟩ = some (.string { data := #[97] }) := (hp1.cell (b := w.heap.size) (i := 3) (by simp) (by omega) (fun e => by have := hrow _ e; omega)).trans (by simp [go_sem])
  have c1_4 : w1.cell? ⟨w.heap.size, 4, none⟩ = some (.slice none 0 0) := (hp1.cell (b := w.heap.size) (i := 4) (by simp) (by omega) (fun e => by have := hrow _ e; omega)).trans (by simp [go_sem])
  have hz1 : w.heap.size < w1.heap.size := by have := hp1.size; simp at this; omega
  have hcv := hcv0 w1
  have hcb := cv_below (bs [97]) w1
  have hcs := cv_bs [97] w1
  have hcw := hp1.wr.beyond hcb
  clear hcv0
  go_wp2_with fail
  with_reducible refine (HR.out _ _ _ _ hcw hcs).mono ?_
  rintro e w2 ⟨rfl, v2, hp2⟩
  have hp12 := (hp1.after hcb).trans hp2
  have c2_0 : w2.cell? ⟨w.heap.size, 0, none⟩ = some (.int .i64 4) := (hp12.cell (b := w.heap.size) (i := 0) (by simp) (by omega) (fun e => by have := hrow _ e; omega)).trans (by simp [go_sem])
  have c2_1 : w2.cell? ⟨w.heap.size, 1, none⟩ = some (.int .u64 0) := (hp12.cell (b := w.heap.size) (i := 1) (by simp) (by omega) (fun e => by have := hrow _ e; omega)).trans (by simp [go_sem])
  have c2_2 : w2.cell? ⟨w.heap.size, 2, none⟩ = some (.slice none 0 0) := (hp12.cell (b := w.heap.size) (i := 2) (by simp) (by omega) (fun e => by have := hrow _ e; omega)).trans (by simp [go_sem])
  have c2_3 : w2.cell? ⟨w.heap.size, 3, none⟩ = some (.string { data := #[97] }) := (hp12.cell (b := w.heap.size) (i := 3) (by simp) (by omega) (fun e => by have := hrow _ e; omega)).trans (by simp [go_sem])
  have c2_4 : w2.cell? ⟨w.heap.size, 4, none⟩ = some (.slice none 0 0) := (hp12.cell (b := w.heap.size) (i := 4) (by simp) (by omega) (fun e => by have := hrow _ e; omega)).trans (by simp [go_sem])
  have hz2 : w.heap.size < w2.heap.size := by have := hp12.size; simp at this; omega
  clear hcv hcb hcs hcw hp2
  go_wp2_with fail
  refine wp_loop_rounds 1 ?_
  rw [rounds_succ]
  go_wp2_with fail
  refine bodyPost_end (v := .tuple #[]) (by simp [results, Tryz.results94]) rfl ?_
  refine ⟨rfl, v2, ?_⟩
  have h := WPost.before ((Below.refl _ _).alloc (Nat.le_refl _) _) HW.out hp12
  rw [List.append_assoc] at h
  exact h
theorem lay_M (gi c : Nat) (g : Nat) (l : List UInt8) (v : Value) (w : World) (hgi : gi < g) (h : Wr w g l v) (hl : l.length ≤ 99990) (hI : ItM w gi) : Calls Tryz.prog 94 #[.pointer (some ⟨g, 0, none⟩), .agg #[.int .i64 6, .int .u64 0, .slice none 0 0, .string { data := #[] }, .slice (some ⟨gi, 0, none⟩) 2 c]] w fun e w' => e = .returned (.tuple #[]) ∧ ∃ v', WPost w w' g (l ++ [161, 97, 97, 1]) v v' := by
  have HH := Lib.hid (fun w h => head_5 g l v w h (by omega))
  have HT := Lib.hid (fun v w h => lay_T g (l ++ [161]) v w h (by simp; omega))
  have HU := Lib.hid (fun v w h => lay_U g (l ++ [161] ++ [97, 97]) v w h (by simp; omega))
  have HI := Lib.hid hI
  clear hI
  have HW := Lib.hid h
  have hg := h.lt
  have hrow := h.row
  have hgn : g ≠ w.heap.size := by omega
  clear h
  go_enter Tryz.func94, Tryz.ntmps94
  go_wp2_with fail
  have HA := HW.out.beyond ((Below.refl _ _).alloc (Nat.le_refl _) (.cells #[.int .i64 6, .int .u64 0, .slice none 0 0, .string { data := #[] }, .slice (some ⟨gi, 0, none⟩) 2 c] 96))
  have HIA := HI.out.beyond ((Below.refl _ _).alloc (Nat.le_refl _) (.cells #[.int .i64 6, .int .u64 0, .slice none 0 0, .string { data := #[] }, .slice (some ⟨gi, 0, none⟩) 2 c] 96))
  with_reducible refine (HH.out _ HA).mono ?_
  rintro e w1 ⟨rfl, v1, hp1⟩
  have c1_0 : w1.cell? ⟨w.heap.size, 0, none⟩ = some (.int .i64 6) := (hp1.cell (b := w.heap.size) (i := 0) (by simp) (by omega) (fun e => by have := hrow _ e; omega)).trans (by simp [go_sem])
  have c1_1 : w1.cell? ⟨w.heap.size, 1, none⟩ = some (.int .u64 0) := (hp1.cell (b := w.heap.size) (i := 1) (by simp) (by omega) (fun e => by have := hrow _ e; omega)).trans (by simp [go_sem])
  have c1_2 : w1.cell? ⟨w.heap.size, 2, none⟩ = some (.slice none 0 0) := (hp1.cell (b := w.heap.size) (i := 2) (by simp) (by omega) (fun e => by have := hrow _ e; omega)).trans (by simp [go_sem])
  have c1_3 : w1.cell? ⟨w.heap.size, 3, none⟩ = some (.string { data := #[] }) := (hp1.cell (b := w.heap.size) (i := 3) (by simp) (by omega) (fun e => by have := hrow _ e; omega)).trans (by simp [go_sem])
  have c1_4 : w1.cell? ⟨w.heap.size, 4, none⟩ = some (.slice (some ⟨gi, 0, none⟩) 2 c) := (hp1.cell (b := w.heap.size) (i := 4) (by simp) (by omega) (fun e => by have := hrow _ e; omega)).trans (by simp [go_sem])
  have hz1 : w.heap.size < w1.heap.size := by have := hp1.size; simp at this; omega
  have i1_0 : w1.cell? ⟨gi, 0, none⟩ = some (.int .i64 4) := (hp1.below.cell (p := ⟨gi, 0, none⟩) hgi).trans (HIA.2 0 _ rfl)
  have i1_1 : w1.cell? ⟨gi, 1, none⟩ = some (.int .u64 0) := (hp1.below.cell (p := ⟨gi, 1, none⟩) hgi).trans (HIA.2 1 _ rfl)
  have i1_2 : w1.cell? ⟨gi, 2, none⟩ = some (.slice none 0 0) := (hp1.below.cell (p := ⟨gi, 2, none⟩) hgi).trans (HIA.2 2 _ rfl)
  have i1_3 : w1.cell? ⟨gi, 3, none⟩ = some (.string { data := #[97] }) := (hp1.below.cell (p := ⟨gi, 3, none⟩) hgi).trans (HIA.2 3 _ rfl)
  have i1_4 : w1.cell? ⟨gi, 4, none⟩ = some (.slice none 0 0) := (hp1.below.cell (p := ⟨gi, 4, none⟩) hgi).trans (HIA.2 4 _ rfl)
  have hgi1 : gi < w1.heap.size := by omega
  go_wp2_with fail
  refine wp_loop_rounds 4 ?_
  rw [rounds_succ]
  go_wp2_with fail
  have HA1 := hp1.wr.beyond ((Below.refl _ _).alloc (Nat.le_refl _) (.cells #[.int .i64 4, .int .u64 0, .slice none 0 0, .string { data := #[97] }, .slice none 0 0] 96))
  with_reducible refine (HT.out _ _ HA1).mono ?_
  rintro e w2 ⟨rfl, v2, hp2'⟩
  have hp2 := hp1.trans (WPost.before ((Below.refl _ _).alloc (Nat.le_refl _) _) hp1.wr hp2')
  clear hp2' HA1
  have i2_0 : w2.cell? ⟨gi, 5, none⟩ = some (.int .i64 1) := (hp2.below.cell (p := ⟨gi, 5, none⟩) hgi).trans (HIA.2 5 _ rfl)
  have i2_1 : w2.cell? ⟨gi, 6, none⟩ = some (.int .u64 1) := (hp2.below.cell (p := ⟨gi, 6, none⟩) hgi).trans (HIA.2 6 _ rfl)
  have i2_2 : w2.cell? ⟨gi, 7, none⟩ = some (.slice none 0 0) := (hp2.below.cell (p := ⟨gi, 7, none⟩) hgi).trans (HIA.2 7 _ rfl)
  have i2_3 : w2.cell? ⟨gi, 8, none⟩ = some (.string { data := #[] }) := (hp2.below.cell (p := ⟨gi, 8, none⟩) hgi).trans (HIA.2 8 _ rfl)
  have i2_4 : w2.cell? ⟨gi, 9, none⟩ = some (.slice none 0 0) := (hp2.below.cell (p := ⟨gi, 9, none⟩) hgi).trans (HIA.2 9 _ rfl)
  have hz2 : w.heap.size < w2.heap.size := by have := hp2.size; simp at this; omega
  go_wp2_with fail
  rw [rounds_succ]
  go_wp2_with fail
  have HA2 := hp2.wr.beyond ((Below.refl _ _).alloc (Nat.le_refl _) (.cells #[.int .i64 1, .int .u64 1, .slice none 0 0, .string { data := #[] }, .slice none 0 0] 96))
  with_reducible refine (HU.out _ _ HA2).mono ?_
  rintro e w3 ⟨rfl, v3, hp3'⟩
  have hp3 := hp2.trans (WPost.before ((Below.refl _ _).alloc (Nat.le_refl _) _) hp2.wr hp3')
  clear hp3' HA2
  go_wp2_with fail
  rw [rounds_succ]
  go_wp2_with fail
  refine bodyPost_end (v := .tuple #[]) (by simp [results, Tryz.results94]) rfl ?_
  refine ⟨rfl, v3, ?_⟩
  have h := WPost.before ((Below.refl _ _).alloc (Nat.le_refl _) _) HW.out hp3
  rw [List.append_assoc, List.append_assoc] at h
  exact h
def cborL : List UInt8 := [161, 97, 97, 1]
theorem encode_c (gi c : Nat) (w : World) (hI : ItM w gi) : Calls Tryz.prog 50 #[.agg #[.int .i64 6, .int .u64 0, .slice none 0 0, .string { data := #[] }, .slice (some ⟨gi, 0, none⟩) 2 c]] w fun e w' => (∃ b c, e = .returned (.tuple #[.slice (some ⟨b, 0, none⟩) 4 c, .int .i64 0]) ∧ Bs w' b 0 cborL ∧ w.heap.size ≤ b) ∧ Below w.heap.size w w' := by
  have HC := Lib.hid (fun w h => ccheck_M gi c w h)
  have HL := Lib.hid lay_w
  have HM := Lib.hid (fun g v w hg h hI => lay_M gi c g [] v w hg h (by decide) hI)
  have HB : Hid (∀ g v w, Wr w g [161, 97, 97, 1] v → Calls Tryz.prog 92 #[.pointer (some ⟨g, 0, none⟩)] w fun e w' => (∃ b c, e = .returned (.slice (some ⟨b, 0, none⟩) 4 c) ∧ Bs w' b 0 [161, 97, 97, 1] ∧ w.heap.size ≤ b) ∧ Below w.heap.size w w') := Lib.hid (fun g v w h => bytes_w g [161, 97, 97, 1] (by decide) (by decide) v w h)
  have HI := Lib.hid hI
  have hgi := hI.1
  clear hI
  go_enter Tryz.func50, Tryz.ntmps50
  go_wp2_with fail
  with_reducible refine (HC.out _ ?i1).mono ?_
  case i1 => exact HI.out.beyond bel
  rintro e w1 ⟨rfl, hb1⟩
  have c1_0 := cB hb1 w.heap.size 0 (.int .i64 6)
  have c1_1 := cB hb1 w.heap.size 1 (.int .u64 0)
  have c1_2 := cB hb1 w.heap.size 2 (.slice none 0 0)
  have c1_3 := cB hb1 w.heap.size 3 (.string { data := #[] })
  have c1_4 := cB hb1 w.heap.size 4 (.slice (some ⟨gi, 0, none⟩) 2 c)
  have hl1_0 := ltB hb1 w.heap.size
  have hw1 := bwB hb1 w.heap.size w
  have hz1 := hw1.size
  clear hb1
  go_wp2_with fail
  with_reducible refine (HL.out _).mono ?_
  rintro e w2 ⟨⟨g, rfl, hge, hwr⟩, hb2⟩
  have c2_0 := (hb2.cell (p := ⟨w.heap.size, 0, none⟩) hl1_0).trans c1_0
  have c2_1 := (hb2.cell (p := ⟨w.heap.size, 1, none⟩) hl1_0).trans c1_1
  have c2_2 := (hb2.cell (p := ⟨w.heap.size, 2, none⟩) hl1_0).trans c1_2
  have c2_3 := (hb2.cell (p := ⟨w.heap.size, 3, none⟩) hl1_0).trans c1_3
  have c2_4 := (hb2.cell (p := ⟨w.heap.size, 4, none⟩) hl1_0).trans c1_4
  have hw2 := hw1.trans (hb2.mono hz1)
  have hg2 : w.heap.size < g := by omega
  have hg3 : gi < g := by omega
  clear hge
  have hlt2 : w.heap.size < w2.heap.size := by have := hb2.size; omega
  go_wp2_with fail
  with_reducible refine (HM.out _ _ _ ?g1 hwr ?g2).mono ?_
  case g1 => exact hg3
  case g2 => exact HI.out.beyond hw2
  rintro e w3 ⟨rfl, v3, hp3⟩
  have hw3 : Below w.heap.size w w3 := hw2.trans (hp3.below.mono (by omega))
  clear hb2 hwr
  go_wp2_with fail
  with_reducible refine (HB.out _ _ _ hp3.wr).mono ?_
  rintro e w4 ⟨⟨b4, c4, rfl, hbs, hlb⟩, hb4⟩
  go_wp2_with fail
  go_ret2
  exact ⟨⟨b4, c4, rfl, hbs, by have := hw3.size; omega⟩, hw3.trans (hb4.mono hw3.size)⟩
end
section
open Go.RowKit
theorem Rdr.byte {w : World} {g g2 c k : Nat} (h : Rdr w g g2 4 c k) (hB : Bs w g2 0 cborL) : g2 < w.heap.size := hB.1
structure RdC (w : World) (g g2 c k : Nat) : Prop where
  rd : Rdr w g g2 4 c k
  bs : Bs w g2 0 cborL
  ne : g2 < g
  cap : 4 ≤ c
theorem RdC.beyond {w w' : World} {g g2 c k : Nat} (h : RdC w g g2 c k) (hb : Below w.heap.size w w') : RdC w' g g2 c k := ⟨h.rd.beyond hb, h.bs.beyond hb, h.ne, h.cap⟩
theorem RdC.keeps {w w' : World} {g g2 c k : Nat} (h : RdC w g g2 c k) (hk : Keeps (fun b => b = g ∨ b = g2) w w') : RdC w' g g2 c k := ⟨(hk.2 g (.inl rfl) h.rd.lt).trans h.rd, ⟨Nat.lt_of_lt_of_le h.bs.1 hk.1, fun j x hj => (World.cell?_of_block (a := ⟨g2, 0 + j, none⟩) (hk.2 g2 (.inr rfl) h.bs.1)).trans (h.bs.2 j x hj)⟩, h.ne, h.cap⟩
theorem RdC.grown {w w' : World} {g g2 c k k' : Nat} (h : RdC w g g2 c k) (hr : Rdr w' g g2 4 c k') (hg : w.grownBy w' (some g)) : RdC w' g g2 c k' := ⟨hr, ⟨Nat.lt_of_lt_of_le h.bs.1 hg.size, fun j x hj => (grown_cell hg h.bs.1 (by have := h.ne; omega)).trans (h.bs.2 j x hj)⟩, h.ne, h.cap⟩
theorem at_0 (g g2 c : Nat) (w : World) (h : RdC w g g2 c 0) : Calls Tryz.prog 81 #[.pointer (some ⟨g, 0, none⟩)] w fun e w' => e = .returned (.int .i64 0) ∧ w = w' := by
  obtain ⟨h0, h1, hf⟩ := h.rd.cells
  have h1 : w.cell? ⟨g, 1, none⟩ = some (.int .i64 0) := h1
  clear h
  go_enter Tryz.func81, Tryz.ntmps81
  go_wp2_with fail
  go_ret
  exact ⟨rfl, rfl⟩
theorem at_1 (g g2 c : Nat) (w : World) (h : RdC w g g2 c 1) : Calls Tryz.prog 81 #[.pointer (some ⟨g, 0, none⟩)] w fun e w' => e = .returned (.int .i64 1) ∧ w = w' := by
  obtain ⟨h0, h1, hf⟩ := h.rd.cells
  have h1 : w.cell? ⟨g, 1, none⟩ = some (.int .i64 1) := h1
  clear h
  go_enter Tryz.func81, Tryz.ntmps81
  go_wp2_with fail
  go_ret
  exact ⟨rfl, rfl⟩
theorem at_3 (g g2 c : Nat) (w : World) (h : RdC w g g2 c 3) : Calls Tryz.prog 81 #[.pointer (some ⟨g, 0, none⟩)] w fun e w' => e = .returned (.int .i64 3) ∧ w = w' := by
  obtain ⟨h0, h1, hf⟩ := h.rd.cells
  have h1 : w.cell? ⟨g, 1, none⟩ = some (.int .i64 3) := h1
  clear h
  go_enter Tryz.func81, Tryz.ntmps81
  go_wp2_with fail
  go_ret
  exact ⟨rfl, rfl⟩
theorem rbyte_0 (g g2 c : Nat) (w : World) (h : RdC w g g2 c 0) : Calls Tryz.prog 131 #[.pointer (some ⟨g, 0, none⟩)] w fun e w' => e = .returned (.tuple #[.int .i64 161, .bool true]) ∧ RdC w' g g2 c 1 ∧ w.grownBy w' (some g) := by
  obtain ⟨h0, h1, hf⟩ := h.rd.cells
  have h1 : w.cell? ⟨g, 1, none⟩ = some (.int .i64 0) := h1
  have hby : w.cell? ⟨g2, 0, none⟩ = some (.int .u8 161) := h.bs.2 0 161 rfl
  have hg := h.rd.lt
  have hn := h.ne
  have hn1 : g2 ≠ g := by omega
  have hn2 : g ≠ g2 := by omega
  have hc := h.cap
  have HR := Lib.hid h
  clear h
  go_enter Tryz.func131, Tryz.ntmps131
  go_wp2_with fail
  go_region
  go_wp2_with fail
  go_upto_region 4 with fail
  go_region
  all_goals
    go_wp2_with fail
    go_ret2
    have hgr : w.grownBy ((w.setCell ⟨g, 1, none⟩ (.int .i64 1)).drew.drew) (some g) := grown_drew (grown_drew (grown_set (grown_refl _ _) (by dsimp only; omega) _))
    have hrr : Rdr ((w.setCell ⟨g, 1, none⟩ (.int .i64 1)).drew.drew) g g2 4 c 1 := (HR.out.rd.set 1).drew.drew
    exact ⟨rfl, HR.out.grown hrr hgr, hgr⟩
theorem rbyte_1 (g g2 c : Nat) (w : World) (h : RdC w g g2 c 1) : Calls Tryz.prog 131 #[.pointer (some ⟨g, 0, none⟩)] w fun e w' => e = .returned (.tuple #[.int .i64 97, .bool true]) ∧ RdC w' g g2 c 2 ∧ w.grownBy w' (some g) := by
  obtain ⟨h0, h1, hf⟩ := h.rd.cells
  have h1 : w.cell? ⟨g, 1, none⟩ = some (.int .i64 1) := h1
  have hby : w.cell? ⟨g2, 1, none⟩ = some (.int .u8 97) := h.bs.2 1 97 rfl
  have hg := h.rd.lt
  have hn := h.ne
  have hn1 : g2 ≠ g := by omega
  have hn2 : g ≠ g2 := by omega
  have hc := h.cap
  have HR := Lib.hid h
  clear h
  go_enter Tryz.func131, Tryz.ntmps131
  go_wp2_with fail
  go_region
  go_wp2_with fail
  go_upto_region 4 with fail
  go_region
  all_goals
    go_wp2_with fail
    go_ret2
    have hgr : w.grownBy ((w.setCell ⟨g, 1, none⟩ (.int .i64 2)).drew.drew) (some g) := grown_drew (grown_drew (grown_set (grown_refl _ _) (by dsimp only; omega) _))
    have hrr : Rdr ((w.setCell ⟨g, 1, none⟩ (.int .i64 2)).drew.drew) g g2 4 c 2 := (HR.out.rd.set 2).drew.drew
    exact ⟨rfl, HR.out.grown hrr hgr, hgr⟩
theorem rbyte_3 (g g2 c : Nat) (w : World) (h : RdC w g g2 c 3) : Calls Tryz.prog 131 #[.pointer (some ⟨g, 0, none⟩)] w fun e w' => e = .returned (.tuple #[.int .i64 1, .bool true]) ∧ RdC w' g g2 c 4 ∧ w.grownBy w' (some g) := by
  obtain ⟨h0, h1, hf⟩ := h.rd.cells
  have h1 : w.cell? ⟨g, 1, none⟩ = some (.int .i64 3) := h1
  have hby : w.cell? ⟨g2, 3, none⟩ = some (.int .u8 1) := h.bs.2 3 1 rfl
  have hg := h.rd.lt
  have hn := h.ne
  have hn1 : g2 ≠ g := by omega
  have hn2 : g ≠ g2 := by omega
  have hc := h.cap
  have HR := Lib.hid h
  clear h
  go_enter Tryz.func131, Tryz.ntmps131
  go_wp2_with fail
  go_region
  go_wp2_with fail
  go_upto_region 4 with fail
  go_region
  all_goals
    go_wp2_with fail
    go_ret2
    have hgr : w.grownBy ((w.setCell ⟨g, 1, none⟩ (.int .i64 4)).drew.drew) (some g) := grown_drew (grown_drew (grown_set (grown_refl _ _) (by dsimp only; omega) _))
    have hrr : Rdr ((w.setCell ⟨g, 1, none⟩ (.int .i64 4)).drew.drew) g g2 4 c 4 := (HR.out.rd.set 4).drew.drew
    exact ⟨rfl, HR.out.grown hrr hgr, hgr⟩
theorem take_1 (g g2 c : Nat) (w : World) (h : RdC w g g2 c 2) : Calls Tryz.prog 126 #[.pointer (some ⟨g, 0, none⟩), .int .i64 1] w fun e w' => (∃ b c2, e = .returned (.tuple #[.slice (some ⟨b, 0, none⟩) 1 c2, .bool true]) ∧ Bs w' b 0 [97] ∧ w.heap.size ≤ b) ∧ RdC w' g g2 c 3 ∧ w.grownBy w' (some g) := by
  have HL : Hid (∀ w, Rdr w g g2 4 c 2 → Calls Tryz.prog 80 #[.pointer (some ⟨g, 0, none⟩)] w fun e w' => e = .returned (.int .i64 2) ∧ Below w.heap.size w w') := Lib.hid (fun w h => left_any g g2 4 c 2 (by decide) (by decide) w h)
  have HC := Lib.hid (fun c2 w (h : Bs w g2 2 [97]) => clone_b g2 2 1 c2 (cel [97]) w rfl (by decide) h.news (cel_one _))
  have HR := Lib.hid h
  have hg := h.rd.lt
  have hn := h.ne
  have hc := h.cap
  clear h
  go_enter Tryz.func126, Tryz.ntmps126
  go_wp2_with fail
  with_reducible refine (HL.out _ HR.out.rd).mono ?_
  rintro e w1 ⟨rfl, hb1⟩
  have HR1 := Lib.hid (HR.out.beyond hb1)
  obtain ⟨h0, h1, hf⟩ := HR1.out.rd.cells
  have h1 : w1.cell? ⟨g, 1, none⟩ = some (.int .i64 2) := h1
  have hg1 := HR1.out.rd.lt
  go_upto_region 4 with fail
  obtain ⟨y, hy⟩ : ∃ X, X = w1.setCell ⟨g, 1, none⟩ (.int .i64 3) := ⟨_, rfl⟩
  rw [← hy]
  have hgy : w.grownBy y (some g) := by
    rw [hy]
    exact grown_set (grown_below hb1 _) (by dsimp only; omega) _
  have hry : Rdr y g g2 4 c 3 := by
    rw [hy]
    exact HR1.out.rd.set 3
  have HY := Lib.hid (HR.out.grown hry hgy)
  have HB := Lib.hid (show Bs y g2 2 [97] from (HY.out.bs.drop 2).take 1)
  obtain ⟨y0, y1, yf⟩ := HY.out.rd.cells
  have y1 : y.cell? ⟨g, 1, none⟩ = some (.int .i64 3) := y1
  clear hy
  go_region_held_law (fun W => W.cell? ⟨g, 0, none⟩ = some (.slice (some ⟨g2, 0, none⟩) 4 c) ∧ W.cell? ⟨g, 1, none⟩ = some (.int .i64 3)) ((refine ⟨?_, ?_⟩; all_goals first | assumption | (simp [go_sem]; done))) ((go_at_call 30; (refine (HC.out _ _ ?t1).mono ?_; (case t1 => first | exact HB.out | exact HB.out.drew); rintro e w2 ⟨v', rfl, hown, hnn, hb2⟩); have hy2 : Below y.heap.size y w2 := Below.trans bel (hb2.mono (by first | exact Nat.le_refl _ | (simp; done) | (simp; omega))); have d0 := (hy2.cell (p := ⟨g, 0, none⟩) (by have := HY.out.rd.lt; dsimp only; omega)).trans y0; have d1 := (hy2.cell (p := ⟨g, 1, none⟩) (by have := HY.out.rd.lt; dsimp only; omega)).trans y1))
  go_wp2_with fail
  rcases hown.2 with ⟨rfl, _⟩ | ⟨g3, cap, cur, rfl, hg2, hgx, _⟩
  · exact absurd rfl hnn
  · have hB2 := Lib.hid (Bs.own hown).1
    have hgw : w.heap.size ≤ g3 := Nat.le_trans hgy.size hg2
    clear hown hgx hnn
    go_wp2_with fail
    go_ret2
    exact ⟨⟨g3, cap, rfl, hB2.out, hgw⟩, HY.out.beyond hy2, grown_trans hgy (grown_below hy2 _)⟩
end
section
open Go.RowKit
theorem diff_any (k : Nat) (t : Ro) (hk : k ≤ 900) (hd : Dk k t) (Q Q2 : Nat → Prop) (w : World) (v v2 : Value) (h : Is .V Q w k t v) (h2 : Is .V Q2 w k t v2) :
    Calls Tryz.prog 41 #[v, v2] w fun e w' => e = .returned (.tuple #[.slice none 0 0, .bool true]) ∧ Below w.heap.size w w' := by
  have HD : Hid (∀ w', Below w.heap.size w w' → Calls Tryz.prog 71 #[.slice none 0 0, v, v2, .slice none 0 0] w' fun e w'' => e = .returned (.tuple #[.slice none 0 0, .bool true]) ∧ Below w'.heap.size w' w'') := Lib.hid (fun w' hb => (df_any k t 0 hd Q Q2 w' v v2 (.slice none 0 0) 0 (h.beyond hb) (h2.beyond hb) (Pa.nil _ _ _) (by omega) (Nat.zero_le _) (fun b _ _ e => by cases e) (fun b _ _ e => by cases e)).mono (fun e w'' h => ⟨h.1, below_grown h.2.1⟩))
  obtain ⟨bd, bc, ad, c, rfl⟩ := h.form
  obtain ⟨bd2, bc2, ad2, c2, rfl⟩ := h2.form
  clear h h2 hd
  generalize t.o.kind = O1 at *
  generalize t.o.bits = O2 at *
  generalize t.o.high = O3 at *
  generalize t.o.low = O4 at *
  generalize bs t.o.text = O5 at *
  generalize bs t.o.more = O6 at *
  generalize t.o.sub = O7 at *
  generalize t.o.bytes.length = O8 at *
  generalize t.kids.length = O9 at *
  go_enter Tryz.func41, Tryz.ntmps41
  go_wp2_with fail
  with_reducible refine (HD.out _ bel).mono ?_
  rintro e w1 ⟨rfl, hb1⟩
  have hw1 := bwB hb1 w.heap.size w
  clear hb1
  go_wp2_with fail
  go_ret2
  exact ⟨rfl, hw1⟩
theorem loss_any (k : Nat) (t : Ro) (hk : k ≤ 900) (hd : Dk k t) (Q : Nat → Prop) (w : World) (v : Value) (h : Is .V Q w k t v) :
    Calls Tryz.prog 20 #[v] w fun e w' => e = .returned (.slice none 0 0) ∧ Below w.heap.size w w' := by
  have HD := Lib.hid (fun (Q2 : Nat → Prop) w v v2 h1 h2 => diff_any k t hk hd Q Q2 w v v2 h1 h2)
  have HF := Lib.hid (fun (Q : Nat → Prop) w v (h : Is .V Q w k t v) => h.form)
  have HT : Hid (∀ w, Is .V Q w k t v → Calls Tryz.prog 14 #[v] w fun e w' => (∃ x, e = .returned x ∧ Is .V (fun b => w.heap.size ≤ b) w' k t x) ∧ Below w.heap.size w w') := Lib.hid (fun w h => tu_any k t hd Q w v h)
  have HK := Lib.hid h
  obtain ⟨bd, bc, ad, c, rfl⟩ := h.form
  clear h hd
  generalize t.o.kind = O1 at *
  generalize t.o.bits = O2 at *
  generalize t.o.high = O3 at *
  generalize t.o.low = O4 at *
  generalize bs t.o.text = O5 at *
  generalize bs t.o.more = O6 at *
  generalize t.o.sub = O7 at *
  generalize t.o.bytes.length = O8 at *
  generalize t.kids.length = O9 at *
  go_enter Tryz.func20, Tryz.ntmps20
  go_wp2_with fail
  go_region_held_law (fun W => W.cell? ⟨w.heap.size, 0, none⟩ = some (.int .i64 O1) ∧ W.cell? ⟨w.heap.size, 1, none⟩ = some (.int .u64 O2) ∧ W.cell? ⟨w.heap.size, 2, none⟩ = some (.int .u64 O3) ∧ W.cell? ⟨w.heap.size, 3, none⟩ = some (.int .u64 O4) ∧ W.cell? ⟨w.heap.size, 4, none⟩ = some (.string O5) ∧ W.cell? ⟨w.heap.size, 5, none⟩ = some (.string O6) ∧ W.cell? ⟨w.heap.size, 6, none⟩ = some (.int .i64 O7) ∧ W.cell? ⟨w.heap.size, 7, none⟩ = some (.slice bd O8 bc) ∧ W.cell? ⟨w.heap.size, 8, none⟩ = some (.slice ad O9 c)) ((refine ⟨?_, ?_, ?_, ?_, ?_, ?_, ?_, ?_, ?_⟩; all_goals first | assumption | (simp [go_sem]; done))) (first | (go_at_call 14; go_loud (refine (HT.out _ ?t1).mono ?_; (case t1 => exact HK.out.beyond bel); rintro e w1 ⟨⟨x, rfl, hx⟩, hb1⟩); obtain ⟨bd2, bc2, ad2, c2, rfl⟩ := HF.out _ _ _ hx; have HX := Lib.hid hx; clear hx; have hw1 := bwB hb1 w.heap.size w; have hz1 := hw1.size; have hl1 : w.heap.size < w1.heap.size := (by have := hb1.size; simp at this; omega); have d1_0 := cB hb1 w.heap.size 0 (.int .i64 O1); have d1_1 := cB hb1 w.heap.size 1 (.int .u64 O2); have d1_2 := cB hb1 w.heap.size 2 (.int .u64 O3); have d1_3 := cB hb1 w.heap.size 3 (.int .u64 O4); have d1_4 := cB hb1 w.heap.size 4 (.string O5); have d1_5 := cB hb1 w.heap.size 5 (.string O6); have d1_6 := cB hb1 w.heap.size 6 (.int .i64 O7); have d1_7 := cB hb1 w.heap.size 7 (.slice bd O8 bc); have d1_8 := cB hb1 w.heap.size 8 (.slice ad O9 c)) | (go_at_call 41; go_loud (refine (HD.out ?q _ _ _ ?t2 ?t3).mono ?_; (case t2 => exact HK.out.beyond bel); (case t3 => exact HX.out.beyond bel); rintro e w2 ⟨rfl, hb2⟩); have hw2 : Below w.heap.size w w2 := Below.trans bel (hb2.mono (by first | omega | (simp; omega))); have d2_0 := cB hb2 w.heap.size 0 (.int .i64 O1); have d2_1 := cB hb2 w.heap.size 1 (.int .u64 O2); have d2_2 := cB hb2 w.heap.size 2 (.int .u64 O3); have d2_3 := cB hb2 w.heap.size 3 (.int .u64 O4); have d2_4 := cB hb2 w.heap.size 4 (.string O5); have d2_5 := cB hb2 w.heap.size 5 (.string O6); have d2_6 := cB hb2 w.heap.size 6 (.int .i64 O7); have d2_7 := cB hb2 w.heap.size 7 (.slice bd O8 bc); have d2_8 := cB hb2 w.heap.size 8 (.slice ad O9 c)))
  go_wp2_with fail
  go_ret
  exact ⟨rfl, hw2⟩
end
section
open Go.RowKit
def topS (nm tx : List UInt8) (l : List (List UInt8)) : ByteArray := bs (prJ (2 * 2 + 2) (jO (kidJ (jS []) 2 (topK nm tx l))))
theorem tlen {nm tx : List UInt8} {l : List (List UInt8)} (hn : nm.length ≤ 60) (ht : tx.length ≤ 60) (hl : l.length ≤ 10) (h : ∀ x ∈ l, x.length ≤ 60) : (prJ (2 * 2 + 2) (jO (kidJ (jS []) 2 (topK nm tx l)))).length ≤ 1000000 := Nat.le_trans (top_len (jS []) hn ht hl h) (by decide)
theorem topC_yes {nm tx : List UInt8} {l : List (List UInt8)} (hn : nm.length ≤ 60) (ht : tx.length ≤ 60) (hl : l.length ≤ 10) (h : ∀ x ∈ l, x.length ≤ 60) {TT : ByteArray} (ht0 : topS nm tx l = TT) (ho : okT 3 [] (topT nm tx l) = true) (b4 : Nat) (w : World) (hi : Is .V (fun _ => True) w 3 (topT nm tx l) (.agg #[.int .i64 3, .int .u64 0, .int .u64 0, .int .u64 0, .string { data := #[] }, .string { data := #[] }, .int .i64 0, .slice none 0 0, .slice (some ⟨b4, 0, none⟩) 2 2])) : Calls Tryz.prog 16 #[.agg #[.int .i64 3, .int .u64 0, .int .u64 0, .int .u64 0, .string { data := #[] }, .string { data := #[] }, .int .i64 0, .slice none 0 0, .slice (some ⟨b4, 0, none⟩) 2 2]] w fun e w' => e = .returned (.tuple #[.string TT, .agg #[.int .i64 0, .int .i64 0, .slice none 0 0]]) ∧ Below w.heap.size w w' := by
  subst ht0
  exact ctext_str (k := 2) (l := topK nm tx l) (by decide) (dk_top hn ht hl h) (sk_top nm tx l) ho (tlen hn ht hl h) _ w _ hi
theorem topX_yes {nm tx : List UInt8} {l : List (List UInt8)} (hn : nm.length ≤ 60) (ht : tx.length ≤ 60) (hl : l.length ≤ 10) (h : ∀ x ∈ l, x.length ≤ 60) {TT : ByteArray} (ht0 : topS nm tx l = TT) (ho : okT 3 [] (topT nm tx l) = true) (b4 : Nat) (w : World) (hi : Is .V (fun _ => True) w 3 (topT nm tx l) (.agg #[.int .i64 3, .int .u64 0, .int .u64 0, .int .u64 0, .string { data := #[] }, .string { data := #[] }, .int .i64 0, .slice none 0 0, .slice (some ⟨b4, 0, none⟩) 2 2])) : Calls Tryz.prog 17 #[.agg #[.int .i64 3, .int .u64 0, .int .u64 0, .int .u64 0, .string { data := #[] }, .string { data := #[] }, .int .i64 0, .slice none 0 0, .slice (some ⟨b4, 0, none⟩) 2 2]] w fun e w' => e = .returned (.tuple #[.string TT, .agg #[.int .i64 0, .int .i64 0, .slice none 0 0]]) ∧ Below w.heap.size w w' := by
  subst ht0
  exact xtext_str (k := 2) (l := topK nm tx l) (by decide) (dk_top hn ht hl h) (sk_top nm tx l) ho (tlen hn ht hl h) _ w _ hi
theorem topC_no {nm tx : List UInt8} {l : List (List UInt8)} (hn : nm.length ≤ 60) (ht : tx.length ≤ 60) (hl : l.length ≤ 10) (h : ∀ x ∈ l, x.length ≤ 60) (ho : okT 3 [] (topT nm tx l) = false) (b4 : Nat) (w : World) (hi : Is .V (fun _ => True) w 3 (topT nm tx l) (.agg #[.int .i64 3, .int .u64 0, .int .u64 0, .int .u64 0, .string { data := #[] }, .string { data := #[] }, .int .i64 0, .slice none 0 0, .slice (some ⟨b4, 0, none⟩) 2 2])) : Calls Tryz.prog 16 #[.agg #[.int .i64 3, .int .u64 0, .int .u64 0, .int .u64 0, .string { data := #[] }, .string { data := #[] }, .int .i64 0, .slice none 0 0, .slice (some ⟨b4, 0, none⟩) 2 2]] w fun e w' => (∃ qa qn qc, e = .returned (.tuple #[.string { data := #[] }, .agg #[.int .i64 4, .int .i64 0, .slice qa qn qc]])) ∧ Below w.heap.size w w' :=
  cText_no 2 (topK nm tx l) _ w _ (dk_top hn ht hl h) (by decide) hi ho
theorem topX_no {nm tx : List UInt8} {l : List (List UInt8)} (hn : nm.length ≤ 60) (ht : tx.length ≤ 60) (hl : l.length ≤ 10) (h : ∀ x ∈ l, x.length ≤ 60) (ho : okT 3 [] (topT nm tx l) = false) (b4 : Nat) (w : World) (hi : Is .V (fun _ => True) w 3 (topT nm tx l) (.agg #[.int .i64 3, .int .u64 0, .int .u64 0, .int .u64 0, .string { data := #[] }, .string { data := #[] }, .int .i64 0, .slice none 0 0, .slice (some ⟨b4, 0, none⟩) 2 2])) : Calls Tryz.prog 17 #[.agg #[.int .i64 3, .int .u64 0, .int .u64 0, .int .u64 0, .string { data := #[] }, .string { data := #[] }, .int .i64 0, .slice none 0 0, .slice (some ⟨b4, 0, none⟩) 2 2]] w fun e w' => (∃ qa qn qc, e = .returned (.tuple #[.string { data := #[] }, .agg #[.int .i64 4, .int .i64 0, .slice qa qn qc]])) ∧ Below w.heap.size w w' :=
  xText_no 2 (topK nm tx l) _ w _ (dk_top hn ht hl h) (by decide) hi ho
theorem topR_yes {nm tx : List UInt8} {l : List (List UInt8)} (hn : nm.length ≤ 60) (ht : tx.length ≤ 60) (hl : l.length ≤ 10) (h : ∀ x ∈ l, x.length ≤ 60) (ho : okT 3 [] (topT nm tx l) = true) (b4 : Nat) (w : World) (hi : Is .V (fun _ => True) w 3 (topT nm tx l) (.agg #[.int .i64 3, .int .u64 0, .int .u64 0, .int .u64 0, .string { data := #[] }, .string { data := #[] }, .int .i64 0, .slice none 0 0, .slice (some ⟨b4, 0, none⟩) 2 2])) : Calls Tryz.prog 18 #[.agg #[.int .i64 3, .int .u64 0, .int .u64 0, .int .u64 0, .string { data := #[] }, .string { data := #[] }, .int .i64 0, .slice none 0 0, .slice (some ⟨b4, 0, none⟩) 2 2]] w fun e w' => (∃ qa qn qc, e = .returned (.tuple #[.slice qa qn qc, .int .i64 0])) ∧ Below w.heap.size w w' := by
  have := rCheck_any 3 _ _ w _ (dk_top hn ht hl h) (sk_top nm tx l) (by decide) hi
  rw [if_pos ho] at this
  exact this
theorem topR_no {nm tx : List UInt8} {l : List (List UInt8)} (hn : nm.length ≤ 60) (ht : tx.length ≤ 60) (hl : l.length ≤ 10) (h : ∀ x ∈ l, x.length ≤ 60) (ho : okT 3 [] (topT nm tx l) = false) (b4 : Nat) (w : World) (hi : Is .V (fun _ => True) w 3 (topT nm tx l) (.agg #[.int .i64 3, .int .u64 0, .int .u64 0, .int .u64 0, .string { data := #[] }, .string { data := #[] }, .int .i64 0, .slice none 0 0, .slice (some ⟨b4, 0, none⟩) 2 2])) : Calls Tryz.prog 18 #[.agg #[.int .i64 3, .int .u64 0, .int .u64 0, .int .u64 0, .string { data := #[] }, .string { data := #[] }, .int .i64 0, .slice none 0 0, .slice (some ⟨b4, 0, none⟩) 2 2]] w fun e w' => (∃ qa qn qc, e = .returned (.tuple #[.slice qa qn qc, .int .i64 4])) ∧ Below w.heap.size w w' := by
  have := rCheck_any 3 _ _ w _ (dk_top hn ht hl h) (sk_top nm tx l) (by decide) hi
  rw [if_neg (by rw [ho]; decide)] at this
  exact this
theorem topE {nm tx : List UInt8} {l : List (List UInt8)} (hn : nm.length ≤ 60) (ht : tx.length ≤ 60) (hl : l.length ≤ 10) (h : ∀ x ∈ l, x.length ≤ 60) {TT : ByteArray} (ht0 : topS nm tx l = TT) (ho : okT 3 [] (topT nm tx l) = true) (w : World) : Calls Tryz.prog 19 #[.string TT, .agg #[.int .i64 200, .int .i64 65536, .int .i64 262144]] w fun e w' => (∃ bd bc ad c, e = .returned (.tuple #[.agg #[.int .i64 3, .int .u64 0, .int .u64 0, .int .u64 0, .string { data := #[] }, .string { data := #[] }, .int .i64 0, .slice bd 0 bc, .slice ad 2 c], .agg #[.int .i64 0, .int .i64 0, .slice none 0 0]]) ∧ Is .V (fun b => w.heap.size ≤ b) w' 3 (topT nm tx l) (.agg #[.int .i64 3, .int .u64 0, .int .u64 0, .int .u64 0, .string { data := #[] }, .string { data := #[] }, .int .i64 0, .slice bd 0 bc, .slice ad 2 c])) ∧ Below w.heap.size w w' := by
  subst ht0
  have hz := sz_top hn ht hl h
  refine (etext_str (k := 2) (l := topK nm tx l) (by decide) (dk_top hn ht hl h) (sk_top nm tx l) ho (Nat.le_trans hz (by decide)) (tlen hn ht hl h) w).mono ?_
  rintro e w' ⟨⟨v, rfl, hv⟩, hb⟩
  obtain ⟨bd, bc, ad, c, rfl⟩ := hv.form
  exact ⟨⟨bd, bc, ad, c, rfl, hv⟩, hb⟩
theorem topSame {nm tx : List UInt8} {l : List (List UInt8)} (hn : nm.length ≤ 60) (ht : tx.length ≤ 60) (hl : l.length ≤ 10) (h : ∀ x ∈ l, x.length ≤ 60) (b4 : Nat) (Q2 : Nat → Prop) (w : World) (v2 : Value) (hi : Is .V (fun _ => True) w 3 (topT nm tx l) (.agg #[.int .i64 3, .int .u64 0, .int .u64 0, .int .u64 0, .string { data := #[] }, .string { data := #[] }, .int .i64 0, .slice none 0 0, .slice (some ⟨b4, 0, none⟩) 2 2])) (h2 : Is .V Q2 w 3 (topT nm tx l) v2) : Calls Tryz.prog 13 #[.agg #[.int .i64 3, .int .u64 0, .int .u64 0, .int .u64 0, .string { data := #[] }, .string { data := #[] }, .int .i64 0, .slice none 0 0, .slice (some ⟨b4, 0, none⟩) 2 2], v2] w fun e w' => e = .returned (.bool true) ∧ Below w.heap.size w w' :=
  sa_any 3 _ (dk_top hn ht hl h) _ Q2 w _ v2 hi h2
theorem topLoss {nm tx : List UInt8} {l : List (List UInt8)} (hn : nm.length ≤ 60) (ht : tx.length ≤ 60) (hl : l.length ≤ 10) (h : ∀ x ∈ l, x.length ≤ 60) (b4 : Nat) (w : World) (hi : Is .V (fun _ => True) w 3 (topT nm tx l) (.agg #[.int .i64 3, .int .u64 0, .int .u64 0, .int .u64 0, .string { data := #[] }, .string { data := #[] }, .int .i64 0, .slice none 0 0, .slice (some ⟨b4, 0, none⟩) 2 2])) : Calls Tryz.prog 20 #[.agg #[.int .i64 3, .int .u64 0, .int .u64 0, .int .u64 0, .string { data := #[] }, .string { data := #[] }, .int .i64 0, .slice none 0 0, .slice (some ⟨b4, 0, none⟩) 2 2]] w fun e w' => e = .returned (.slice none 0 0) ∧ Below w.heap.size w w' :=
  loss_any 3 _ (by decide) (dk_top hn ht hl h) _ w _ hi
end
end Go.Proofs.YtihnfhhopldllaaGreatDoor
