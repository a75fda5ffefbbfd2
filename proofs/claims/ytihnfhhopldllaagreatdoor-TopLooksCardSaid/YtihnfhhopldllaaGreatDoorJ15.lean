/- Parts of the proof of TopLooks: U39, U40. No condition. -/
import Derived.Test.YtihnfhhopldllaaGreatDoorJ1
import Derived.Test.YtihnfhhopldllaaGreatDoorJ13
namespace Go.Proofs.YtihnfhhopldllaaGreatDoor
set_option linter.unusedSimpArgs false
set_option linter.unusedVariables false
set_option maxHeartbeats 6400000
set_option maxRecDepth 100000
section
open Go.RowKit
def Prs (w : World) (g : Nat) (T : ByteArray) (p : Nat) (D : Int) : Prop := w.heap[g]? = some (.cells #[.string T, .int .i64 p, .int .i64 D] 124 (0, 0))
theorem Prs.lt {w : World} {g : Nat} {T : ByteArray} {p : Nat} {D : Int} (h : Prs w g T p D) : g < w.heap.size := (Array.getElem?_eq_some_iff.1 h).1
theorem Prs.cells {w : World} {g : Nat} {T : ByteArray} {p : Nat} {D : Int} (h : Prs w g T p D) : w.cell? ⟨g, 0, none⟩ = some (.string T) ∧ w.cell? ⟨g, 1, none⟩ = some (.int .i64 p) ∧ w.cell? ⟨g, 2, none⟩ = some (.int .i64 D) ∧ w.frozen? ⟨g, 1, none⟩ = false := by
  refine ⟨?_, ?_, ?_, frozen_of_row _ g _ _ _ h⟩
  all_goals (rw [cell_of_row _ g _ _ _ _ h]; rfl)
theorem Prs.beyond {w w' : World} {g : Nat} {T : ByteArray} {p : Nat} {D : Int} (h : Prs w g T p D) (hb : Below w.heap.size w w') : Prs w' g T p D := (hb.block g h.lt).trans h
theorem Prs.set {w : World} {g : Nat} {T : ByteArray} {p : Nat} {D : Int} (h : Prs w g T p D) (q : Nat) : Prs (w.setCell ⟨g, 1, none⟩ (.int .i64 q)) g T q D := by
  have := heap_setCell_same w g 1 _ _ (.int .i64 q) h
  exact this
theorem Prs.other {w : World} {g : Nat} {T : ByteArray} {p : Nat} {D : Int} (h : Prs w g T p D) {a : Addr} (ha : g ≠ a.block) (v : Value) : Prs (w.setCell a v) g T p D := (heap_setCell_other w a g v ha).trans h
theorem Prs.alloc {w : World} {g : Nat} {T : ByteArray} {p : Nat} {D : Int} (h : Prs w g T p D) (o : Obj) : Prs (w.alloc o) g T p D := h.beyond ((Below.refl _ _).alloc (Nat.le_refl _) o)
theorem Prs.drew {w : World} {g : Nat} {T : ByteArray} {p : Nat} {D : Int} (h : Prs w g T p D) : Prs w.drew g T p D := h
theorem grown_set {w W : World} {g : Nat} (h : w.grownBy W (some g)) {a : Addr} (ha : a.block = g ∨ w.heap.size ≤ a.block) (v : Value) : w.grownBy (W.setCell a v) (some g) :=
  ⟨h.os, h.tape, h.output, by simp [World.setCell]; exact h.size, fun k hk hr => by
    rw [heap_setCell_other W a k v (fun e => by
      rcases ha with ha | ha
      · exact hr (by rw [e, ha])
      · omega)]
    exact h.block k hk hr⟩
theorem grown_drew {w W : World} {row : Option Nat} (h : w.grownBy W row) : w.grownBy W.drew row := ⟨h.os, h.tape, h.output, h.size, h.block⟩
theorem grown_set_none {w W : World} {row : Option Nat} (h : w.grownBy W row) {a : Addr} (ha : w.heap.size ≤ a.block) (v : Value) : w.grownBy (W.setCell a v) row :=
  ⟨h.os, h.tape, h.output, by simp [World.setCell]; exact h.size, fun k hk hr => by
    rw [heap_setCell_other W a k v (fun e => by omega)]
    exact h.block k hk hr⟩
def Nx (T : ByteArray) (p : Nat) (kd : Int) (q : Nat) (tx : ByteArray) : Prop := ∀ w : World, Calls Tryz.prog 114 #[.string T, .int .i64 p] w fun e w' => e = .returned (.tuple #[.agg #[.int .i64 kd, .int .i64 p, .int .i64 q, .string tx], .agg #[.int .i64 0, .int .i64 0, .slice none 0 0]]) ∧ Below w.heap.size w w'
theorem pnext_any {T : ByteArray} {p : Nat} {kd : Int} {q : Nat} {tx : ByteArray} (hN : Nx T p kd q tx) (g : Nat) (D : Int) (w : World) (hP : Prs w g T p D) :
    Calls Tryz.prog 68 #[.pointer (some ⟨g, 0, none⟩)] w fun e w' => e = .returned (.tuple #[.agg #[.int .i64 kd, .int .i64 p, .int .i64 q, .string tx], .agg #[.int .i64 0, .int .i64 0, .slice none 0 0]]) ∧ Prs w' g T q D ∧ w.grownBy w' (some g) := by
  have H := Lib.hid hN
  have hg := hP.lt
  have HP := Lib.hid hP
  obtain ⟨p0, p1, p2, pf⟩ := hP.cells
  have hne0 : g ≠ w.heap.size := by omega
  have hne1 : g ≠ w.heap.size + 1 := by omega
  have hne2 : g < w.heap.size + 1 := by omega
  have hne3 : g < w.heap.size + 1 + 1 := by omega
  have hne4 : g < w.heap.size + 1 + 1 + 1 := by omega
  have hne5 : g ≠ w.heap.size + 1 + 1 := by omega
  have hne6 : g ≠ w.heap.size + 1 + 1 + 1 := by omega
  clear hN hP
  go_enter Tryz.func68, Tryz.ntmps68
  go_upto_region 1 with fail
  obtain ⟨W1, hW1⟩ : ∃ W, W = (w.alloc (.cells #[.int .i64 0, .int .i64 0, .int .i64 0, .string { data := #[] }] 126)).alloc (.cells #[.int .i64 0, .int .i64 0, .slice none 0 0] 33) := ⟨_, rfl⟩
  have HW1 := Lib.hid hW1
  clear hW1
  go_cut [4, 5] (fun s4 s5 W => ∃ ta fa : Nat, s4 = .pointer (some ⟨ta, 0, none⟩) ∧ s5 = .pointer (some ⟨fa, 0, none⟩) ∧ (W.cell? ⟨ta, 0, none⟩ = some (.int .i64 kd) ∧ W.cell? ⟨ta, 1, none⟩ = some (.int .i64 p) ∧ W.cell? ⟨ta, 2, none⟩ = some (.int .i64 q) ∧ W.cell? ⟨ta, 3, none⟩ = some (.string tx) ∧ W.cell? ⟨fa, 0, none⟩ = some (.int .i64 0) ∧ W.cell? ⟨fa, 1, none⟩ = some (.int .i64 0) ∧ W.cell? ⟨fa, 2, none⟩ = some (.slice none 0 0)) ∧ Below (w.heap.size + 2) W1 W ∧ w.heap.size + 1 < ta ∧ w.heap.size + 1 < fa)
  case first =>
    go_region_held_law (fun W => W.cell? ⟨g, 0, none⟩ = some (.string T) ∧ W.cell? ⟨g, 1, none⟩ = some (.int .i64 p)) ((first | (simp [go_sem, *]; done) | go_keep)) (first | (go_at_call 114; go_loud (refine (H.out _).mono ?_); rintro e w6 ⟨rfl, hb6⟩; obtain ⟨k0, g0⟩ := cf hb6 w.heap.size 0 (.int .i64 0); obtain ⟨k1, g1⟩ := cf hb6 w.heap.size 1 (.int .i64 0); obtain ⟨k2, g2⟩ := cf hb6 w.heap.size 2 (.int .i64 0); obtain ⟨k3, g3⟩ := cf hb6 w.heap.size 3 (.string { data := #[] }); obtain ⟨k4, g4⟩ := cf hb6 (w.heap.size + 1) 0 (.int .i64 0); obtain ⟨k5, g5⟩ := cf hb6 (w.heap.size + 1) 1 (.int .i64 0); obtain ⟨k6, g6⟩ := cf hb6 (w.heap.size + 1) 2 (.slice none 0 0); have kg0 := cB hb6 g 0 (.string T); have kg1 := cB hb6 g 1 (.int .i64 p); have hw6 : Below (w.heap.size + 2) ((w.alloc (.cells #[.int .i64 0, .int .i64 0, .int .i64 0, .string { data := #[] }] 126)).alloc (.cells #[.int .i64 0, .int .i64 0, .slice none 0 0] 33)) w6 := Below.trans bel (hb6.mono (by first | (simp; done) | (simp; omega))); have hz6 : w.heap.size + 1 < w6.heap.size := (by have := hb6.size; simp at this; omega); (first | (have m0 : w6.cell? ⟨w.heap.size + 1 + 1, 0, none⟩ = some (.int .i64 0) := (hb6.cell (p := ⟨w.heap.size + 1 + 1, 0, none⟩) (by first | (simp; done) | (simp; omega) | fail)).trans (by first | (simp [go_sem]; done) | fail)) | skip); (first | (have n0 : w6.frozen? ⟨w.heap.size + 1 + 1, 0, none⟩ = false := (hb6.frozen (p := ⟨w.heap.size + 1 + 1, 0, none⟩) (by first | (simp; done) | (simp; omega) | fail)).trans (by first | (simp [go_sem]; done) | fail)) | skip); (first | (have m1 : w6.cell? ⟨w.heap.size + 1 + 1, 1, none⟩ = some (.int .i64 0) := (hb6.cell (p := ⟨w.heap.size + 1 + 1, 1, none⟩) (by first | (simp; done) | (simp; omega) | fail)).trans (by first | (simp [go_sem]; done) | fail)) | skip); (first | (have n1 : w6.frozen? ⟨w.heap.size + 1 + 1, 1, none⟩ = false := (hb6.frozen (p := ⟨w.heap.size + 1 + 1, 1, none⟩) (by first | (simp; done) | (simp; omega) | fail)).trans (by first | (simp [go_sem]; done) | fail)) | skip); (first | (have m2 : w6.cell? ⟨w.heap.size + 1 + 1, 2, none⟩ = some (.int .i64 0) := (hb6.cell (p := ⟨w.heap.size + 1 + 1, 2, none⟩) (by first | (simp; done) | (simp; omega) | fail)).trans (by first | (simp [go_sem]; done) | fail)) | skip); (first | (have n2 : w6.frozen? ⟨w.heap.size + 1 + 1, 2, none⟩ = false := (hb6.frozen (p := ⟨w.heap.size + 1 + 1, 2, none⟩) (by first | (simp; done) | (simp; omega) | fail)).trans (by first | (simp [go_sem]; done) | fail)) | skip); (first | (have m3 : w6.cell? ⟨w.heap.size + 1 + 1, 2, none⟩ = some (.slice none 0 0) := (hb6.cell (p := ⟨w.heap.size + 1 + 1, 2, none⟩) (by first | (simp; done) | (simp; omega) | fail)).trans (by first | (simp [go_sem]; done) | fail)) | skip); (first | (have n3 : w6.frozen? ⟨w.heap.size + 1 + 1, 2, none⟩ = false := (hb6.frozen (p := ⟨w.heap.size + 1 + 1, 2, none⟩) (by first | (simp; done) | (simp; omega) | fail)).trans (by first | (simp [go_sem]; done) | fail)) | skip); (first | (have m4 : w6.cell? ⟨w.heap.size + 1 + 1, 3, none⟩ = some (.string { data := #[] }) := (hb6.cell (p := ⟨w.heap.size + 1 + 1, 3, none⟩) (by first | (simp; done) | (simp; omega) | fail)).trans (by first | (simp [go_sem]; done) | fail)) | skip); (first | (have n4 : w6.frozen? ⟨w.heap.size + 1 + 1, 3, none⟩ = false := (hb6.frozen (p := ⟨w.heap.size + 1 + 1, 3, none⟩) (by first | (simp; done) | (simp; omega) | fail)).trans (by first | (simp [go_sem]; done) | fail)) | skip); (first | (have m5 : w6.cell? ⟨w.heap.size + 1 + 1 + 1, 0, none⟩ = some (.int .i64 0) := (hb6.cell (p := ⟨w.heap.size + 1 + 1 + 1, 0, none⟩) (by first | (simp; done) | (simp; omega) | fail)).trans (by first | (simp [go_sem]; done) | fail)) | skip); (first | (have n5 : w6.frozen? ⟨w.heap.size + 1 + 1 + 1, 0, none⟩ = false := (hb6.frozen (p := ⟨w.heap.size + 1 + 1 + 1, 0, none⟩) (by first | (simp; done) | (simp; omega) | fail)).trans (by first | (simp [go_sem]; done) | fail)) | skip); (first | (have m6 : w6.cell? ⟨w.heap.size + 1 + 1 + 1, 1, none⟩ = some (.int .i64 0) := (hb6.cell (p := ⟨w.heap.size + 1 + 1 + 1, 1, none⟩) (by first | (simp; done) | (simp; omega) | fail)).trans (by first | (simp [go_sem]; done) | fail)) | skip); (first | (have n6 : w6.frozen? ⟨w.heap.size + 1 + 1 + 1, 1, none⟩ = false := (hb6.frozen (p := ⟨w.heap.size + 1 + 1 + 1, 1, none⟩) (by first | (simp; done) | (simp; omega) | fail)).trans (by first | (simp [go_sem]; done) | fail)) | skip); (first | (have m7 : w6.cell? ⟨w.heap.size + 1 + 1 + 1, 2, none⟩ = some (.int .i64 0) := (hb6.cell (p := ⟨w.heap.size + 1 + 1 + 1, 2, none⟩) (by first | (simp; done) | (simp; omega) | fail)).trans (by first | (simp [go_sem]; done) | fail)) | skip); (first | (have n7 : w6.frozen? ⟨w.heap.size + 1 + 1 + 1, 2, none⟩ = false := (hb6.frozen (p := ⟨w.heap.size + 1 + 1 + 1, 2, none⟩) (by first | (simp; done) | (simp; omega) | fail)).trans (by first | (simp [go_sem]; done) | fail)) | skip); (first | (have m8 : w6.cell? ⟨w.heap.size + 1 + 1 + 1, 2, none⟩ = some (.slice none 0 0) := (hb6.cell (p := ⟨w.heap.size + 1 + 1 + 1, 2, none⟩) (by first | (simp; done) | (simp; omega) | fail)).trans (by first | (simp [go_sem]; done) | fail)) | skip); (first | (have n8 : w6.frozen? ⟨w.heap.size + 1 + 1 + 1, 2, none⟩ = false := (hb6.frozen (p := ⟨w.heap.size + 1 + 1 + 1, 2, none⟩) (by first | (simp; done) | (simp; omega) | fail)).trans (by first | (simp [go_sem]; done) | fail)) | skip); (first | (have m9 : w6.cell? ⟨w.heap.size + 1 + 1 + 1, 3, none⟩ = some (.string { data := #[] }) := (hb6.cell (p := ⟨w.heap.size + 1 + 1 + 1, 3, none⟩) (by first | (simp; done) | (simp; omega) | fail)).trans (by first | (simp [go_sem]; done) | fail)) | skip); (first | (have n9 : w6.frozen? ⟨w.heap.size + 1 + 1 + 1, 3, none⟩ = false := (hb6.frozen (p := ⟨w.heap.size + 1 + 1 + 1, 3, none⟩) (by first | (simp; done) | (simp; omega) | fail)).trans (by first | (simp [go_sem]; done) | fail)) | skip); have hl6 : g < w6.heap.size := (by omega); have hl7 : g ≠ w6.heap.size := (by omega); have hl8 : g ≠ w6.heap.size + 1 := (by omega); have hl9 : g < w6.heap.size + 1 := (by omega); (first | (have hz62 : w.heap.size + 1 + 1 < w6.heap.size := (by first | (have := hb6.size; simp at this; omega) | fail)) | skip); (first | (have hz63 : w.heap.size + 1 + 1 + 1 < w6.heap.size := (by first | (have := hb6.size; simp at this; omega) | fail)) | skip)))
    all_goals
      go_wp2_with fail
      go_meet
      refine ⟨_, _, rfl, rfl, ⟨?_, ?_, ?_, ?_, ?_, ?_, ?_⟩, ?_, ?_, ?_⟩
      case refine_8 => (rw [HW1.out]; exact bel)
      all_goals first | omega | (simp [go_sem, *]; done) | skip
  case rest =>
    obtain ⟨ta, fa, rfl, rfl, ⟨c0, c1, c2, c3, c4, c5, c6⟩, hB, hta, hfa⟩ := hcut
    have hsz : w.heap.size + 1 < wc.heap.size := by have := hB.size; rw [HW1.out] at this; simp at this; omega
    have hsz0 : w.heap.size < wc.heap.size := by omega
    have hbw : Below w.heap.size w wc := Below.trans (by rw [HW1.out]; exact bel) (hB.mono (by omega))
    have HPc := Lib.hid (HP.out.beyond hbw)
    have HBW := Lib.hid hbw
    obtain ⟨q0, q1, q2, qf⟩ := HPc.out.cells
    have k0 : wc.cell? ⟨w.heap.size, 0, none⟩ = some (.int .i64 0) := (hB.cell (p := ⟨w.heap.size, 0, none⟩) (by simp)).trans (by rw [HW1.out]; simp [go_sem])
    have g0 : wc.frozen? ⟨w.heap.size, 0, none⟩ = false := (hB.frozen (p := ⟨w.heap.size, 0, none⟩) (by simp)).trans (by rw [HW1.out]; simp [go_sem])
    have k1 : wc.cell? ⟨w.heap.size, 1, none⟩ = some (.int .i64 0) := (hB.cell (p := ⟨w.heap.size, 1, none⟩) (by simp)).trans (by rw [HW1.out]; simp [go_sem])
    have g1 : wc.frozen? ⟨w.heap.size, 1, none⟩ = false := (hB.frozen (p := ⟨w.heap.size, 1, none⟩) (by simp)).trans (by rw [HW1.out]; simp [go_sem])
    have k2 : wc.cell? ⟨w.heap.size, 2, none⟩ = some (.int .i64 0) := (hB.cell (p := ⟨w.heap.size, 2, none⟩) (by simp)).trans (by rw [HW1.out]; simp [go_sem])
    have g2 : wc.frozen? ⟨w.heap.size, 2, none⟩ = false := (hB.frozen (p := ⟨w.heap.size, 2, none⟩) (by simp)).trans (by rw [HW1.out]; simp [go_sem])
    have k3 : wc.cell? ⟨w.heap.size, 3, none⟩ = some (.string { data := #[] }) := (hB.cell (p := ⟨w.heap.size, 3, none⟩) (by simp)).trans (by rw [HW1.out]; simp [go_sem])
    have g3 : wc.frozen? ⟨w.heap.size, 3, none⟩ = false := (hB.frozen (p := ⟨w.heap.size, 3, none⟩) (by simp)).trans (by rw [HW1.out]; simp [go_sem])
    have k4 : wc.cell? ⟨w.heap.size + 1, 0, none⟩ = some (.int .i64 0) := (hB.cell (p := ⟨w.heap.size + 1, 0, none⟩) (by simp)).trans (by rw [HW1.out]; simp [go_sem])
    have g4 : wc.frozen? ⟨w.heap.size + 1, 0, none⟩ = false := (hB.frozen (p := ⟨w.heap.size + 1, 0, none⟩) (by simp)).trans (by rw [HW1.out]; simp [go_sem])
    have k5 : wc.cell? ⟨w.heap.size + 1, 1, none⟩ = some (.int .i64 0) := (hB.cell (p := ⟨w.heap.size + 1, 1, none⟩) (by simp)).trans (by rw [HW1.out]; simp [go_sem])
    have g5 : wc.frozen? ⟨w.heap.size + 1, 1, none⟩ = false := (hB.frozen (p := ⟨w.heap.size + 1, 1, none⟩) (by simp)).trans (by rw [HW1.out]; simp [go_sem])
    have k6 : wc.cell? ⟨w.heap.size + 1, 2, none⟩ = some (.slice none 0 0) := (hB.cell (p := ⟨w.heap.size + 1, 2, none⟩) (by simp)).trans (by rw [HW1.out]; simp [go_sem])
    have g6 : wc.frozen? ⟨w.heap.size + 1, 2, none⟩ = false := (hB.frozen (p := ⟨w.heap.size + 1, 2, none⟩) (by simp)).trans (by rw [HW1.out]; simp [go_sem])
    clear hB hbw HW1 p0 p1 p2 pf H HP
    have n0 : ta ≠ g := by omega
    have n1 : fa ≠ g := by omega
    have n2 : ta ≠ w.heap.size := by omega
    have n3 : fa ≠ w.heap.size := by omega
    have n4 : ta ≠ w.heap.size + 1 := by omega
    have n5 : fa ≠ w.heap.size + 1 := by omega
    have n6 : w.heap.size ≠ g := by omega
    have n7 : w.heap.size + 1 ≠ g := by omega
    go_wp2_with fail
    go_region
    go_wp2_with fail
    refine bodyPost_ret (v := .tuple #[.agg #[.int .i64 kd, .int .i64 p, .int .i64 q, .string tx], .agg #[.int .i64 0, .int .i64 0, .slice none 0 0]]) (by simp (maxDischargeDepth := 4) [results, Tryz.results68, go_sem, k0, g0, k1, g1, k2, g2, k3, g3, k4, g4, k5, g5, k6, g6]) rfl ?_
    refine ⟨rfl, ?_, ?_⟩
    · refine Prs.drew ?_
      repeat' (first | with_reducible exact HPc.out.set q | with_reducible refine Prs.other ?_ (by dsimp only; omega) _)
    · refine grown_drew ?_
      repeat' (first | with_reducible exact grown_below HBW.out _ | with_reducible refine grown_set ?_ (by dsimp only; omega) _)
end
section
open Go.RowKit
theorem grown_refl (w : World) (row : Option Nat) : w.grownBy w row := grown_below (Below.refl _ _) row
theorem grown_alloc {w W : World} {row : Option Nat} (h : w.grownBy W row) (o : Obj) : w.grownBy (W.alloc o) row := grown_trans h (grown_below ((Below.refl _ _).alloc (Nat.le_refl _) o) row)
theorem grown_cell {w w' : World} {g : Nat} (h : w.grownBy w' (some g)) {b i : Nat} (hb : b < w.heap.size) (hn : b ≠ g) : w'.cell? ⟨b, i, none⟩ = w.cell? ⟨b, i, none⟩ :=
  World.cell?_of_block (a := ⟨b, i, none⟩) (h.block b hb (fun e => by injection e with e; exact hn e))
theorem grown_frozen {w w' : World} {g : Nat} (h : w.grownBy w' (some g)) {b i : Nat} (hb : b < w.heap.size) (hn : b ≠ g) : w'.frozen? ⟨b, i, none⟩ = w.frozen? ⟨b, i, none⟩ :=
  World.frozen?_of_block (a := ⟨b, i, none⟩) (h.block b hb (fun e => by injection e with e; exact hn e))
theorem pnamed_any {T : ByteArray} {q q1 q2 : Nat} {kd : Int} {tx tn : ByteArray} (hN1 : Nx T q 6 q1 { data := #[] }) (hN2 : Nx T q1 kd q2 tx) (a z : Int) (g : Nat) (D : Int) (w : World) (hP : Prs w g T q D) :
    Calls Tryz.prog 194 #[.pointer (some ⟨g, 0, none⟩), .agg #[.int .i64 8, .int .i64 a, .int .i64 z, .string tn]] w fun e w' => e = .returned (.tuple #[.agg #[.int .i64 kd, .int .i64 q1, .int .i64 q2, .string tx], .agg #[.int .i64 0, .int .i64 0, .slice none 0 0]]) ∧ Prs w' g T q2 D ∧ w.grownBy w' (some g) := by
  have H1 := Lib.hid (fun w hP => pnext_any hN1 g D w hP)
  have H2 := Lib.hid (fun w hP => pnext_any hN2 g D w hP)
  have hg := hP.lt
  clear hN1 hN2
  go_enter Tryz.func194, Tryz.ntmps194
  go_wp2_with fail
  with_reducible refine (H1.out _ ?hp1).mono ?_
  case hp1 => repeat' (first | (with_reducible assumption) | (with_reducible refine Prs.drew ?_) | (with_reducible refine Prs.other ?_ (by dsimp only; omega) _) | (with_reducible refine Prs.alloc ?_ _))
  rintro e w1 ⟨rfl, hP1, hb1⟩
  obtain ⟨c1_0, f1_0⟩ := cfG hb1 w.heap.size 0 (.int .i64 8)
  obtain ⟨c1_1, f1_1⟩ := cfG hb1 w.heap.size 1 (.int .i64 a)
  obtain ⟨c1_2, f1_2⟩ := cfG hb1 w.heap.size 2 (.int .i64 z)
  obtain ⟨c1_3, f1_3⟩ := cfG hb1 w.heap.size 3 (.string tn)
  obtain ⟨c1_4, f1_4⟩ := cfG hb1 (w.heap.size + 1) 0 (.int .i64 0)
  obtain ⟨c1_5, f1_5⟩ := cfG hb1 (w.heap.size + 1) 1 (.int .i64 0)
  obtain ⟨c1_6, f1_6⟩ := cfG hb1 (w.heap.size + 1) 2 (.int .i64 0)
  obtain ⟨c1_7, f1_7⟩ := cfG hb1 (w.heap.size + 1) 3 (.string { data := #[] })
  obtain ⟨c1_8, f1_8⟩ := cfG hb1 (w.heap.size + 1 + 1) 0 (.int .i64 0)
  obtain ⟨c1_9, f1_9⟩ := cfG hb1 (w.heap.size + 1 + 1) 1 (.int .i64 0)
  obtain ⟨c1_10, f1_10⟩ := cfG hb1 (w.heap.size + 1 + 1) 2 (.slice none 0 0)
  have hs1 := hb1.size
  (try simp at hs1)
  have hl1_0 : w.heap.size < w1.heap.size := by first | omega | (simp at hs1; omega)
  have hl1_1 : w.heap.size + 1 < w1.heap.size := by first | omega | (simp at hs1; omega)
  have hl1_2 : w.heap.size + 1 + 1 < w1.heap.size := by first | omega | (simp at hs1; omega)
  have hw1 : w.grownBy w1 (some g) := grown_trans (by repeat' (first | (with_reducible assumption) | (with_reducible exact grown_refl _ _) | (with_reducible refine grown_drew ?_) | (with_reducible refine grown_set ?_ (by dsimp only; omega) _) | (with_reducible refine grown_alloc ?_ _))) hb1
  have hz1 := hw1.size
  clear hb1 hs1
  go_wp2_with fail
  with_reducible refine (H2.out _ ?hp2).mono ?_
  case hp2 => repeat' (first | (with_reducible assumption) | (with_reducible refine Prs.drew ?_) | (with_reducible refine Prs.other ?_ (by dsimp only; omega) _) | (with_reducible refine Prs.alloc ?_ _))
  rintro e w2 ⟨rfl, hP2, hb2⟩
  obtain ⟨c2_0, f2_0⟩ := cfG hb2 w.heap.size 0 (.int .i64 6)
  obtain ⟨c2_1, f2_1⟩ := cfG hb2 w.heap.size 1 (.int .i64 q)
  obtain ⟨c2_2, f2_2⟩ := cfG hb2 w.heap.size 2 (.int .i64 q1)
  obtain ⟨c2_3, f2_3⟩ := cfG hb2 w.heap.size 3 (.string { data := #[] })
  obtain ⟨c2_4, f2_4⟩ := cfG hb2 (w.heap.size + 1) 0 (.int .i64 0)
  obtain ⟨c2_5, f2_5⟩ := cfG hb2 (w.heap.size + 1) 1 (.int .i64 0)
  obtain ⟨c2_6, f2_6⟩ := cfG hb2 (w.heap.size + 1) 2 (.int .i64 0)
  obtain ⟨c2_7, f2_7⟩ := cfG hb2 (w.heap.size + 1) 3 (.string { data := #[] })
  obtain ⟨c2_8, f2_8⟩ := cfG hb2 (w.heap.size + 1 + 1) 0 (.int .i64 0)
  obtain ⟨c2_9, f2_9⟩ := cfG hb2 (w.heap.size + 1 + 1) 1 (.int .i64 0)
  obtain ⟨c2_10, f2_10⟩ := cfG hb2 (w.heap.size + 1 + 1) 2 (.slice none 0 0)
  have hs2 := hb2.size
  (try simp at hs2)
  have hl2_0 : w.heap.size < w2.heap.size := by first | omega | (simp at hs2; omega)
  have hl2_1 : w.heap.size + 1 < w2.heap.size := by first | omega | (simp at hs2; omega)
  have hl2_2 : w.heap.size + 1 + 1 < w2.heap.size := by first | omega | (simp at hs2; omega)
  have hw2 : w.grownBy w2 (some g) := grown_trans (by repeat' (first | (with_reducible assumption) | (with_reducible exact grown_refl _ _) | (with_reducible refine grown_drew ?_) | (with_reducible refine grown_set ?_ (by dsimp only; omega) _) | (with_reducible refine grown_alloc ?_ _))) hb2
  have hz2 := hw2.size
  clear hb2 hs2
  go_wp2_with fail
  refine bodyPost_ret (v := .tuple #[.agg #[.int .i64 kd, .int .i64 q1, .int .i64 q2, .string tx], .agg #[.int .i64 0, .int .i64 0, .slice none 0 0]]) (by simp (maxDischargeDepth := 4) [results, Tryz.results194, go_sem, c2_4, f2_4, c2_5, f2_5, c2_6, f2_6, c2_7, f2_7, c2_8, f2_8, c2_9, f2_9, c2_10, f2_10]) rfl ?_
  refine ⟨rfl, ?_, ?_⟩
  · repeat' (first | (with_reducible assumption) | (with_reducible refine Prs.drew ?_) | (with_reducible refine Prs.other ?_ (by dsimp only; omega) _) | (with_reducible refine Prs.alloc ?_ _))
  · repeat' (first | (with_reducible assumption) | (with_reducible exact grown_refl _ _) | (with_reducible refine grown_drew ?_) | (with_reducible refine grown_set ?_ (by dsimp only; omega) _) | (with_reducible refine grown_alloc ?_ _))
end
end Go.Proofs.YtihnfhhopldllaaGreatDoor
