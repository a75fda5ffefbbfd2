/- Parts of the proof of TopLooks: U86, U74, U76. No condition. -/
import Derived.Test.YtihnfhhopldllaaGreatDoorJ1
import Derived.Test.YtihnfhhopldllaaGreatDoorJ35
import Derived.Test.YtihnfhhopldllaaGreatDoorJ39
import Derived.Test.YtihnfhhopldllaaGreatDoorJ40
import Derived.Test.YtihnfhhopldllaaGreatDoorJ9
namespace Go.Proofs.YtihnfhhopldllaaGreatDoor
set_option linter.unusedSimpArgs false
set_option linter.unusedVariables false
set_option maxHeartbeats 6400000
set_option maxRecDepth 100000
section
open Go.RowKit
theorem cnum_1 (p : Value) (w : World) : Calls Tryz.prog 132 #[p, .int .i64 1] w fun e w' => e = .returned (.tuple #[.int .u64 1, .bool true]) ∧ w = w' := by
  go_enter Tryz.func132, Tryz.ntmps132
  go_wp2_with fail
  go_ret2
  exact ⟨rfl, rfl⟩
theorem row_1 (g g2 c : Nat) (p : Int) (w : World) (h : RdC w g g2 c 2) : Calls Tryz.prog 134 #[.pointer (some ⟨g, 0, none⟩), .int .i64 p, .int .i64 3, .int .u64 1] w fun e w' => e = .returned (.tuple #[.agg #[.int .i64 4, .int .u64 0, .slice none 0 0, .string { data := #[97] }, .slice none 0 0], .agg #[.int .i64 0, .int .i64 0, .slice none 0 0]]) ∧ RdC w' g g2 c 3 ∧ w.grownBy w' (some g) := by
  have HL : Hid (∀ w, RdC w g g2 c 2 → Calls Tryz.prog 80 #[.pointer (some ⟨g, 0, none⟩)] w fun e w' => e = .returned (.int .i64 2) ∧ Below w.heap.size w w') := Lib.hid (fun w h => left_any g g2 4 c 2 (by decide) (by decide) w h.rd)
  have HT := Lib.hid (fun w (h : RdC w g g2 c 2) => take_1 g g2 c w h)
  have HC : Hid (∀ b c2 w, Bs w b 0 [97] → Calls Tryz.prog 124 #[.slice (some ⟨b, 0, none⟩) 1 c2] w fun e w' => e = .returned (.tuple #[.int .i64 1, .bool true]) ∧ w = w') := Lib.hid (fun b c2 w h => check_any (some ⟨b, 0, none⟩) 1 c2 [97] rfl (by decide) w h.sb)
  have HV : Hid (∀ b c2 w, Bs w b 0 [97] → (convert 24 9 (.slice (some ⟨b, 0, none⟩) 1 c2)).run Tryz.prog w = .ok (.string { data := #[97] }) w) := Lib.hid (fun b c2 w h => run_convert_bytes_back w _ _ 5 ⟨b, 0, none⟩ c2 [97] ty_bytes ty_u8 ty_str (fun j hj => by
    rw [Addr.add_mid]
    exact h.2 j _ (List.getElem?_eq_getElem hj)))
  have HR := Lib.hid h
  have hg := h.rd.lt
  have hn := h.ne
  clear h
  go_enter Tryz.func134, Tryz.ntmps134
  go_wp2_with fail
  with_reducible refine (HL.out _ ?q1).mono ?_
  case q1 => exact HR.out.beyond bel
  rintro e w1 ⟨rfl, hb1⟩
  obtain ⟨c1_0, f1_0⟩ := cf hb1 w.heap.size 0 (.int .i64 0)
  obtain ⟨c1_1, f1_1⟩ := cf hb1 w.heap.size 1 (.int .u64 0)
  obtain ⟨c1_2, f1_2⟩ := cf hb1 w.heap.size 2 (.slice none 0 0)
  obtain ⟨c1_3, f1_3⟩ := cf hb1 w.heap.size 3 (.string { data := #[] })
  obtain ⟨c1_4, f1_4⟩ := cf hb1 w.heap.size 4 (.slice none 0 0)
  obtain ⟨c1_5, f1_5⟩ := cf hb1 (w.heap.size + 1) 0 (.int .i64 0)
  obtain ⟨c1_6, f1_6⟩ := cf hb1 (w.heap.size + 1) 1 (.int .i64 0)
  obtain ⟨c1_7, f1_7⟩ := cf hb1 (w.heap.size + 1) 2 (.slice none 0 0)
  have hl1_0 := ltB hb1 w.heap.size
  have hl1_1 := ltB hb1 (w.heap.size + 1)
  have hw1 := bwB hb1 w.heap.size w
  have hz1 := hw1.size
  clear hb1
  go_wp2_with fail
  go_wp2_with fail
  with_reducible refine (HT.out _ ?q2).mono ?_
  case q2 => exact HR.out.beyond bel
  rintro e w2 ⟨⟨b, c2, rfl, hB, hbw⟩, hR2, hg2⟩
  have c2_0 := hC hg2 c1_0
  have f2_0 := hF hg2 f1_0
  have c2_1 := hC hg2 c1_1
  have f2_1 := hF hg2 f1_1
  have c2_2 := hC hg2 c1_2
  have f2_2 := hF hg2 f1_2
  have c2_3 := hC hg2 c1_3
  have f2_3 := hF hg2 f1_3
  have c2_4 := hC hg2 c1_4
  have f2_4 := hF hg2 f1_4
  have c2_5 := hC hg2 c1_5
  have f2_5 := hF hg2 f1_5
  have c2_6 := hC hg2 c1_6
  have f2_6 := hF hg2 f1_6
  have c2_7 := hC hg2 c1_7
  have f2_7 := hF hg2 f1_7
  have hgw : w.grownBy w2 (some g) := grown_trans (grown_below hw1 _) hg2
  have hz2 := hg2.size
  have hl20 : w.heap.size < w2.heap.size := by omega
  have hl21 : w.heap.size + 1 < w2.heap.size := by omega
  have hcv := HV.out b c2 w2 hB
  have HB := Lib.hid hB
  have HR2 := Lib.hid hR2
  clear hB hR2 hg2
  go_wp2_with fail
  with_reducible refine (HC.out _ _ _ HB.out).mono ?_
  rintro e w' ⟨rfl, rfl⟩
  go_wp2_with fail
  refine bodyPost_ret (v := .tuple #[.agg #[.int .i64 4, .int .u64 0, .slice none 0 0, .string { data := #[97] }, .slice none 0 0], .agg #[.int .i64 0, .int .i64 0, .slice none 0 0]]) (by simp (maxDischargeDepth := 4) [results, Tryz.results134, go_sem, c2_0, f2_0, c2_1, f2_1, c2_2, f2_2, c2_3, f2_3, c2_4, f2_4, c2_5, f2_5, c2_6, f2_6, c2_7, f2_7]) rfl ?_
  refine ⟨rfl, HR2.out.keeps ?_, ?_⟩
  · repeat' (first | (with_reducible exact Keeps.refl _ _) | (with_reducible refine keeps_set ?_ (by dsimp only; omega) _) | (with_reducible refine keeps_alloc ?_ _))
  · repeat' (first | (with_reducible assumption) | (with_reducible refine grown_set_none ?_ (by dsimp only; omega) _) | (with_reducible refine grown_drew ?_))
end
section
open Go.RowKit
theorem decode_b (b c : Nat) (hc : 12 ≤ c) (w : World) (h : Bs w b 0 bsonL) : Calls Tryz.prog 25 #[.slice (some ⟨b, 0, none⟩) 12 c, .agg #[.int .i64 200, .int .i64 65536, .int .i64 262144]] w fun e w' => (∃ s, e = .returned (.tuple #[.agg #[.int .i64 3, .int .u64 0, .int .u64 0, .int .u64 0, .string { data := #[] }, .string { data := #[] }, .int .i64 0, .slice none 0 0, s], .agg #[.int .i64 0, .int .i64 0, .slice none 0 0]]) ∧ Kd .V (fun b => w.heap.size ≤ b) w' 1 [([97], vI)] s) ∧ Below w.heap.size w w' := by
  have HM := Lib.hid (fun w => may_any 200 65536 262144 (by decide) (by decide) (by decide) (by decide) (by decide) (by decide) w)
  have HD := Lib.hid (fun r w h => doc_b r b c w h)
  have hB := Lib.hid h
  clear h
  go_enter Tryz.func25, Tryz.ntmps25
  go_wp2_with fail
  with_reducible refine (HM.out _).mono ?_
  rintro e w1 ⟨rfl, hb1⟩
  obtain ⟨c1_0, f1_0⟩ := cf hb1 w.heap.size 0 (.int .i64 200)
  obtain ⟨c1_1, f1_1⟩ := cf hb1 w.heap.size 1 (.int .i64 65536)
  obtain ⟨c1_2, f1_2⟩ := cf hb1 w.heap.size 2 (.int .i64 262144)
  obtain ⟨c1_3, f1_3⟩ := cf hb1 (w.heap.size + 1) 0 (.int .i64 0)
  obtain ⟨c1_4, f1_4⟩ := cf hb1 (w.heap.size + 1) 1 (.int .u64 0)
  obtain ⟨c1_5, f1_5⟩ := cf hb1 (w.heap.size + 1) 2 (.int .u64 0)
  obtain ⟨c1_6, f1_6⟩ := cf hb1 (w.heap.size + 1) 3 (.int .u64 0)
  obtain ⟨c1_7, f1_7⟩ := cf hb1 (w.heap.size + 1) 4 (.string { data := #[] })
  obtain ⟨c1_8, f1_8⟩ := cf hb1 (w.heap.size + 1) 5 (.string { data := #[] })
  obtain ⟨c1_9, f1_9⟩ := cf hb1 (w.heap.size + 1) 6 (.int .i64 0)
  obtain ⟨c1_10, f1_10⟩ := cf hb1 (w.heap.size + 1) 7 (.slice none 0 0)
  obtain ⟨c1_11, f1_11⟩ := cf hb1 (w.heap.size + 1) 8 (.slice none 0 0)
  obtain ⟨c1_12, f1_12⟩ := cf hb1 (w.heap.size + 1 + 1) 0 (.int .i64 0)
  obtain ⟨c1_13, f1_13⟩ := cf hb1 (w.heap.size + 1 + 1) 1 (.int .i64 0)
  obtain ⟨c1_14, f1_14⟩ := cf hb1 (w.heap.size + 1 + 1) 2 (.slice none 0 0)
  have hl1_0 := ltB hb1 w.heap.size
  have hl1_1 := ltB hb1 (w.heap.size + 1)
  have hl1_2 := ltB hb1 (w.heap.size + 1 + 1)
  have hw1 := bwB hb1 w.heap.size w
  have hz1 := hw1.size
  clear hb1
  go_wp2_with fail
  with_reducible refine (HD.out (w1.heap.size) _ ?h2).mono ?_
  case h2 => exact ⟨heap_alloc_last _ _, (hB.out.beyond bel), hc⟩
  rintro e w2 ⟨⟨s, rfl, hk⟩, hb2⟩
  have hk2 := Lib.hid (hk.mono (Q' := fun b => w.heap.size + 1 + 1 < b) (fun b hb _ => by simp at hb; first | done | omega))
  clear hk
  obtain ⟨sa, sc, rfl⟩ : ∃ ad c, s = .slice ad 1 c := hk2.out.slice
  obtain ⟨c2_0, f2_0⟩ := cf hb2 w.heap.size 0 (.int .i64 200)
  obtain ⟨c2_1, f2_1⟩ := cf hb2 w.heap.size 1 (.int .i64 65536)
  obtain ⟨c2_2, f2_2⟩ := cf hb2 w.heap.size 2 (.int .i64 262144)
  obtain ⟨c2_3, f2_3⟩ := cf hb2 (w.heap.size + 1) 0 (.int .i64 0)
  obtain ⟨c2_4, f2_4⟩ := cf hb2 (w.heap.size + 1) 1 (.int .u64 0)
  obtain ⟨c2_5, f2_5⟩ := cf hb2 (w.heap.size + 1) 2 (.int .u64 0)
  obtain ⟨c2_6, f2_6⟩ := cf hb2 (w.heap.size + 1) 3 (.int .u64 0)
  obtain ⟨c2_7, f2_7⟩ := cf hb2 (w.heap.size + 1) 4 (.string { data := #[] })
  obtain ⟨c2_8, f2_8⟩ := cf hb2 (w.heap.size + 1) 5 (.string { data := #[] })
  obtain ⟨c2_9, f2_9⟩ := cf hb2 (w.heap.size + 1) 6 (.int .i64 0)
  obtain ⟨c2_10, f2_10⟩ := cf hb2 (w.heap.size + 1) 7 (.slice none 0 0)
  obtain ⟨c2_11, f2_11⟩ := cf hb2 (w.heap.size + 1) 8 (.slice none 0 0)
  obtain ⟨c2_12, f2_12⟩ := cf hb2 (w.heap.size + 1 + 1) 0 (.int .i64 0)
  obtain ⟨c2_13, f2_13⟩ := cf hb2 (w.heap.size + 1 + 1) 1 (.int .i64 0)
  obtain ⟨c2_14, f2_14⟩ := cf hb2 (w.heap.size + 1 + 1) 2 (.slice none 0 0)
  have hl2_0 := ltB hb2 w.heap.size
  have hl2_1 := ltB hb2 (w.heap.size + 1)
  have hl2_2 := ltB hb2 (w.heap.size + 1 + 1)
  have hw2 := bwB hb2 w.heap.size w
  have hz2 := hw2.size
  clear hb2
  go_upto_region 9 with fail
  obtain ⟨x, hx⟩ : ∃ X, X = w2.alloc (.cells #[.int .i64 0, .int .i64 0, .slice none 0 0] 33) := ⟨_, rfl⟩
  rw [← hx]
  have hkx : Keeps (fun b => True) w2 x := by
    rw [hx]
    repeat' (first | (with_reducible assumption) | (with_reducible exact Keeps.refl _ _) | (with_reducible refine keeps_drew ?_) | (with_reducible refine keeps_set ?_ (by dsimp only; omega) _) | (with_reducible refine keeps_alloc ?_ _))
  have hsx : x.heap.size = w2.heap.size + 1 := by rw [hx]; simp
  have hwx : Below w.heap.size w x := by
    rw [hx]
    exact bel
  have kbx_0 : x.heap[w.heap.size + 1]? = w2.heap[w.heap.size + 1]? := hkx.2 _ (by first | exact True.intro | omega | (dsimp only; omega)) (by omega)
  have cx_0 : x.cell? ⟨w.heap.size + 1, 0, none⟩ = some (.int .i64 0) := (World.cell?_of_block (a := ⟨w.heap.size + 1, 0, none⟩) kbx_0).trans c2_3
  have fx_0 : x.frozen? ⟨w.heap.size + 1, 0, none⟩ = false := (World.frozen?_of_block (a := ⟨w.heap.size + 1, 0, none⟩) kbx_0).trans f2_3
  have cx_1 : x.cell? ⟨w.heap.size + 1, 1, none⟩ = some (.int .u64 0) := (World.cell?_of_block (a := ⟨w.heap.size + 1, 1, none⟩) kbx_0).trans c2_4
  have fx_1 : x.frozen? ⟨w.heap.size + 1, 1, none⟩ = false := (World.frozen?_of_block (a := ⟨w.heap.size + 1, 1, none⟩) kbx_0).trans f2_4
  have cx_2 : x.cell? ⟨w.heap.size + 1, 2, none⟩ = some (.int .u64 0) := (World.cell?_of_block (a := ⟨w.heap.size + 1, 2, none⟩) kbx_0).trans c2_5
  have fx_2 : x.frozen? ⟨w.heap.size + 1, 2, none⟩ = false := (World.frozen?_of_block (a := ⟨w.heap.size + 1, 2, none⟩) kbx_0).trans f2_5
  have cx_3 : x.cell? ⟨w.heap.size + 1, 3, none⟩ = some (.int .u64 0) := (World.cell?_of_block (a := ⟨w.heap.size + 1, 3, none⟩) kbx_0).trans c2_6
  have fx_3 : x.frozen? ⟨w.heap.size + 1, 3, none⟩ = false := (World.frozen?_of_block (a := ⟨w.heap.size + 1, 3, none⟩) kbx_0).trans f2_6
  have cx_4 : x.cell? ⟨w.heap.size + 1, 4, none⟩ = some (.string { data := #[] }) := (World.cell?_of_block (a := ⟨w.heap.size + 1, 4, none⟩) kbx_0).trans c2_7
  have fx_4 : x.frozen? ⟨w.heap.size + 1, 4, none⟩ = false := (World.frozen?_of_block (a := ⟨w.heap.size + 1, 4, none⟩) kbx_0).trans f2_7
  have cx_5 : x.cell? ⟨w.heap.size + 1, 5, none⟩ = some (.string { data := #[] }) := (World.cell?_of_block (a := ⟨w.heap.size + 1, 5, none⟩) kbx_0).trans c2_8
  have fx_5 : x.frozen? ⟨w.heap.size + 1, 5, none⟩ = false := (World.frozen?_of_block (a := ⟨w.heap.size + 1, 5, none⟩) kbx_0).trans f2_8
  have cx_6 : x.cell? ⟨w.heap.size + 1, 6, none⟩ = some (.int .i64 0) := (World.cell?_of_block (a := ⟨w.heap.size + 1, 6, none⟩) kbx_0).trans c2_9
  have fx_6 : x.frozen? ⟨w.heap.size + 1, 6, none⟩ = false := (World.frozen?_of_block (a := ⟨w.heap.size + 1, 6, none⟩) kbx_0).trans f2_9
  have cx_7 : x.cell? ⟨w.heap.size + 1, 7, none⟩ = some (.slice none 0 0) := (World.cell?_of_block (a := ⟨w.heap.size + 1, 7, none⟩) kbx_0).trans c2_10
  have fx_7 : x.frozen? ⟨w.heap.size + 1, 7, none⟩ = false := (World.frozen?_of_block (a := ⟨w.heap.size + 1, 7, none⟩) kbx_0).trans f2_10
  have cx_8 : x.cell? ⟨w.heap.size + 1, 8, none⟩ = some (.slice none 0 0) := (World.cell?_of_block (a := ⟨w.heap.size + 1, 8, none⟩) kbx_0).trans c2_11
  have fx_8 : x.frozen? ⟨w.heap.size + 1, 8, none⟩ = false := (World.frozen?_of_block (a := ⟨w.heap.size + 1, 8, none⟩) kbx_0).trans f2_11
  have kbx_1 : x.heap[w.heap.size + 1 + 1]? = w2.heap[w.heap.size + 1 + 1]? := hkx.2 _ (by first | exact True.intro | omega | (dsimp only; omega)) (by omega)
  have cx_9 : x.cell? ⟨w.heap.size + 1 + 1, 0, none⟩ = some (.int .i64 0) := (World.cell?_of_block (a := ⟨w.heap.size + 1 + 1, 0, none⟩) kbx_1).trans c2_12
  have fx_9 : x.frozen? ⟨w.heap.size + 1 + 1, 0, none⟩ = false := (World.frozen?_of_block (a := ⟨w.heap.size + 1 + 1, 0, none⟩) kbx_1).trans f2_12
  have cx_10 : x.cell? ⟨w.heap.size + 1 + 1, 1, none⟩ = some (.int .i64 0) := (World.cell?_of_block (a := ⟨w.heap.size + 1 + 1, 1, none⟩) kbx_1).trans c2_13
  have fx_10 : x.frozen? ⟨w.heap.size + 1 + 1, 1, none⟩ = false := (World.frozen?_of_block (a := ⟨w.heap.size + 1 + 1, 1, none⟩) kbx_1).trans f2_13
  have cx_11 : x.cell? ⟨w.heap.size + 1 + 1, 2, none⟩ = some (.slice none 0 0) := (World.cell?_of_block (a := ⟨w.heap.size + 1 + 1, 2, none⟩) kbx_1).trans c2_14
  have fx_11 : x.frozen? ⟨w.heap.size + 1 + 1, 2, none⟩ = false := (World.frozen?_of_block (a := ⟨w.heap.size + 1 + 1, 2, none⟩) kbx_1).trans f2_14
  have hkx2 := Lib.hid (hk2.out.keeps (hkx.mono (fun b hb => True.intro)))
  have hl1 : w.heap.size + 1 < x.heap.size := by omega
  have hl2 : w.heap.size + 1 + 1 < x.heap.size := by omega
  replace hsx := Lib.hid hsx
  clear hx hkx
  go_wp2_with fail
  refine bodyPost_ret (v := .tuple #[.agg #[.int .i64 3, .int .u64 0, .int .u64 0, .int .u64 0, .string { data := #[] }, .string { data := #[] }, .int .i64 0, .slice none 0 0, .slice sa 1 sc], .agg #[.int .i64 0, .int .i64 0, .slice none 0 0]]) (by simp (maxDischargeDepth := 4) [results, Tryz.results25, go_sem, cx_0, fx_0, cx_1, fx_1, cx_2, fx_2, cx_3, fx_3, cx_4, fx_4, cx_5, fx_5, cx_6, fx_6, cx_7, fx_7, cx_8, fx_8, cx_9, fx_9, cx_10, fx_10, cx_11, fx_11]) rfl ?_
  refine ⟨⟨_, rfl, (hkx2.out.keeps ?_).mono (fun b hb _ => by omega)⟩, bel⟩
  repeat' (first | (with_reducible assumption) | (with_reducible exact Keeps.refl _ _) | (with_reducible refine keeps_drew ?_) | (with_reducible refine keeps_set ?_ (by dsimp only; omega) _) | (with_reducible refine keeps_alloc ?_ _))
end
section
open Go.RowKit
theorem belC {B : Nat} {w W : World} (h : Below B w W := by repeat' (first | (with_reducible assumption) | (with_reducible refine Below.trans ?_ ((cv_below _ _).mono ?_)) | (with_reducible exact Below.refl _ _) | (with_reducible refine below_drewN ?_ _) | (with_reducible refine Below.drew ?_) | (with_reducible refine Below.setCell ?_ ?_ _) | (with_reducible refine Below.alloc ?_ ?_ _) | omega | (simp; done) | (simp; omega))) : Below B w W := h
theorem cv_cell (s : ByteArray) (X : World) (p : Addr) (h : p.block < X.heap.size) : (cvW s X).cell? p = X.cell? p := (cv_below s X).cell h
theorem cv_frozen (s : ByteArray) (X : World) (p : Addr) (h : p.block < X.heap.size) : (cvW s X).frozen? p = X.frozen? p := (cv_below s X).frozen h
theorem may_1 (w : World) : Calls Tryz.prog 24 #[.int .i64 1, .agg #[.int .i64 200, .int .i64 65536, .int .i64 262144]] w fun e w' => e = .returned (.bool true) ∧ Below w.heap.size w w' := by
  have HM := Lib.hid (fun w => may_any 200 65536 262144 (by decide) (by decide) (by decide) (by decide) (by decide) (by decide) w)
  go_enter Tryz.func24, Tryz.ntmps24
  go_wp2_with fail
  with_reducible refine (HM.out _).mono ?_
  rintro e w1 ⟨rfl, hb1⟩
  have hw1 := bwB hb1 w.heap.size w
  clear hb1
  go_wp2_with fail
  go_ret
  exact ⟨rfl, hw1⟩
theorem may_2 (w : World) : Calls Tryz.prog 24 #[.int .i64 2, .agg #[.int .i64 200, .int .i64 65536, .int .i64 262144]] w fun e w' => e = .returned (.bool true) ∧ Below w.heap.size w w' := by
  have HM := Lib.hid (fun w => may_any 200 65536 262144 (by decide) (by decide) (by decide) (by decide) (by decide) (by decide) w)
  go_enter Tryz.func24, Tryz.ntmps24
  go_wp2_with fail
  with_reducible refine (HM.out _).mono ?_
  rintro e w1 ⟨rfl, hb1⟩
  have hw1 := bwB hb1 w.heap.size w
  clear hb1
  go_wp2_with fail
  go_ret
  exact ⟨rfl, hw1⟩
theorem may_3 (w : World) : Calls Tryz.prog 24 #[.int .i64 3, .agg #[.int .i64 200, .int .i64 65536, .int .i64 262144]] w fun e w' => e = .returned (.bool true) ∧ Below w.heap.size w w' := by
  have HM := Lib.hid (fun w => may_any 200 65536 262144 (by decide) (by decide) (by decide) (by decide) (by decide) (by decide) w)
  go_enter Tryz.func24, Tryz.ntmps24
  go_wp2_with fail
  with_reducible refine (HM.out _).mono ?_
  rintro e w1 ⟨rfl, hb1⟩
  have hw1 := bwB hb1 w.heap.size w
  clear hb1
  go_wp2_with fail
  go_ret
  exact ⟨rfl, hw1⟩
theorem may_4 (w : World) : Calls Tryz.prog 24 #[.int .i64 4, .agg #[.int .i64 200, .int .i64 65536, .int .i64 262144]] w fun e w' => e = .returned (.bool true) ∧ Below w.heap.size w w' := by
  have HM := Lib.hid (fun w => may_any 200 65536 262144 (by decide) (by decide) (by decide) (by decide) (by decide) (by decide) w)
  go_enter Tryz.func24, Tryz.ntmps24
  go_wp2_with fail
  with_reducible refine (HM.out _).mono ?_
  rintro e w1 ⟨rfl, hb1⟩
  have hw1 := bwB hb1 w.heap.size w
  clear hb1
  go_wp2_with fail
  go_ret
  exact ⟨rfl, hw1⟩
theorem read_1 (b c : Nat) (hc : 12 ≤ c) (w : World) (h : Bs w b 0 bsonL) : Calls Tryz.prog 10 #[.int .i64 1, .agg #[.int .i64 200, .int .i64 65536, .int .i64 262144], .slice (some ⟨b, 0, none⟩) 12 c] w fun e w' => (∃ s, e = .returned (.tuple #[.agg #[.int .i64 3, .int .u64 0, .int .u64 0, .int .u64 0, .string { data := #[] }, .string { data := #[] }, .int .i64 0, .slice none 0 0, s], .agg #[.int .i64 0, .int .i64 0, .slice none 0 0]]) ∧ Kd .V (fun b => w.heap.size ≤ b) w' 1 iKids s) ∧ Below w.heap.size w w' := by
  have HM := Lib.hid may_1
  have HD := Lib.hid (fun w h => decode_b b c hc w h)
  have HB := Lib.hid h
  clear h
  go_enter Tryz.func10, Tryz.ntmps10
  go_wp2_with fail
  with_reducible refine (HM.out _).mono ?_
  rintro e w1 ⟨rfl, hb1⟩
  obtain ⟨c1_0, f1_0⟩ := cf hb1 w.heap.size 0 (.int .i64 200)
  obtain ⟨c1_1, f1_1⟩ := cf hb1 w.heap.size 1 (.int .i64 65536)
  obtain ⟨c1_2, f1_2⟩ := cf hb1 w.heap.size 2 (.int .i64 262144)
  obtain ⟨c1_3, f1_3⟩ := cf hb1 (w.heap.size + 1) 0 (.int .i64 0)
  obtain ⟨c1_4, f1_4⟩ := cf hb1 (w.heap.size + 1) 1 (.int .u64 0)
  obtain ⟨c1_5, f1_5⟩ := cf hb1 (w.heap.size + 1) 2 (.int .u64 0)
  obtain ⟨c1_6, f1_6⟩ := cf hb1 (w.heap.size + 1) 3 (.int .u64 0)
  obtain ⟨c1_7, f1_7⟩ := cf hb1 (w.heap.size + 1) 4 (.string { data := #[] })
  obtain ⟨c1_8, f1_8⟩ := cf hb1 (w.heap.size + 1) 5 (.string { data := #[] })
  obtain ⟨c1_9, f1_9⟩ := cf hb1 (w.heap.size + 1) 6 (.int .i64 0)
  obtain ⟨c1_10, f1_10⟩ := cf hb1 (w.heap.size + 1) 7 (.slice none 0 0)
  obtain ⟨c1_11, f1_11⟩ := cf hb1 (w.heap.size + 1) 8 (.slice none 0 0)
  obtain ⟨c1_12, f1_12⟩ := cf hb1 (w.heap.size + 1 + 1) 0 (.int .i64 0)
  obtain ⟨c1_13, f1_13⟩ := cf hb1 (w.heap.size + 1 + 1) 1 (.int .i64 0)
  obtain ⟨c1_14, f1_14⟩ := cf hb1 (w.heap.size + 1 + 1) 2 (.slice none 0 0)
  have hl1_0 := ltB hb1 w.heap.size
  have hl1_1 := ltB hb1 (w.heap.size + 1)
  have hl1_2 := ltB hb1 (w.heap.size + 1 + 1)
  have hw1 := bwB hb1 w.heap.size w
  have hz1 := hw1.size
  clear hb1
  go_wp2_with fail
  with_reducible refine (HD.out _ ?h2).mono ?_
  case h2 => exact HB.out.beyond bel
  rintro e w2 ⟨⟨s, rfl, hk⟩, hb2⟩
  have hk2 := Lib.hid (hk.mono (Q' := fun b => w.heap.size + 1 + 1 < b) (fun b hb _ => by first | omega | (simp at hb; omega)))
  clear hk
  obtain ⟨sa, sc, rfl⟩ : ∃ ad c, s = .slice ad 1 c := hk2.out.slice
  obtain ⟨c2_0, f2_0⟩ := cf hb2 (w.heap.size + 1) 0 (.int .i64 0)
  obtain ⟨c2_1, f2_1⟩ := cf hb2 (w.heap.size + 1) 1 (.int .u64 0)
  obtain ⟨c2_2, f2_2⟩ := cf hb2 (w.heap.size + 1) 2 (.int .u64 0)
  obtain ⟨c2_3, f2_3⟩ := cf hb2 (w.heap.size + 1) 3 (.int .u64 0)
  obtain ⟨c2_4, f2_4⟩ := cf hb2 (w.heap.size + 1) 4 (.string { data := #[] })
  obtain ⟨c2_5, f2_5⟩ := cf hb2 (w.heap.size + 1) 5 (.string { data := #[] })
  obtain ⟨c2_6, f2_6⟩ := cf hb2 (w.heap.size + 1) 6 (.int .i64 0)
  obtain ⟨c2_7, f2_7⟩ := cf hb2 (w.heap.size + 1) 7 (.slice none 0 0)
  obtain ⟨c2_8, f2_8⟩ := cf hb2 (w.heap.size + 1) 8 (.slice none 0 0)
  obtain ⟨c2_9, f2_9⟩ := cf hb2 (w.heap.size + 1 + 1) 0 (.int .i64 0)
  obtain ⟨c2_10, f2_10⟩ := cf hb2 (w.heap.size + 1 + 1) 1 (.int .i64 0)
  obtain ⟨c2_11, f2_11⟩ := cf hb2 (w.heap.size + 1 + 1) 2 (.slice none 0 0)
  have hl2_0 := ltB hb2 (w.heap.size + 1)
  have hl2_1 := ltB hb2 (w.heap.size + 1 + 1)
  have hw2 := bwB hb2 w.heap.size w
  have hz2 := hw2.size
  clear hb2
  go_wp2_with fail
  refine bodyPost_ret (v := .tuple #[.agg #[.int .i64 3, .int .u64 0, .int .u64 0, .int .u64 0, .string { data := #[] }, .string { data := #[] }, .int .i64 0, .slice none 0 0, .slice sa 1 sc], .agg #[.int .i64 0, .int .i64 0, .slice none 0 0]]) (by simp (maxDischargeDepth := 4) [results, Tryz.results10, go_sem, c2_0, f2_0, c2_1, f2_1, c2_2, f2_2, c2_3, f2_3, c2_4, f2_4, c2_5, f2_5, c2_6, f2_6, c2_7, f2_7, c2_8, f2_8, c2_9, f2_9, c2_10, f2_10, c2_11, f2_11]) rfl ?_
  refine ⟨⟨_, rfl, (hk2.out.keeps ?_).mono (fun b hb _ => by omega)⟩, bel⟩
  repeat' (first | (with_reducible assumption) | (with_reducible exact Keeps.refl _ _) | (with_reducible refine keeps_drew ?_) | (with_reducible refine keeps_set ?_ (by dsimp only; omega) _) | (with_reducible refine keeps_alloc ?_ _))
theorem laid_2 (Q : Nat → Prop) (bd ad : Option Addr) (bc ac : Nat) (w : World) (h : Is .V Q w 1 (vD iKids) (.agg #[.int .i64 3, .int .u64 0, .int .u64 0, .int .u64 0, .string { data := #[] }, .string { data := #[] }, .int .i64 0, .slice bd 0 bc, .slice ad 1 ac])) : Calls Tryz.prog 27 #[.int .i64 2, .agg #[.int .i64 3, .int .u64 0, .int .u64 0, .int .u64 0, .string { data := #[] }, .string { data := #[] }, .int .i64 0, .slice bd 0 bc, .slice ad 1 ac]] w fun e w' => (∃ g c2, e = .returned (.tuple #[.slice (some ⟨g, 0, none⟩) 24 c2, .agg #[.int .i64 0, .int .i64 0, .slice none 0 0]]) ∧ Bs w' g 0 canL ∧ w.heap.size ≤ g) ∧ Below w.heap.size w w' := by
  have HT : Hid (∀ w, Is .V Q w 1 (vD iKids) (.agg #[.int .i64 3, .int .u64 0, .int .u64 0, .int .u64 0, .string { data := #[] }, .string { data := #[] }, .int .i64 0, .slice bd 0 bc, .slice ad 1 ac]) → Calls Tryz.prog 16 #[.agg #[.int .i64 3, .int .u64 0, .int .u64 0, .int .u64 0, .string { data := #[] }, .string { data := #[] }, .int .i64 0, .slice bd 0 bc, .slice ad 1 ac]] w fun e w' => e = .returned (.tuple #[.string (bs canL), .agg #[.int .i64 0, .int .i64 0, .slice none 0 0]]) ∧ Below w.heap.size w w') := Lib.hid (fun w h => ctext_i Q w _ h)
  have HK := Lib.hid h
  have hcv : ∀ w, (convert 9 24 (.string (bs canL))).run Tryz.prog w = .ok (.slice (some ⟨w.heap.size, 0, none⟩) 24 (cvC (bs canL) w)) (cvW (bs canL) w) := fun w => cv_run (bs canL) w
  have HBs := Lib.hid (fun w => cv_bs canL w)
  obtain ⟨TT, hTT⟩ : ∃ T, bs canL = T := ⟨_, rfl⟩
  rw [hTT] at HT hcv HBs
  have hcc := cv_cell TT
  have hcf := cv_frozen TT
  clear h hTT
  go_enter Tryz.func27, Tryz.ntmps27
  go_wp2_with fail
  with_reducible refine (HT.out _ ?h1).mono ?_
  case h1 => exact HK.out.beyond bel
  rintro e w1 ⟨rfl, hb1⟩
  obtain ⟨c1_0, f1_0⟩ := cf hb1 (w.heap.size + 1) 0 (.int .i64 0)
  obtain ⟨c1_1, f1_1⟩ := cf hb1 (w.heap.size + 1) 1 (.int .i64 0)
  obtain ⟨c1_2, f1_2⟩ := cf hb1 (w.heap.size + 1) 2 (.slice none 0 0)
  have hl1_0 := ltB hb1 (w.heap.size + 1)
  have hw1 := bwB hb1 w.heap.size w
  have hz1 := hw1.size
  clear hb1
  go_upto_region 6 with fail
  obtain ⟨x, hx⟩ : ∃ X, X = w1.alloc (.cells #[.int .i64 0, .int .i64 0, .slice none 0 0] 33) := ⟨_, rfl⟩
  rw [← hx]
  have hkx : Keeps (fun b => True) w1 x := by
    rw [hx]
    repeat' (first | (with_reducible assumption) | (with_reducible exact Keeps.refl _ _) | (with_reducible refine keeps_drew ?_) | (with_reducible refine keeps_set ?_ (by dsimp only; omega) _) | (with_reducible refine keeps_alloc ?_ _))
  have hsx : x.heap.size = w1.heap.size + 1 := by rw [hx]; simp
  have hwx : Below w.heap.size w x := by
    rw [hx]
    exact bel
  have kbx_0 : x.heap[w.heap.size + 1]? = w1.heap[w.heap.size + 1]? := hkx.2 _ (by first | exact True.intro | omega | (dsimp only; omega)) (by omega)
  have cx_0 : x.cell? ⟨w.heap.size + 1, 0, none⟩ = some (.int .i64 0) := (World.cell?_of_block (a := ⟨w.heap.size + 1, 0, none⟩) kbx_0).trans c1_0
  have fx_0 : x.frozen? ⟨w.heap.size + 1, 0, none⟩ = false := (World.frozen?_of_block (a := ⟨w.heap.size + 1, 0, none⟩) kbx_0).trans f1_0
  have cx_1 : x.cell? ⟨w.heap.size + 1, 1, none⟩ = some (.int .i64 0) := (World.cell?_of_block (a := ⟨w.heap.size + 1, 1, none⟩) kbx_0).trans c1_1
  have fx_1 : x.frozen? ⟨w.heap.size + 1, 1, none⟩ = false := (World.frozen?_of_block (a := ⟨w.heap.size + 1, 1, none⟩) kbx_0).trans f1_1
  have cx_2 : x.cell? ⟨w.heap.size + 1, 2, none⟩ = some (.slice none 0 0) := (World.cell?_of_block (a := ⟨w.heap.size + 1, 2, none⟩) kbx_0).trans c1_2
  have fx_2 : x.frozen? ⟨w.heap.size + 1, 2, none⟩ = false := (World.frozen?_of_block (a := ⟨w.heap.size + 1, 2, none⟩) kbx_0).trans f1_2
  have hf := (show x.heap[w1.heap.size]? = some (.cells #[.int .i64 0, .int .i64 0, .slice none 0 0] 33 (0, 0)) by rw [hx]; exact heap_alloc_last _ _)
  have e0 : x.cell? ⟨w1.heap.size, 0, none⟩ = some (.int .i64 0) := by rw [cell_of_row _ _ 0 _ _ _ hf]; rfl
  have e1 : x.cell? ⟨w1.heap.size, 1, none⟩ = some (.int .i64 0) := by rw [cell_of_row _ _ 1 _ _ _ hf]; rfl
  have e2 : x.cell? ⟨w1.heap.size, 2, none⟩ = some (.slice none 0 0) := by rw [cell_of_row _ _ 2 _ _ _ hf]; rfl
  have hl1 : w.heap.size + 1 < x.heap.size := by omega
  have hl2 : w1.heap.size < x.heap.size := by omega
  have hl3 : w1.heap.size ≠ w.heap.size + 1 := by omega
  replace hsx := Lib.hid hsx
  clear hx hkx hf
  have y0 : (cvW TT x.drew).cell? ⟨w.heap.size + 1, 0, none⟩ = some (.int .i64 0) := (cv_cell TT x.drew _ (by assumption)).trans cx_0
  have z0 : (cvW TT x.drew).frozen? ⟨w.heap.size + 1, 0, none⟩ = false := (cv_frozen TT x.drew _ (by assumption)).trans fx_0
  have y1 : (cvW TT x.drew).cell? ⟨w.heap.size + 1, 1, none⟩ = some (.int .i64 0) := (cv_cell TT x.drew _ (by assumption)).trans cx_1
  have z1 : (cvW TT x.drew).frozen? ⟨w.heap.size + 1, 1, none⟩ = false := (cv_frozen TT x.drew _ (by assumption)).trans fx_1
  have y2 : (cvW TT x.drew).cell? ⟨w.heap.size + 1, 2, none⟩ = some (.slice none 0 0) := (cv_cell TT x.drew _ (by assumption)).trans cx_2
  have z2 : (cvW TT x.drew).frozen? ⟨w.heap.size + 1, 2, none⟩ = false := (cv_frozen TT x.drew _ (by assumption)).trans fx_2
  have y3 : (cvW TT x.drew).cell? ⟨w1.heap.size, 0, none⟩ = some (.int .i64 0) := (cv_cell TT x.drew _ (by assumption)).trans e0
  have y4 : (cvW TT x.drew).cell? ⟨w1.heap.size, 1, none⟩ = some (.int .i64 0) := (cv_cell TT x.drew _ (by assumption)).trans e1
  have y5 : (cvW TT x.drew).cell? ⟨w1.heap.size, 2, none⟩ = some (.slice none 0 0) := (cv_cell TT x.drew _ (by assumption)).trans e2
  go_region
  all_goals
    go_wp2_with fail
    refine bodyPost_ret (v := .tuple #[.slice (some ⟨x.heap.size, 0, none⟩) 24 (cvC TT x.drew), .agg #[.int .i64 0, .int .i64 0, .slice none 0 0]]) (by simp (maxDischargeDepth := 4) [results, Tryz.results27, go_sem, hcc, hcf, hl1, hl2, y0, y1, y2, z0, z1, z2, cx_0, fx_0, cx_1, fx_1, cx_2, fx_2]) rfl ?_
    refine ⟨⟨_, _, rfl, ?_, by omega⟩, ?_⟩
    · repeat' (first | (with_reducible refine Bs.drew ?_) | (with_reducible refine Bs.set ?_ (by dsimp only; omega) _) | exact HBs.out _)
    · exact belC
theorem laid_3 (Q : Nat → Prop) (bd ad : Option Addr) (bc ac : Nat) (w : World) (h : Is .V Q w 1 (vD iKids) (.agg #[.int .i64 3, .int .u64 0, .int .u64 0, .int .u64 0, .string { data := #[] }, .string { data := #[] }, .int .i64 0, .slice bd 0 bc, .slice ad 1 ac])) : Calls Tryz.prog 27 #[.int .i64 3, .agg #[.int .i64 3, .int .u64 0, .int .u64 0, .int .u64 0, .string { data := #[] }, .string { data := #[] }, .int .i64 0, .slice bd 0 bc, .slice ad 1 ac]] w fun e w' => (∃ g c2, e = .returned (.tuple #[.slice (some ⟨g, 0, none⟩) 7 c2, .agg #[.int .i64 0, .int .i64 0, .slice none 0 0]]) ∧ Bs w' g 0 relL ∧ w.heap.size ≤ g) ∧ Below w.heap.size w w' := by
  have HT : Hid (∀ w, Is .V Q w 1 (vD iKids) (.agg #[.int .i64 3, .int .u64 0, .int .u64 0, .int .u64 0, .string { data := #[] }, .string { data := #[] }, .int .i64 0, .slice bd 0 bc, .slice ad 1 ac]) → Calls Tryz.prog 17 #[.agg #[.int .i64 3, .int .u64 0, .int .u64 0, .int .u64 0, .string { data := #[] }, .string { data := #[] }, .int .i64 0, .slice bd 0 bc, .slice ad 1 ac]] w fun e w' => e = .returned (.tuple #[.string (bs relL), .agg #[.int .i64 0, .int .i64 0, .slice none 0 0]]) ∧ Below w.heap.size w w') := Lib.hid (fun w h => xtext_i Q w _ h)
  have HK := Lib.hid h
  have hcv : ∀ w, (convert 9 24 (.string (bs relL))).run Tryz.prog w = .ok (.slice (some ⟨w.heap.size, 0, none⟩) 7 (cvC (bs relL) w)) (cvW (bs relL) w) := fun w => cv_run (bs relL) w
  have HBs := Lib.hid (fun w => cv_bs relL w)
  obtain ⟨TT, hTT⟩ : ∃ T, bs relL = T := ⟨_, rfl⟩
  rw [hTT] at HT hcv HBs
  have hcc := cv_cell TT
  have hcf := cv_frozen TT
  clear h hTT
  go_enter Tryz.func27, Tryz.ntmps27
  go_wp2_with fail
  with_reducible refine (HT.out _ ?h1).mono ?_
  case h1 => exact HK.out.beyond bel
  rintro e w1 ⟨rfl, hb1⟩
  obtain ⟨c1_0, f1_0⟩ := cf hb1 (w.heap.size + 1) 0 (.int .i64 0)
  obtain ⟨c1_1, f1_1⟩ := cf hb1 (w.heap.size + 1) 1 (.int .i64 0)
  obtain ⟨c1_2, f1_2⟩ := cf hb1 (w.heap.size + 1) 2 (.slice none 0 0)
  have hl1_0 := ltB hb1 (w.heap.size + 1)
  have hw1 := bwB hb1 w.heap.size w
  have hz1 := hw1.size
  clear hb1
  go_upto_region 9 with fail
  obtain ⟨x, hx⟩ : ∃ X, X = w1.alloc (.cells #[.int .i64 0, .int .i64 0, .slice none 0 0] 33) := ⟨_, rfl⟩
  rw [← hx]
  have hkx : Keeps (fun b => True) w1 x := by
    rw [hx]
    repeat' (first | (with_reducible assumption) | (with_reducible exact Keeps.refl _ _) | (with_reducible refine keeps_drew ?_) | (with_reducible refine keeps_set ?_ (by dsimp only; omega) _) | (with_reducible refine keeps_alloc ?_ _))
  have hsx : x.heap.size = w1.heap.size + 1 := by rw [hx]; simp
  have hwx : Below w.heap.size w x := by
    rw [hx]
    exact bel
  have kbx_0 : x.heap[w.heap.size + 1]? = w1.heap[w.heap.size + 1]? := hkx.2 _ (by first | exact True.intro | omega | (dsimp only; omega)) (by omega)
  have cx_0 : x.cell? ⟨w.heap.size + 1, 0, none⟩ = some (.int .i64 0) := (World.cell?_of_block (a := ⟨w.heap.size + 1, 0, none⟩) kbx_0).trans c1_0
  have fx_0 : x.frozen? ⟨w.heap.size + 1, 0, none⟩ = false := (World.frozen?_of_block (a := ⟨w.heap.size + 1, 0, none⟩) kbx_0).trans f1_0
  have cx_1 : x.cell? ⟨w.heap.size + 1, 1, none⟩ = some (.int .i64 0) := (World.cell?_of_block (a := ⟨w.heap.size + 1, 1, none⟩) kbx_0).trans c1_1
  have fx_1 : x.frozen? ⟨w.heap.size + 1, 1, none⟩ = false := (World.frozen?_of_block (a := ⟨w.heap.size + 1, 1, none⟩) kbx_0).trans f1_1
  have cx_2 : x.cell? ⟨w.heap.size + 1, 2, none⟩ = some (.slice none 0 0) := (World.cell?_of_block (a := ⟨w.heap.size + 1, 2, none⟩) kbx_0).trans c1_2
  have fx_2 : x.frozen? ⟨w.heap.size + 1, 2, none⟩ = false := (World.frozen?_of_block (a := ⟨w.heap.size + 1, 2, none⟩) kbx_0).trans f1_2
  have hf := (show x.heap[w1.heap.size]? = some (.cells #[.int .i64 0, .int .i64 0, .slice none 0 0] 33 (0, 0)) by rw [hx]; exact heap_alloc_last _ _)
  have e0 : x.cell? ⟨w1.heap.size, 0, none⟩ = some (.int .i64 0) := by rw [cell_of_row _ _ 0 _ _ _ hf]; rfl
  have e1 : x.cell? ⟨w1.heap.size, 1, none⟩ = some (.int .i64 0) := by rw [cell_of_row _ _ 1 _ _ _ hf]; rfl
  have e2 : x.cell? ⟨w1.heap.size, 2, none⟩ = some (.slice none 0 0) := by rw [cell_of_row _ _ 2 _ _ _ hf]; rfl
  have hl1 : w.heap.size + 1 < x.heap.size := by omega
  have hl2 : w1.heap.size < x.heap.size := by omega
  have hl3 : w1.heap.size ≠ w.heap.size + 1 := by omega
  replace hsx := Lib.hid hsx
  clear hx hkx hf
  have y0 : (cvW TT x.drew).cell? ⟨w.heap.size + 1, 0, none⟩ = some (.int .i64 0) := (cv_cell TT x.drew _ (by assumption)).trans cx_0
  have z0 : (cvW TT x.drew).frozen? ⟨w.heap.size + 1, 0, none⟩ = false := (cv_frozen TT x.drew _ (by assumption)).trans fx_0
  have y1 : (cvW TT x.drew).cell? ⟨w.heap.size + 1, 1, none⟩ = some (.int .i64 0) := (cv_cell TT x.drew _ (by assumption)).trans cx_1
  have z1 : (cvW TT x.drew).frozen? ⟨w.heap.size + 1, 1, none⟩ = false := (cv_frozen TT x.drew _ (by assumption)).trans fx_1
  have y2 : (cvW TT x.drew).cell? ⟨w.heap.size + 1, 2, none⟩ = some (.slice none 0 0) := (cv_cell TT x.drew _ (by assumption)).trans cx_2
  have z2 : (cvW TT x.drew).frozen? ⟨w.heap.size + 1, 2, none⟩ = false := (cv_frozen TT x.drew _ (by assumption)).trans fx_2
  have y3 : (cvW TT x.drew).cell? ⟨w1.heap.size, 0, none⟩ = some (.int .i64 0) := (cv_cell TT x.drew _ (by assumption)).trans e0
  have y4 : (cvW TT x.drew).cell? ⟨w1.heap.size, 1, none⟩ = some (.int .i64 0) := (cv_cell TT x.drew _ (by assumption)).trans e1
  have y5 : (cvW TT x.drew).cell? ⟨w1.heap.size, 2, none⟩ = some (.slice none 0 0) := (cv_cell TT x.drew _ (by assumption)).trans e2
  go_region
  all_goals
    go_wp2_with fail
    refine bodyPost_ret (v := .tuple #[.slice (some ⟨x.heap.size, 0, none⟩) 7 (cvC TT x.drew), .agg #[.int .i64 0, .int .i64 0, .slice none 0 0]]) (by simp (maxDischargeDepth := 4) [results, Tryz.results27, go_sem, hcc, hcf, hl1, hl2, y0, y1, y2, z0, z1, z2, cx_0, fx_0, cx_1, fx_1, cx_2, fx_2]) rfl ?_
    refine ⟨⟨_, _, rfl, ?_, by omega⟩, ?_⟩
    · repeat' (first | (with_reducible refine Bs.drew ?_) | (with_reducible refine Bs.set ?_ (by dsimp only; omega) _) | exact HBs.out _)
    · exact belC
end
end Go.Proofs.YtihnfhhopldllaaGreatDoor
