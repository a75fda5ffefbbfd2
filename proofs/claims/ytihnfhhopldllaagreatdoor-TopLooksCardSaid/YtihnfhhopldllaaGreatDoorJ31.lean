/- Parts of the proof of TopLooks: U79. No condition. -/
import Derived.Test.YtihnfhhopldllaaGreatDoorJ1
import Derived.Test.YtihnfhhopldllaaGreatDoorJ30
namespace Go.Proofs.YtihnfhhopldllaaGreatDoor
set_option linter.unusedSimpArgs false
set_option linter.unusedVariables false
set_option maxHeartbeats 6400000
set_option maxRecDepth 100000
section
open Go.RowKit
theorem evalue_wI (b o c : Nat) (tx : ByteArray) (sd : Option Addr) (V3 sc : Nat) (w : World) (hb : b < w.heap.size) (r0 : w.cell? ⟨b, o, none⟩ = some (.string { data := #[36, 110, 117, 109, 98, 101, 114, 73, 110, 116] })) (r1 : w.cell? ⟨b, o + 1, none⟩ = some (.int .i64 5)) (r2 : w.cell? ⟨b, o + 2, none⟩ = some (.string { data := #[49] })) (r3 : w.cell? ⟨b, o + 3, none⟩ = some (.slice sd V3 sc)) (p : Value) :
    Calls Tryz.prog 119 #[.agg #[.int .i64 7, .string tx, .slice (some ⟨b, o, none⟩) 1 c], p] w fun e w' => e = .returned (.tuple #[.agg #[.int .i64 16, .int .u64 1, .int .u64 0, .int .u64 0, .string { data := #[] }, .string { data := #[] }, .int .i64 0, .slice none 0 0, .slice none 0 0], .agg #[.int .i64 0, .int .i64 0, .slice none 0 0]]) ∧ Below w.heap.size w w' := by
  have H1 : Hid (∀ w : World, Calls Tryz.prog 176 #[.string { data := #[36, 110, 117, 109, 98, 101, 114, 73, 110, 116] }, .string { data := #[36] }] w fun e w' => e = .returned (.bool true) ∧ w = w') := Lib.hid (fun w => (Tryz.strings_HasPrefix { data := #[36, 110, 117, 109, 98, 101, 114, 73, 110, 116] } { data := #[36] } w).mono (fun e w' h => ⟨by rw [h.1]; rfl, h.2.symm⟩))
  have HH : Hid (∀ u : World, u.cell? ⟨b, o, none⟩ = some (.string { data := #[36, 110, 117, 109, 98, 101, 114, 73, 110, 116] }) → u.cell? ⟨b, o + 1, none⟩ = some (.int .i64 5) → u.cell? ⟨b, o + 2, none⟩ = some (.string { data := #[49] }) → u.cell? ⟨b, o + 3, none⟩ = some (.slice sd V3 sc) → b < u.heap.size → Calls Tryz.prog 199 #[.agg #[.int .i64 7, .string tx, .slice (some ⟨b, o, none⟩) 1 c]] u fun e w' => e = .returned (.tuple #[.agg #[.int .i64 0, .int .u64 0, .int .u64 0, .int .u64 0, .string { data := #[] }, .string { data := #[] }, .int .i64 0, .slice none 0 0, .slice none 0 0], .slice none 0 0, .bool false]) ∧ Below u.heap.size u w') := Lib.hid (fun u r0 r1 r2 r3 hb => holder_no { data := #[36, 110, 117, 109, 98, 101, 114, 73, 110, 116] } b o c tx { data := #[49] } sd V3 sc u hb r0 r1 r2 r3)
  have HD : Hid (∀ u : World, u.cell? ⟨b, o, none⟩ = some (.string { data := #[36, 110, 117, 109, 98, 101, 114, 73, 110, 116] }) → u.cell? ⟨b, o + 1, none⟩ = some (.int .i64 5) → u.cell? ⟨b, o + 2, none⟩ = some (.string { data := #[49] }) → u.cell? ⟨b, o + 3, none⟩ = some (.slice sd V3 sc) → b < u.heap.size → Calls Tryz.prog 200 #[.agg #[.int .i64 7, .string tx, .slice (some ⟨b, o, none⟩) 1 c]] u fun e w' => e = .returned (.tuple #[.agg #[.int .i64 16, .int .u64 1, .int .u64 0, .int .u64 0, .string { data := #[] }, .string { data := #[] }, .int .i64 0, .slice none 0 0, .slice none 0 0], .bool true]) ∧ Below u.heap.size u w') := Lib.hid (fun u r0 r1 r2 r3 hb => digits_1 b o c tx sd V3 sc u hb r0 r1 r2 r3)
  have hix : ∀ w, (Instr.index 257 (.agg #[.func (.func 200) #[] #[], .func (.func 201) #[] #[], .func (.func 202) #[] #[], .func (.func 203) #[] #[]]) (.int .i64 0)).run Tryz.prog w = .ok (.func (.func 200) #[] #[]) w := fun _ => by kernel_rfl
  have n0 : b ≠ w.heap.size := by omega
  have m0 : b < w.heap.size + 1 := by omega
  have n1 : b ≠ w.heap.size + 1 := by omega
  have m1 : b < w.heap.size + 1 + 1 := by omega
  have n2 : b ≠ w.heap.size + 1 + 1 := by omega
  have m2 : b < w.heap.size + 1 + 1 + 1 := by omega
  have n3 : b ≠ w.heap.size + 1 + 1 + 1 := by omega
  have m3 : b < w.heap.size + 1 + 1 + 1 + 1 := by omega
  go_enter Tryz.func119, Tryz.ntmps119
  go_wp2_with fail
  with_reducible refine (H1.out _).mono ?_
  rintro e w' ⟨rfl, rfl⟩
  go_wp2_with fail
  with_reducible refine (HH.out _ ?r0 ?r1 ?r2 ?r3 ?r4).mono ?_
  case r0 => first | with_reducible assumption | (simp [go_sem]; done) | (simp [go_sem, *]; done)
  case r1 => first | with_reducible assumption | (simp [go_sem]; done) | (simp [go_sem, *]; done)
  case r2 => first | with_reducible assumption | (simp [go_sem]; done) | (simp [go_sem, *]; done)
  case r3 => first | with_reducible assumption | (simp [go_sem]; done) | (simp [go_sem, *]; done)
  case r4 => first | assumption | (simp; omega)
  rintro e w1 ⟨rfl, hb1⟩
  have rr0 := cB hb1 b o (.string { data := #[36, 110, 117, 109, 98, 101, 114, 73, 110, 116] })
  have rr1 := cB hb1 b (o + 1) (.int .i64 5)
  have rr2 := cB hb1 b (o + 2) (.string { data := #[49] })
  have rr3 := cB hb1 b (o + 3) (.slice sd V3 sc)
  obtain ⟨c1_0, f1_0⟩ := cf hb1 w.heap.size 0 (.int .i64 7)
  obtain ⟨c1_1, f1_1⟩ := cf hb1 w.heap.size 1 (.string tx)
  obtain ⟨c1_2, f1_2⟩ := cf hb1 w.heap.size 2 (.slice (some ⟨b, o, none⟩) 1 c)
  obtain ⟨c1_3, f1_3⟩ := cf hb1 (w.heap.size + 1) 0 (.int .i64 0)
  obtain ⟨c1_4, f1_4⟩ := cf hb1 (w.heap.size + 1) 1 (.int .u64 0)
  obtain ⟨c1_5, f1_5⟩ := cf hb1 (w.heap.size + 1) 2 (.int .u64 0)
  obtain ⟨c1_6, f1_6⟩ := cf hb1 (w.heap.size + 1) 3 (.int .u64 0)
  obtain ⟨c1_7, f1_7⟩ := cf hb1 (w.heap.size + 1) 4 (.string { data := #[] })
  obtain ⟨c1_8, f1_8⟩ := cf hb1 (w.heap.size + 1) 5 (.string { data := #[] })
  obtain ⟨c1_9, f1_9⟩ := cf hb1 (w.heap.size + 1) 6 (.int .i64 0)
  obtain ⟨c1_10, f1_10⟩ := cf hb1 (w.heap.size + 1) 7 (.slice none 0 0)
  obtain ⟨c1_11, f1_11⟩ := cf hb1 (w.heap.size + 1) 8 (.slice none 0 0)
  obtain ⟨c1_12, f1_12⟩ := cf hb1 (w.heap.size + 1 + 1) 0 (.int .i64 0)
  obtain ⟨c1_13, f1_13⟩ := cf hb1 (w.heap.size + 1 + 1) 1 (.int .i64 0)
  obtain ⟨c1_14, f1_14⟩ := cf hb1 (w.heap.size + 1 + 1) 2 (.slice none 0 0)
  have hl1_0 := ltB hb1 w.heap.size
  have hl1_1 := ltB hb1 (w.heap.size + 1)
  have hl1_2 := ltB hb1 (w.heap.size + 1 + 1)
  have hw1 := bwB hb1 w.heap.size w
  have hz1 := hw1.size
  clear hb1
  have hbw1 : b < w1.heap.size := by omega
  have hbn1 : b ≠ w1.heap.size := by omega
  have hbm1 : b < w1.heap.size + 1 := by omega
  go_wp2_with fail
  refine wp_loop_rounds 5 ?_
  rw [rounds_succ]
  go_wp2_with fail
  with_reducible refine (HD.out _ ?r0 ?r1 ?r2 ?r3 ?r4).mono ?_
  case r0 => first | with_reducible assumption | (simp [go_sem]; done) | (simp [go_sem, *]; done)
  case r1 => first | with_reducible assumption | (simp [go_sem]; done) | (simp [go_sem, *]; done)
  case r2 => first | with_reducible assumption | (simp [go_sem]; done) | (simp [go_sem, *]; done)
  case r3 => first | with_reducible assumption | (simp [go_sem]; done) | (simp [go_sem, *]; done)
  case r4 => first | assumption | (simp; omega)
  rintro e w2 ⟨rfl, hb2⟩
  obtain ⟨c2_0, f2_0⟩ := cf hb2 w.heap.size 0 (.int .i64 7)
  obtain ⟨c2_1, f2_1⟩ := cf hb2 w.heap.size 1 (.string tx)
  obtain ⟨c2_2, f2_2⟩ := cf hb2 w.heap.size 2 (.slice (some ⟨b, o, none⟩) 1 c)
  obtain ⟨c2_3, f2_3⟩ := cf hb2 (w.heap.size + 1) 0 (.int .i64 0)
  obtain ⟨c2_4, f2_4⟩ := cf hb2 (w.heap.size + 1) 1 (.int .u64 0)
  obtain ⟨c2_5, f2_5⟩ := cf hb2 (w.heap.size + 1) 2 (.int .u64 0)
  obtain ⟨c2_6, f2_6⟩ := cf hb2 (w.heap.size + 1) 3 (.int .u64 0)
  obtain ⟨c2_7, f2_7⟩ := cf hb2 (w.heap.size + 1) 4 (.string { data := #[] })
  obtain ⟨c2_8, f2_8⟩ := cf hb2 (w.heap.size + 1) 5 (.string { data := #[] })
  obtain ⟨c2_9, f2_9⟩ := cf hb2 (w.heap.size + 1) 6 (.int .i64 0)
  obtain ⟨c2_10, f2_10⟩ := cf hb2 (w.heap.size + 1) 7 (.slice none 0 0)
  obtain ⟨c2_11, f2_11⟩ := cf hb2 (w.heap.size + 1) 8 (.slice none 0 0)
  obtain ⟨c2_12, f2_12⟩ := cf hb2 (w.heap.size + 1 + 1) 0 (.int .i64 0)
  obtain ⟨c2_13, f2_13⟩ := cf hb2 (w.heap.size + 1 + 1) 1 (.int .i64 0)
  obtain ⟨c2_14, f2_14⟩ := cf hb2 (w.heap.size + 1 + 1) 2 (.slice none 0 0)
  have hl2_0 := ltB hb2 w.heap.size
  have hl2_1 := ltB hb2 (w.heap.size + 1)
  have hl2_2 := ltB hb2 (w.heap.size + 1 + 1)
  have hw2 := bwB hb2 w.heap.size w
  have hz2 := hw2.size
  clear hb2
  go_upto_region 35 with fail
  obtain ⟨x, hx⟩ : ∃ X, X = w2.alloc (.cells #[.int .i64 16, .int .u64 1, .int .u64 0, .int .u64 0, .string { data := #[] }, .string { data := #[] }, .int .i64 0, .slice none 0 0, .slice none 0 0] 39) := ⟨_, rfl⟩
  rw [← hx]
  have hkx : Keeps (fun b => True) w2 x := by
    rw [hx]
    repeat' (first | (with_reducible assumption) | (with_reducible exact Keeps.refl _ _) | (with_reducible refine keeps_drew ?_) | (with_reducible refine keeps_set ?_ (by dsimp only; omega) _) | (with_reducible refine keeps_alloc ?_ _))
  have hsx : x.heap.size = w2.heap.size + 1 := by rw [hx]; simp
  have hwx : Below w.heap.size w x := by
    rw [hx]
    exact bel
  have kbx_0 : x.heap[w.heap.size + 1]? = w2.heap[w.heap.size + 1]? := hkx.2 _ (by first | exact True.intro | omega | (dsimp only; omega)) (by omega)
  have cx_0 : x.cell? ⟨w.heap.size + 1, 0, none⟩ = some (.int .i64 0) := (World.cell?_of_block (a := ⟨w.heap.size + 1, 0, none⟩) kbx_0).trans c2_3
  have fx_0 : x.frozen? ⟨w.heap.size + 1, 0, none⟩ = false := (World.frozen?_of_block (a := ⟨w.heap.size + 1, 0, none⟩) kbx_0).trans f2_3
  have cx_1 : x.cell? ⟨w.heap.size + 1, 1, none⟩ = some (.int .u64 0) := (World.cell?_of_block (a := ⟨w.heap.size + 1, 1, none⟩) kbx_0).trans c2_4
  have fx_1 : x.frozen? ⟨w.heap.size + 1, 1, none⟩ = false := (World.frozen?_of_block (a := ⟨w.heap.size + 1, 1, none⟩) kbx_0).trans f2_4
  have cx_2 : x.cell? ⟨w.heap.size + 1, 2, none⟩ = some (.int .u64 0) := (World.cell?_of_block (a := ⟨w.heap.size + 1, 2, none⟩) kbx_0).trans c2_5
  have fx_2 : x.frozen? ⟨w.heap.size + 1, 2, none⟩ = false := (World.frozen?_of_block (a := ⟨w.heap.size + 1, 2, none⟩) kbx_0).trans f2_5
  have cx_3 : x.cell? ⟨w.heap.size + 1, 3, none⟩ = some (.int .u64 0) := (World.cell?_of_block (a := ⟨w.heap.size + 1, 3, none⟩) kbx_0).trans c2_6
  have fx_3 : x.frozen? ⟨w.heap.size + 1, 3, none⟩ = false := (World.frozen?_of_block (a := ⟨w.heap.size + 1, 3, none⟩) kbx_0).trans f2_6
  have cx_4 : x.cell? ⟨w.heap.size + 1, 4, none⟩ = some (.string { data := #[] }) := (World.cell?_of_block (a := ⟨w.heap.size + 1, 4, none⟩) kbx_0).trans c2_7
  have fx_4 : x.frozen? ⟨w.heap.size + 1, 4, none⟩ = false := (World.frozen?_of_block (a := ⟨w.heap.size + 1, 4, none⟩) kbx_0).trans f2_7
  have cx_5 : x.cell? ⟨w.heap.size + 1, 5, none⟩ = some (.string { data := #[] }) := (World.cell?_of_block (a := ⟨w.heap.size + 1, 5, none⟩) kbx_0).trans c2_8
  have fx_5 : x.frozen? ⟨w.heap.size + 1, 5, none⟩ = false := (World.frozen?_of_block (a := ⟨w.heap.size + 1, 5, none⟩) kbx_0).trans f2_8
  have cx_6 : x.cell? ⟨w.heap.size + 1, 6, none⟩ = some (.int .i64 0) := (World.cell?_of_block (a := ⟨w.heap.size + 1, 6, none⟩) kbx_0).trans c2_9
  have fx_6 : x.frozen? ⟨w.heap.size + 1, 6, none⟩ = false := (World.frozen?_of_block (a := ⟨w.heap.size + 1, 6, none⟩) kbx_0).trans f2_9
  have cx_7 : x.cell? ⟨w.heap.size + 1, 7, none⟩ = some (.slice none 0 0) := (World.cell?_of_block (a := ⟨w.heap.size + 1, 7, none⟩) kbx_0).trans c2_10
  have fx_7 : x.frozen? ⟨w.heap.size + 1, 7, none⟩ = false := (World.frozen?_of_block (a := ⟨w.heap.size + 1, 7, none⟩) kbx_0).trans f2_10
  have cx_8 : x.cell? ⟨w.heap.size + 1, 8, none⟩ = some (.slice none 0 0) := (World.cell?_of_block (a := ⟨w.heap.size + 1, 8, none⟩) kbx_0).trans c2_11
  have fx_8 : x.frozen? ⟨w.heap.size + 1, 8, none⟩ = false := (World.frozen?_of_block (a := ⟨w.heap.size + 1, 8, none⟩) kbx_0).trans f2_11
  have kbx_1 : x.heap[w.heap.size + 1 + 1]? = w2.heap[w.heap.size + 1 + 1]? := hkx.2 _ (by first | exact True.intro | omega | (dsimp only; omega)) (by omega)
  have cx_9 : x.cell? ⟨w.heap.size + 1 + 1, 0, none⟩ = some (.int .i64 0) := (World.cell?_of_block (a := ⟨w.heap.size + 1 + 1, 0, none⟩) kbx_1).trans c2_12
  have fx_9 : x.frozen? ⟨w.heap.size + 1 + 1, 0, none⟩ = false := (World.frozen?_of_block (a := ⟨w.heap.size + 1 + 1, 0, none⟩) kbx_1).trans f2_12
  have cx_10 : x.cell? ⟨w.heap.size + 1 + 1, 1, none⟩ = some (.int .i64 0) := (World.cell?_of_block (a := ⟨w.heap.size + 1 + 1, 1, none⟩) kbx_1).trans c2_13
  have fx_10 : x.frozen? ⟨w.heap.size + 1 + 1, 1, none⟩ = false := (World.frozen?_of_block (a := ⟨w.heap.size + 1 + 1, 1, none⟩) kbx_1).trans f2_13
  have cx_11 : x.cell? ⟨w.heap.size + 1 + 1, 2, none⟩ = some (.slice none 0 0) := (World.cell?_of_block (a := ⟨w.heap.size + 1 + 1, 2, none⟩) kbx_1).trans c2_14
  have fx_11 : x.frozen? ⟨w.heap.size + 1 + 1, 2, none⟩ = false := (World.frozen?_of_block (a := ⟨w.heap.size + 1 + 1, 2, none⟩) kbx_1).trans f2_14
  have hf := (show x.heap[w2.heap.size]? = some (.cells #[.int .i64 16, .int .u64 1, .int .u64 0, .int .u64 0, .string { data := #[] }, .string { data := #[] }, .int .i64 0, .slice none 0 0, .slice none 0 0] 39 (0, 0)) by rw [hx]; exact heap_alloc_last _ _)
  have e0 : x.cell? ⟨w2.heap.size, 0, none⟩ = some (.int .i64 16) := by rw [cell_of_row _ _ 0 _ _ _ hf]; rfl
  have e1 : x.cell? ⟨w2.heap.size, 1, none⟩ = some (.int .u64 1) := by rw [cell_of_row _ _ 1 _ _ _ hf]; rfl
  have e2 : x.cell? ⟨w2.heap.size, 2, none⟩ = some (.int .u64 0) := by rw [cell_of_row _ _ 2 _ _ _ hf]; rfl
  have e3 : x.cell? ⟨w2.heap.size, 3, none⟩ = some (.int .u64 0) := by rw [cell_of_row _ _ 3 _ _ _ hf]; rfl
  have e4 : x.cell? ⟨w2.heap.size, 4, none⟩ = some (.string { data := #[] }) := by rw [cell_of_row _ _ 4 _ _ _ hf]; rfl
  have e5 : x.cell? ⟨w2.heap.size, 5, none⟩ = some (.string { data := #[] }) := by rw [cell_of_row _ _ 5 _ _ _ hf]; rfl
  have e6 : x.cell? ⟨w2.heap.size, 6, none⟩ = some (.int .i64 0) := by rw [cell_of_row _ _ 6 _ _ _ hf]; rfl
  have e7 : x.cell? ⟨w2.heap.size, 7, none⟩ = some (.slice none 0 0) := by rw [cell_of_row _ _ 7 _ _ _ hf]; rfl
  have e8 : x.cell? ⟨w2.heap.size, 8, none⟩ = some (.slice none 0 0) := by rw [cell_of_row _ _ 8 _ _ _ hf]; rfl
  have hl1 : w.heap.size + 1 < x.heap.size := by omega
  have hl2 : w.heap.size + 1 + 1 < x.heap.size := by omega
  replace hsx := Lib.hid hsx
  clear hx hkx hf
  go_wp2_with fail
  refine bodyPost_ret (v := .tuple #[.agg #[.int .i64 16, .int .u64 1, .int .u64 0, .int .u64 0, .string { data := #[] }, .string { data := #[] }, .int .i64 0, .slice none 0 0, .slice none 0 0], .agg #[.int .i64 0, .int .i64 0, .slice none 0 0]]) (by simp (maxDischargeDepth := 4) [results, Tryz.results119, go_sem, cx_0, fx_0, cx_1, fx_1, cx_2, fx_2, cx_3, fx_3, cx_4, fx_4, cx_5, fx_5, cx_6, fx_6, cx_7, fx_7, cx_8, fx_8, cx_9, fx_9, cx_10, fx_10, cx_11, fx_11]) rfl ?_
  exact ⟨rfl, bel⟩
def jI' : Ro := jO [(nInt, jS [49])]
theorem eval_I (d k : Nat) : EVal (d + 1) k jI' vI := fun Q w v p n B h hp hn hB hQ => by
  obtain ⟨ad0, c0, rfl⟩ := isJ_form h
  have hk := isJ_kids h
  obtain ⟨b, o, bv, s, rfl, hqb, hbl, hra, hby, hkd⟩ := hk.at (i := 0) (nm := nInt) (x := jS [49]) rfl
  obtain ⟨ad, mc, rfl⟩ := hkd.slice
  obtain ⟨r0, r1, r2, r3⟩ := rowJ hra
  simp only [Nat.zero_mul, Nat.add_zero] at r0 r1 r2 r3
  refine (evalue_wI b o c0 (bs []) ad 0 mc w hbl r0 r1 r2 r3 p).mono ?_
  rintro e w' ⟨rfl, hb⟩
  exact ⟨⟨_, rfl, .slice none 0 0, .slice none 0 0, rfl, By.nil _ _, Kd.nil _ _ _ _ _ _⟩, grown_below hb _, hp.beyond hb⟩
end
end Go.Proofs.YtihnfhhopldllaaGreatDoor
