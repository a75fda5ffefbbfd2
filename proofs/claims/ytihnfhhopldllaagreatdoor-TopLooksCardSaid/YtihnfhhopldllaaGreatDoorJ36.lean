/- Parts of the proof of TopLooks: U72. No condition. -/
import Derived.Test.YtihnfhhopldllaaGreatDoorJ1
import Derived.Test.YtihnfhhopldllaaGreatDoorJ34
namespace Go.Proofs.YtihnfhhopldllaaGreatDoor
set_option linter.unusedSimpArgs false
set_option linter.unusedVariables false
set_option maxHeartbeats 6400000
set_option maxRecDepth 100000
section
open Go.RowKit
theorem Bs.sb {w : World} {b o : Nat} {l : List UInt8} (h : Bs w b o l) : Sb w (some ⟨b, o, none⟩) l := fun i x hx => ⟨_, rfl, h.1, by rw [Addr.add_mid]; exact h.2 i x hx⟩
def bsonL : List UInt8 := [12, 0, 0, 0, 16, 97, 0, 1, 0, 0, 0, 0]
def BinR (w : World) (r b c : Nat) : Prop := w.heap[r]? = some (.cells #[.slice (some ⟨b, 0, none⟩) 12 c, .int .i64 200] 91 (0, 0)) ∧ Bs w b 0 bsonL ∧ 12 ≤ c
theorem BinR.lt {w : World} {r b c : Nat} (h : BinR w r b c) : r < w.heap.size := (Array.getElem?_eq_some_iff.1 h.1).1
theorem BinR.beyond {w w' : World} {r b c : Nat} (h : BinR w r b c) (hb : Below w.heap.size w w') : BinR w' r b c := ⟨(hb.block r h.lt).trans h.1, h.2.1.beyond hb, h.2.2⟩
theorem BinR.cells {w : World} {r b c : Nat} (h : BinR w r b c) : w.cell? ⟨r, 0, none⟩ = some (.slice (some ⟨b, 0, none⟩) 12 c) ∧ w.cell? ⟨r, 1, none⟩ = some (.int .i64 200) := by
  constructor
  all_goals (rw [cell_of_row _ r _ _ _ _ h.1]; rfl)
theorem BinR.keeps {w w' : World} {r b c : Nat} (h : BinR w r b c) (hk : Keeps (fun x => x = r ∨ x = b) w w') : BinR w' r b c := ⟨(hk.2 r (.inl rfl) h.lt).trans h.1, ⟨Nat.lt_of_lt_of_le h.2.1.1 hk.1, fun j x hj => (World.cell?_of_block (a := ⟨b, 0 + j, none⟩) (hk.2 b (.inr rfl) h.2.1.1)).trans (h.2.1.2 j x hj)⟩, h.2.2⟩
theorem fixed_16 (w : World) : Calls Tryz.prog 125 #[.int .i64 16] w fun e w' => e = .returned (.int .i64 4) ∧ w = w' := by
  go_enter Tryz.func125, Tryz.ntmps125
  go_wp2_with fail
  go_ret
  exact ⟨rfl, rfl⟩
theorem length_0 (r b c : Nat) (w : World) (h : BinR w r b c) : Calls Tryz.prog 73 #[.pointer (some ⟨r, 0, none⟩), .int .i64 0] w fun e w' => e = .returned (.int .i64 12) ∧ Below w.heap.size w w' := by
  have HN := Lib.hid (fun w (h : Bs w b 0 [12, 0, 0, 0]) => new_any b 0 4 c [12, 0, 0, 0] rfl (by decide) w h)
  have HB : Hid (Bs w b 0 [12, 0, 0, 0]) := Lib.hid (h.2.1.take 4)
  have HL := Lib.hid (fun g g2 c2 hc w h hB hne => low4_12 g g2 c2 hc w h hB hne)
  obtain ⟨r0, r1⟩ := h.cells
  have hr := h.lt
  have hc := h.2.2
  clear h
  go_enter Tryz.func73, Tryz.ntmps73
  go_wp2_with fail
  with_reducible refine (HN.out _ HB.out).mono ?_
  rintro e w1 ⟨⟨g, g2, c2, rfl, hnc, hlt, hg2, hrd, hbs⟩, hb1⟩
  go_wp2_with fail
  have hrd' : Rdr w1 g g2 4 c2 0 := hrd
  with_reducible refine (HL.out _ _ _ hnc _ hrd' hbs (by omega)).mono ?_
  rintro e w2 ⟨rfl, hg⟩
  have hw2 : Below w.heap.size w w2 := hb1.trans (Below.grown (Below.refl _ _) hg hb1.size (fun k hk => by injection hk with hk; omega))
  clear hg hb1 hrd hrd' hbs
  go_wp2_with fail
  go_ret
  exact ⟨rfl, hw2⟩
theorem ctext_a (b c : Nat) (hc : 12 ≤ c) (w : World) (h : Bs w b 0 bsonL) : Calls Tryz.prog 75 #[.slice (some ⟨b, 0, none⟩) 11 c, .int .i64 5] w fun e w' => e = .returned (.tuple #[.string { data := #[97] }, .int .i64 7, .int .i64 0]) ∧ Below w.heap.size w w' := by
  have h5 : Bs w b 5 [97, 0, 1, 0, 0, 0] := (h.drop 5).take 6
  have h6 : Bs w b 5 [97] := (h.drop 5).take 1
  have HI : Hid (∀ c2 w, Bs w b 5 [97, 0, 1, 0, 0, 0] → Calls Tryz.prog 123 #[.slice (some ⟨b, 5, none⟩) 6 c2, .int .u8 0] w fun e w' => e = .returned (.int .i64 1) ∧ w = w') := Lib.hid (fun c2 w h => indexByte_any b 5 6 c2 [97, 0, 1, 0, 0, 0] 0 rfl w h)
  have HC : Hid (∀ c2 w, Bs w b 5 [97] → Calls Tryz.prog 124 #[.slice (some ⟨b, 5, none⟩) 1 c2] w fun e w' => e = .returned (.tuple #[.int .i64 1, .bool true]) ∧ w = w') := Lib.hid (fun c2 w h => check_any (some ⟨b, 5, none⟩) 1 c2 [97] rfl (by decide) w h.sb)
  have hcv : ∀ c2, (convert 24 9 (.slice (some ⟨b, 5, none⟩) 1 c2)).run Tryz.prog w = .ok (.string { data := #[97] }) w := fun c2 => run_convert_bytes_back w _ _ 5 ⟨b, 5, none⟩ c2 [97] ty_bytes ty_u8 ty_str (fun j hj => by
    rw [Addr.add_mid]
    exact h6.2 j _ (List.getElem?_eq_getElem hj))
  have h5 := Lib.hid h5
  have h6 := Lib.hid h6
  clear h
  go_enter Tryz.func75, Tryz.ntmps75
  go_wp2_with fail
  with_reducible refine (HI.out _ _ h5.out).mono ?_
  rintro e w' ⟨rfl, rfl⟩
  go_wp2_with fail
  with_reducible refine (HC.out _ _ h6.out).mono ?_
  rintro e w' ⟨rfl, rfl⟩
  go_wp2_with fail
  refine bodyPost_ret (v := .tuple #[.string { data := #[97] }, .int .i64 7, .int .i64 0]) (by simp (maxDischargeDepth := 4) [results, Tryz.results75, go_sem]) rfl ?_
  exact ⟨rfl, bel⟩
theorem value_16 (r b c : Nat) (w : World) (h : BinR w r b c) : Calls Tryz.prog 76 #[.pointer (some ⟨r, 0, none⟩), .int .i64 16, .int .i64 7, .int .i64 11, .int .i64 0] w fun e w' => e = .returned (.tuple #[.agg #[.int .i64 16, .int .u64 1, .int .u64 0, .int .u64 0, .string { data := #[] }, .string { data := #[] }, .int .i64 0, .slice none 0 0, .slice none 0 0], .int .i64 11, .agg #[.int .i64 0, .int .i64 0, .slice none 0 0]]) ∧ Below w.heap.size w w' := by
  have HN := Lib.hid (fun c2 w (h : Bs w b 7 [1, 0, 0, 0]) => new_any b 7 4 c2 [1, 0, 0, 0] rfl (by decide) w h)
  have HB : Hid (Bs w b 7 [1, 0, 0, 0]) := Lib.hid ((h.2.1.drop 7).take 4)
  have HL := Lib.hid (fun g g2 c2 hc w h hB hne => low4_1 g g2 c2 hc w h hB hne)
  have HF := Lib.hid fixed_16
  obtain ⟨r0, r1⟩ := h.cells
  have hr := h.lt
  have hc := h.2.2
  have hr1 : r ≠ w.heap.size := by omega
  have hr2 : r ≠ w.heap.size + 1 := by omega
  have hr3 : r < w.heap.size + 1 := by omega
  have hr4 : r < w.heap.size + 1 + 1 := by omega
  clear h
  go_enter Tryz.func76, Tryz.ntmps76
  go_wp2_with fail
  with_reducible refine (HF.out _).mono ?_
  rintro e w' ⟨rfl, rfl⟩
  go_wp2_with fail
  with_reducible refine (HN.out _ _ ?hb7).mono ?_
  case hb7 => exact HB.out.beyond bel
  rintro e w1 ⟨⟨g, g2, c2, rfl, hnc, hlt, hg2, hrd, hbs⟩, hb1⟩
  obtain ⟨c1_0, f1_0⟩ := cf hb1 w.heap.size 0 (.int .i64 16)
  obtain ⟨c1_1, f1_1⟩ := cf hb1 w.heap.size 1 (.int .u64 0)
  obtain ⟨c1_2, f1_2⟩ := cf hb1 w.heap.size 2 (.int .u64 0)
  obtain ⟨c1_3, f1_3⟩ := cf hb1 w.heap.size 3 (.int .u64 0)
  obtain ⟨c1_4, f1_4⟩ := cf hb1 w.heap.size 4 (.string { data := #[] })
  obtain ⟨c1_5, f1_5⟩ := cf hb1 w.heap.size 5 (.string { data := #[] })
  obtain ⟨c1_6, f1_6⟩ := cf hb1 w.heap.size 6 (.int .i64 0)
  obtain ⟨c1_7, f1_7⟩ := cf hb1 w.heap.size 7 (.slice none 0 0)
  obtain ⟨c1_8, f1_8⟩ := cf hb1 w.heap.size 8 (.slice none 0 0)
  obtain ⟨c1_9, f1_9⟩ := cf hb1 (w.heap.size + 1) 0 (.int .i64 0)
  obtain ⟨c1_10, f1_10⟩ := cf hb1 (w.heap.size + 1) 1 (.int .i64 0)
  obtain ⟨c1_11, f1_11⟩ := cf hb1 (w.heap.size + 1) 2 (.slice none 0 0)
  have hl1_0 := ltB hb1 w.heap.size
  have hl1_1 := ltB hb1 (w.heap.size + 1)
  have hw1 := bwB hb1 w.heap.size w
  have hz1 := hw1.size
  clear hb1
  have hg0 : w.heap.size + 1 < g2 := by simp at hg2; omega
  go_wp2_with fail
  have hrd' : Rdr w1 g g2 4 c2 0 := hrd
  with_reducible refine (HL.out _ _ _ hnc _ hrd' hbs (by omega)).mono ?_
  rintro e w2 ⟨rfl, hg⟩
  have k0 := hC hg c1_0
  have q0 := hF hg f1_0
  have k1 := hC hg c1_1
  have q1 := hF hg f1_1
  have k2 := hC hg c1_2
  have q2 := hF hg f1_2
  have k3 := hC hg c1_3
  have q3 := hF hg f1_3
  have k4 := hC hg c1_4
  have q4 := hF hg f1_4
  have k5 := hC hg c1_5
  have q5 := hF hg f1_5
  have k6 := hC hg c1_6
  have q6 := hF hg f1_6
  have k7 := hC hg c1_7
  have q7 := hF hg f1_7
  have k8 := hC hg c1_8
  have q8 := hF hg f1_8
  have k9 := hC hg c1_9
  have q9 := hF hg f1_9
  have k10 := hC hg c1_10
  have q10 := hF hg f1_10
  have k11 := hC hg c1_11
  have q11 := hF hg f1_11
  have hw2 : Below w.heap.size w w2 := hw1.trans (Below.grown (Below.refl _ _) hg hz1 (fun k hk => by injection hk with hk; omega))
  have hl2 : w.heap.size < w2.heap.size := by have := hg.size; omega
  have hl3 : w.heap.size + 1 < w2.heap.size := by have := hg.size; omega
  clear hg hrd hrd' hbs hw1
  go_wp2_with fail
  refine bodyPost_ret (v := .tuple #[.agg #[.int .i64 16, .int .u64 1, .int .u64 0, .int .u64 0, .string { data := #[] }, .string { data := #[] }, .int .i64 0, .slice none 0 0, .slice none 0 0], .int .i64 11, .agg #[.int .i64 0, .int .i64 0, .slice none 0 0]]) (by simp (maxDischargeDepth := 4) [results, Tryz.results76, go_sem, k0, q0, k1, q1, k2, q2, k3, q3, k4, q4, k5, q5, k6, q6, k7, q7, k8, q8, k9, q9, k10, q10, k11, q11]) rfl ?_
  exact ⟨rfl, bel⟩
end
end Go.Proofs.YtihnfhhopldllaaGreatDoor
