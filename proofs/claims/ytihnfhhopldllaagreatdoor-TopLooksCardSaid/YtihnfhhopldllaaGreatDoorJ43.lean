/- Parts of the proof of TopLooks: U77, U80. No condition. -/
import Derived.Test.YtihnfhhopldllaaGreatDoorJ1
import Derived.Test.YtihnfhhopldllaaGreatDoorJ31
import Derived.Test.YtihnfhhopldllaaGreatDoorJ35
import Derived.Test.YtihnfhhopldllaaGreatDoorJ40
import Derived.Test.YtihnfhhopldllaaGreatDoorJ41
namespace Go.Proofs.YtihnfhhopldllaaGreatDoor
set_option linter.unusedSimpArgs false
set_option linter.unusedVariables false
set_option maxHeartbeats 6400000
set_option maxRecDepth 100000
section
open Go.RowKit
theorem Bs.alloc {w : World} {b o : Nat} {l : List UInt8} (h : Bs w b o l) (x : Obj) : Bs (w.alloc x) b o l := h.beyond ((Below.refl _ _).alloc (Nat.le_refl _) x)
theorem write_2 (Q : Nat → Prop) (ad : Option Addr) (ac : Nat) (w : World) (h : Is .V Q w 1 (vD iKids) (.agg #[.int .i64 3, .int .u64 0, .int .u64 0, .int .u64 0, .string { data := #[] }, .string { data := #[] }, .int .i64 0, .slice none 0 0, .slice ad 1 ac])) : Calls Tryz.prog 11 #[.int .i64 2, .agg #[.int .i64 200, .int .i64 65536, .int .i64 262144], .agg #[.int .i64 3, .int .u64 0, .int .u64 0, .int .u64 0, .string { data := #[] }, .string { data := #[] }, .int .i64 0, .slice none 0 0, .slice ad 1 ac]] w fun e w' => (∃ g c2, e = .returned (.tuple #[.slice (some ⟨g, 0, none⟩) 24 c2, .slice none 0 0, .agg #[.int .i64 0, .int .i64 0, .slice none 0 0]]) ∧ Bs w' g 0 canL ∧ w.heap.size ≤ g) ∧ Below w.heap.size w w' := by
  have HM := Lib.hid may_2
  have HLd : Hid (∀ w, Is .V Q w 1 (vD iKids) (.agg #[.int .i64 3, .int .u64 0, .int .u64 0, .int .u64 0, .string { data := #[] }, .string { data := #[] }, .int .i64 0, .slice none 0 0, .slice ad 1 ac]) → Calls Tryz.prog 27 #[.int .i64 2, .agg #[.int .i64 3, .int .u64 0, .int .u64 0, .int .u64 0, .string { data := #[] }, .string { data := #[] }, .int .i64 0, .slice none 0 0, .slice ad 1 ac]] w fun e w' => (∃ g c2, e = .returned (.tuple #[.slice (some ⟨g, 0, none⟩) 24 c2, .agg #[.int .i64 0, .int .i64 0, .slice none 0 0]]) ∧ Bs w' g 0 canL ∧ w.heap.size ≤ g) ∧ Below w.heap.size w w') := Lib.hid (fun w h => laid_2 Q none ad 0 ac w h)
  have HK := Lib.hid h
  clear h
  go_enter Tryz.func11, Tryz.ntmps11
  go_wp2_with fail
  with_reducible refine (HM.out _).mono ?_
  rintro e w1 ⟨rfl, hb1⟩
  obtain ⟨c1_0, f1_0⟩ := cf hb1 w.heap.size 0 (.int .i64 200)
  obtain ⟨c1_1, f1_1⟩ := cf hb1 w.heap.size 1 (.int .i64 65536)
  obtain ⟨c1_2, f1_2⟩ := cf hb1 w.heap.size 2 (.int .i64 262144)
  obtain ⟨c1_3, f1_3⟩ := cf hb1 (w.heap.size + 1) 0 (.int .i64 3)
  obtain ⟨c1_4, f1_4⟩ := cf hb1 (w.heap.size + 1) 1 (.int .u64 0)
  obtain ⟨c1_5, f1_5⟩ := cf hb1 (w.heap.size + 1) 2 (.int .u64 0)
  obtain ⟨c1_6, f1_6⟩ := cf hb1 (w.heap.size + 1) 3 (.int .u64 0)
  obtain ⟨c1_7, f1_7⟩ := cf hb1 (w.heap.size + 1) 4 (.string { data := #[] })
  obtain ⟨c1_8, f1_8⟩ := cf hb1 (w.heap.size + 1) 5 (.string { data := #[] })
  obtain ⟨c1_9, f1_9⟩ := cf hb1 (w.heap.size + 1) 6 (.int .i64 0)
  obtain ⟨c1_10, f1_10⟩ := cf hb1 (w.heap.size + 1) 7 (.slice none 0 0)
  obtain ⟨c1_11, f1_11⟩ := cf hb1 (w.heap.size + 1) 8 (.slice ad 1 ac)
  obtain ⟨c1_12, f1_12⟩ := cf hb1 (w.heap.size + 1 + 1) 0 (.int .i64 0)
  obtain ⟨c1_13, f1_13⟩ := cf hb1 (w.heap.size + 1 + 1) 1 (.int .i64 0)
  obtain ⟨c1_14, f1_14⟩ := cf hb1 (w.heap.size + 1 + 1) 2 (.slice none 0 0)
  have hl1_0 := ltB hb1 w.heap.size
  have hl1_1 := ltB hb1 (w.heap.size + 1)
  have hl1_2 := ltB hb1 (w.heap.size + 1 + 1)
  have hw1 := bwB hb1 w.heap.size w
  have hz1 := hw1.size
  clear hb1
  go_wp2_with fail
  with_reducible refine (HLd.out _ ?h2).mono ?_
  case h2 => exact HK.out.beyond bel
  rintro e w2 ⟨⟨g, c2, rfl, hbs, hgl⟩, hb2⟩
  have hb2' := Lib.hid hbs
  have hgl' : w.heap.size + 1 + 1 < g := by first | omega | (simp at hgl; omega)
  clear hgl hbs
  obtain ⟨c2_0, f2_0⟩ := cf hb2 w.heap.size 0 (.int .i64 200)
  obtain ⟨c2_1, f2_1⟩ := cf hb2 w.heap.size 1 (.int .i64 65536)
  obtain ⟨c2_2, f2_2⟩ := cf hb2 w.heap.size 2 (.int .i64 262144)
  obtain ⟨c2_3, f2_3⟩ := cf hb2 (w.heap.size + 1) 0 (.int .i64 3)
  obtain ⟨c2_4, f2_4⟩ := cf hb2 (w.heap.size + 1) 1 (.int .u64 0)
  obtain ⟨c2_5, f2_5⟩ := cf hb2 (w.heap.size + 1) 2 (.int .u64 0)
  obtain ⟨c2_6, f2_6⟩ := cf hb2 (w.heap.size + 1) 3 (.int .u64 0)
  obtain ⟨c2_7, f2_7⟩ := cf hb2 (w.heap.size + 1) 4 (.string { data := #[] })
  obtain ⟨c2_8, f2_8⟩ := cf hb2 (w.heap.size + 1) 5 (.string { data := #[] })
  obtain ⟨c2_9, f2_9⟩ := cf hb2 (w.heap.size + 1) 6 (.int .i64 0)
  obtain ⟨c2_10, f2_10⟩ := cf hb2 (w.heap.size + 1) 7 (.slice none 0 0)
  obtain ⟨c2_11, f2_11⟩ := cf hb2 (w.heap.size + 1) 8 (.slice ad 1 ac)
  obtain ⟨c2_12, f2_12⟩ := cf hb2 (w.heap.size + 1 + 1) 0 (.int .i64 0)
  obtain ⟨c2_13, f2_13⟩ := cf hb2 (w.heap.size + 1 + 1) 1 (.int .i64 0)
  obtain ⟨c2_14, f2_14⟩ := cf hb2 (w.heap.size + 1 + 1) 2 (.slice none 0 0)
  have hl2_0 := ltB hb2 w.heap.size
  have hl2_1 := ltB hb2 (w.heap.size + 1)
  have hl2_2 := ltB hb2 (w.heap.size + 1 + 1)
  have hw2 := bwB hb2 w.heap.size w
  have hz2 := hw2.size
  clear hb2
  go_wp2_with fail
  refine bodyPost_ret (v := .tuple #[.slice (some ⟨g, 0, none⟩) 24 c2, .slice none 0 0, .agg #[.int .i64 0, .int .i64 0, .slice none 0 0]]) (by simp (maxDischargeDepth := 4) [results, Tryz.results11, go_sem, hl2_0, hl2_1, hl2_2, c2_12, f2_12, c2_13, f2_13, c2_14, f2_14]) rfl ?_
  refine ⟨⟨_, _, rfl, ?_, by omega⟩, bel⟩
  repeat' (first | (with_reducible refine Bs.set ?_ (by dsimp only; omega) _) | (with_reducible refine Bs.drew ?_) | (with_reducible refine Bs.alloc ?_ _) | (with_reducible exact hb2'.out))
theorem write_3 (Q : Nat → Prop) (ad : Option Addr) (ac : Nat) (w : World) (h : Is .V Q w 1 (vD iKids) (.agg #[.int .i64 3, .int .u64 0, .int .u64 0, .int .u64 0, .string { data := #[] }, .string { data := #[] }, .int .i64 0, .slice none 0 0, .slice ad 1 ac])) : Calls Tryz.prog 11 #[.int .i64 3, .agg #[.int .i64 200, .int .i64 65536, .int .i64 262144], .agg #[.int .i64 3, .int .u64 0, .int .u64 0, .int .u64 0, .string { data := #[] }, .string { data := #[] }, .int .i64 0, .slice none 0 0, .slice ad 1 ac]] w fun e w' => (∃ g c2, e = .returned (.tuple #[.slice (some ⟨g, 0, none⟩) 7 c2, .slice none 0 0, .agg #[.int .i64 0, .int .i64 0, .slice none 0 0]]) ∧ Bs w' g 0 relL ∧ w.heap.size ≤ g) ∧ Below w.heap.size w w' := by
  have HM := Lib.hid may_3
  have HLd : Hid (∀ w, Is .V Q w 1 (vD iKids) (.agg #[.int .i64 3, .int .u64 0, .int .u64 0, .int .u64 0, .string { data := #[] }, .string { data := #[] }, .int .i64 0, .slice none 0 0, .slice ad 1 ac]) → Calls Tryz.prog 27 #[.int .i64 3, .agg #[.int .i64 3, .int .u64 0, .int .u64 0, .int .u64 0, .string { data := #[] }, .string { data := #[] }, .int .i64 0, .slice none 0 0, .slice ad 1 ac]] w fun e w' => (∃ g c2, e = .returned (.tuple #[.slice (some ⟨g, 0, none⟩) 7 c2, .agg #[.int .i64 0, .int .i64 0, .slice none 0 0]]) ∧ Bs w' g 0 relL ∧ w.heap.size ≤ g) ∧ Below w.heap.size w w') := Lib.hid (fun w h => laid_3 Q none ad 0 ac w h)
  have HLo : Hid (∀ w, Is .V Q w 1 (vD iKids) (.agg #[.int .i64 3, .int .u64 0, .int .u64 0, .int .u64 0, .string { data := #[] }, .string { data := #[] }, .int .i64 0, .slice none 0 0, .slice ad 1 ac]) → Calls Tryz.prog 20 #[.agg #[.int .i64 3, .int .u64 0, .int .u64 0, .int .u64 0, .string { data := #[] }, .string { data := #[] }, .int .i64 0, .slice none 0 0, .slice ad 1 ac]] w fun e w' => e = .returned (.slice none 0 0) ∧ Below w.heap.size w w') := Lib.hid (fun w h => loss_any 1 (vD iKids) (by decide) dk_i Q w _ h)
  have HK := Lib.hid h
  clear h
  go_enter Tryz.func11, Tryz.ntmps11
  go_wp2_with fail
  with_reducible refine (HM.out _).mono ?_
  rintro e w1 ⟨rfl, hb1⟩
  obtain ⟨c1_0, f1_0⟩ := cf hb1 w.heap.size 0 (.int .i64 200)
  obtain ⟨c1_1, f1_1⟩ := cf hb1 w.heap.size 1 (.int .i64 65536)
  obtain ⟨c1_2, f1_2⟩ := cf hb1 w.heap.size 2 (.int .i64 262144)
  obtain ⟨c1_3, f1_3⟩ := cf hb1 (w.heap.size + 1) 0 (.int .i64 3)
  obtain ⟨c1_4, f1_4⟩ := cf hb1 (w.heap.size + 1) 1 (.int .u64 0)
  obtain ⟨c1_5, f1_5⟩ := cf hb1 (w.heap.size + 1) 2 (.int .u64 0)
  obtain ⟨c1_6, f1_6⟩ := cf hb1 (w.heap.size + 1) 3 (.int .u64 0)
  obtain ⟨c1_7, f1_7⟩ := cf hb1 (w.heap.size + 1) 4 (.string { data := #[] })
  obtain ⟨c1_8, f1_8⟩ := cf hb1 (w.heap.size + 1) 5 (.string { data := #[] })
  obtain ⟨c1_9, f1_9⟩ := cf hb1 (w.heap.size + 1) 6 (.int .i64 0)
  obtain ⟨c1_10, f1_10⟩ := cf hb1 (w.heap.size + 1) 7 (.slice none 0 0)
  obtain ⟨c1_11, f1_11⟩ := cf hb1 (w.heap.size + 1) 8 (.slice ad 1 ac)
  obtain ⟨c1_12, f1_12⟩ := cf hb1 (w.heap.size + 1 + 1) 0 (.int .i64 0)
  obtain ⟨c1_13, f1_13⟩ := cf hb1 (w.heap.size + 1 + 1) 1 (.int .i64 0)
  obtain ⟨c1_14, f1_14⟩ := cf hb1 (w.heap.size + 1 + 1) 2 (.slice none 0 0)
  have hl1_0 := ltB hb1 w.heap.size
  have hl1_1 := ltB hb1 (w.heap.size + 1)
  have hl1_2 := ltB hb1 (w.heap.size + 1 + 1)
  have hw1 := bwB hb1 w.heap.size w
  have hz1 := hw1.size
  clear hb1
  go_wp2_with fail
  with_reducible refine (HLd.out _ ?h2).mono ?_
  case h2 => exact HK.out.beyond bel
  rintro e w2 ⟨⟨g, c2, rfl, hbs, hgl⟩, hb2⟩
  have hb2' := Lib.hid hbs
  have hgl' : w.heap.size + 1 + 1 < g := by first | omega | (simp at hgl; omega)
  clear hgl hbs
  obtain ⟨c2_0, f2_0⟩ := cf hb2 w.heap.size 0 (.int .i64 200)
  obtain ⟨c2_1, f2_1⟩ := cf hb2 w.heap.size 1 (.int .i64 65536)
  obtain ⟨c2_2, f2_2⟩ := cf hb2 w.heap.size 2 (.int .i64 262144)
  obtain ⟨c2_3, f2_3⟩ := cf hb2 (w.heap.size + 1) 0 (.int .i64 3)
  obtain ⟨c2_4, f2_4⟩ := cf hb2 (w.heap.size + 1) 1 (.int .u64 0)
  obtain ⟨c2_5, f2_5⟩ := cf hb2 (w.heap.size + 1) 2 (.int .u64 0)
  obtain ⟨c2_6, f2_6⟩ := cf hb2 (w.heap.size + 1) 3 (.int .u64 0)
  obtain ⟨c2_7, f2_7⟩ := cf hb2 (w.heap.size + 1) 4 (.string { data := #[] })
  obtain ⟨c2_8, f2_8⟩ := cf hb2 (w.heap.size + 1) 5 (.string { data := #[] })
  obtain ⟨c2_9, f2_9⟩ := cf hb2 (w.heap.size + 1) 6 (.int .i64 0)
  obtain ⟨c2_10, f2_10⟩ := cf hb2 (w.heap.size + 1) 7 (.slice none 0 0)
  obtain ⟨c2_11, f2_11⟩ := cf hb2 (w.heap.size + 1) 8 (.slice ad 1 ac)
  obtain ⟨c2_12, f2_12⟩ := cf hb2 (w.heap.size + 1 + 1) 0 (.int .i64 0)
  obtain ⟨c2_13, f2_13⟩ := cf hb2 (w.heap.size + 1 + 1) 1 (.int .i64 0)
  obtain ⟨c2_14, f2_14⟩ := cf hb2 (w.heap.size + 1 + 1) 2 (.slice none 0 0)
  have hl2_0 := ltB hb2 w.heap.size
  have hl2_1 := ltB hb2 (w.heap.size + 1)
  have hl2_2 := ltB hb2 (w.heap.size + 1 + 1)
  have hw2 := bwB hb2 w.heap.size w
  have hz2 := hw2.size
  clear hb2
  go_wp2_with fail
  with_reducible refine (HLo.out _ ?h3).mono ?_
  case h3 => exact HK.out.beyond bel
  rintro e w3 ⟨rfl, hb3⟩
  have hb23 := bwB hb3 w2.heap.size w2
  obtain ⟨c3_0, f3_0⟩ := cf hb3 (w.heap.size + 1 + 1) 0 (.int .i64 0)
  obtain ⟨c3_1, f3_1⟩ := cf hb3 (w.heap.size + 1 + 1) 1 (.int .i64 0)
  obtain ⟨c3_2, f3_2⟩ := cf hb3 (w.heap.size + 1 + 1) 2 (.slice none 0 0)
  have hl3_0 := ltB hb3 (w.heap.size + 1 + 1)
  have hw3 := bwB hb3 w.heap.size w
  have hz3 := hw3.size
  clear hb3
  have hb3' := Lib.hid (hb2'.out.beyond (show Below w2.heap.size w2 w3 from hb23))
  go_wp2_with fail
  refine bodyPost_ret (v := .tuple #[.slice (some ⟨g, 0, none⟩) 7 c2, .slice none 0 0, .agg #[.int .i64 0, .int .i64 0, .slice none 0 0]]) (by simp (maxDischargeDepth := 4) [results, Tryz.results11, go_sem, hl3_0, c3_0, f3_0, c3_1, f3_1, c3_2, f3_2]) rfl ?_
  refine ⟨⟨_, _, rfl, ?_, by omega⟩, bel⟩
  repeat' (first | (with_reducible refine Bs.set ?_ (by dsimp only; omega) _) | (with_reducible refine Bs.drew ?_) | (with_reducible refine Bs.alloc ?_ _) | (with_reducible exact hb3'.out))
theorem trans_12 (b c : Nat) (hc : 12 ≤ c) (w : World) (h : Bs w b 0 bsonL) : Calls Tryz.prog 9 #[.int .i64 1, .int .i64 2, .agg #[.int .i64 200, .int .i64 65536, .int .i64 262144], .slice (some ⟨b, 0, none⟩) 12 c] w fun e w' => (∃ g c2, e = .returned (.tuple #[.slice (some ⟨g, 0, none⟩) 24 c2, .slice none 0 0, .agg #[.int .i64 0, .int .i64 0, .slice none 0 0]]) ∧ Bs w' g 0 canL ∧ w.heap.size ≤ g) ∧ Below w.heap.size w w' := by
  have HM1 := Lib.hid may_1
  have HM2 := Lib.hid may_2
  have HR := Lib.hid (fun w h => read_1 b c hc w h)
  have HW : Hid (∀ (ad : Option Addr) (ac : Nat) (w' : World), Is .V (fun b => w.heap.size + 1 < b) w' 1 (vD iKids) (.agg #[.int .i64 3, .int .u64 0, .int .u64 0, .int .u64 0, .string { data := #[] }, .string { data := #[] }, .int .i64 0, .slice none 0 0, .slice ad 1 ac]) → Calls Tryz.prog 11 #[.int .i64 2, .agg #[.int .i64 200, .int .i64 65536, .int .i64 262144], .agg #[.int .i64 3, .int .u64 0, .int .u64 0, .int .u64 0, .string { data := #[] }, .string { data := #[] }, .int .i64 0, .slice none 0 0, .slice ad 1 ac]] w' fun e w'' => (∃ g c2, e = .returned (.tuple #[.slice (some ⟨g, 0, none⟩) 24 c2, .slice none 0 0, .agg #[.int .i64 0, .int .i64 0, .slice none 0 0]]) ∧ Bs w'' g 0 canL ∧ w'.heap.size ≤ g) ∧ Below w'.heap.size w' w'') := Lib.hid (fun ad ac w h => write_2 _ ad ac w h)
  have HB := Lib.hid h
  clear h
  go_enter Tryz.func9, Tryz.ntmps9
  go_wp2_with fail
  with_reducible refine (HM1.out _).mono ?_
  rintro e w1 ⟨rfl, hb1⟩
  obtain ⟨c1_0, f1_0⟩ := cf hb1 w.heap.size 0 (.int .i64 200)
  obtain ⟨c1_1, f1_1⟩ := cf hb1 w.heap.size 1 (.int .i64 65536)
  obtain ⟨c1_2, f1_2⟩ := cf hb1 w.heap.size 2 (.int .i64 262144)
  obtain ⟨c1_3, f1_3⟩ := cf hb1 (w.heap.size + 1) 0 (.int .i64 0)
  obtain ⟨c1_4, f1_4⟩ := cf hb1 (w.heap.size + 1) 1 (.int .i64 0)
  obtain ⟨c1_5, f1_5⟩ := cf hb1 (w.heap.size + 1) 2 (.slice none 0 0)
  have hl1_0 := ltB hb1 w.heap.size
  have hl1_1 := ltB hb1 (w.heap.size + 1)
  have hw1 := bwB hb1 w.heap.size w
  have hz1 := hw1.size
  clear hb1
  go_wp2_with fail
  with_reducible refine (HM2.out _).mono ?_
  rintro e w2 ⟨rfl, hb2⟩
  obtain ⟨c2_0, f2_0⟩ := cf hb2 w.heap.size 0 (.int .i64 200)
  obtain ⟨c2_1, f2_1⟩ := cf hb2 w.heap.size 1 (.int .i64 65536)
  obtain ⟨c2_2, f2_2⟩ := cf hb2 w.heap.size 2 (.int .i64 262144)
  obtain ⟨c2_3, f2_3⟩ := cf hb2 (w.heap.size + 1) 0 (.int .i64 0)
  obtain ⟨c2_4, f2_4⟩ := cf hb2 (w.heap.size + 1) 1 (.int .i64 0)
  obtain ⟨c2_5, f2_5⟩ := cf hb2 (w.heap.size + 1) 2 (.slice none 0 0)
  have hl2_0 := ltB hb2 w.heap.size
  have hl2_1 := ltB hb2 (w.heap.size + 1)
  have hw2 := bwB hb2 w.heap.size w
  have hz2 := hw2.size
  clear hb2
  go_wp2_with fail
  with_reducible refine (HR.out _ ?h3).mono ?_
  case h3 => exact HB.out.beyond bel
  rintro e w3 ⟨⟨s, rfl, hk⟩, hb3⟩
  have hk3 := Lib.hid (hk.mono (Q' := fun b => w.heap.size + 1 < b) (fun b hb _ => by first | omega | (simp at hb; omega)))
  clear hk
  obtain ⟨ad, ac, rfl⟩ : ∃ ad c, s = .slice ad 1 c := hk3.out.slice
  obtain ⟨c3_0, f3_0⟩ := cf hb3 w.heap.size 0 (.int .i64 200)
  obtain ⟨c3_1, f3_1⟩ := cf hb3 w.heap.size 1 (.int .i64 65536)
  obtain ⟨c3_2, f3_2⟩ := cf hb3 w.heap.size 2 (.int .i64 262144)
  obtain ⟨c3_3, f3_3⟩ := cf hb3 (w.heap.size + 1) 0 (.int .i64 0)
  obtain ⟨c3_4, f3_4⟩ := cf hb3 (w.heap.size + 1) 1 (.int .i64 0)
  obtain ⟨c3_5, f3_5⟩ := cf hb3 (w.heap.size + 1) 2 (.slice none 0 0)
  have hl3_0 := ltB hb3 w.heap.size
  have hl3_1 := ltB hb3 (w.heap.size + 1)
  have hw3 := bwB hb3 w.heap.size w
  have hz3 := hw3.size
  clear hb3
  go_wp2_with fail
  with_reducible refine (HW.out _ _ _ ?h4).mono ?_
  case h4 => exact ⟨.slice none 0 0, _, rfl, By.nil _ _, hk3.out.beyond bel⟩
  rintro e w4 ⟨⟨g, c2, rfl, hbs, hgl⟩, hb4⟩
  have hb4' := Lib.hid hbs
  have hgl' : w.heap.size + 1 < g := by first | omega | (simp at hgl; omega)
  clear hgl hbs
  obtain ⟨c4_0, f4_0⟩ := cf hb4 w.heap.size 0 (.int .i64 200)
  obtain ⟨c4_1, f4_1⟩ := cf hb4 w.heap.size 1 (.int .i64 65536)
  obtain ⟨c4_2, f4_2⟩ := cf hb4 w.heap.size 2 (.int .i64 262144)
  obtain ⟨c4_3, f4_3⟩ := cf hb4 (w.heap.size + 1) 0 (.int .i64 0)
  obtain ⟨c4_4, f4_4⟩ := cf hb4 (w.heap.size + 1) 1 (.int .i64 0)
  obtain ⟨c4_5, f4_5⟩ := cf hb4 (w.heap.size + 1) 2 (.slice none 0 0)
  have hl4_0 := ltB hb4 w.heap.size
  have hl4_1 := ltB hb4 (w.heap.size + 1)
  have hw4 := bwB hb4 w.heap.size w
  have hz4 := hw4.size
  clear hb4
  go_wp2_with fail
  refine bodyPost_ret (v := .tuple #[.slice (some ⟨g, 0, none⟩) 24 c2, .slice none 0 0, .agg #[.int .i64 0, .int .i64 0, .slice none 0 0]]) (by simp (maxDischargeDepth := 4) [results, Tryz.results9, go_sem, c4_3, f4_3, c4_4, f4_4, c4_5, f4_5]) rfl ?_
  refine ⟨⟨_, _, rfl, ?_, by omega⟩, bel⟩
  repeat' (first | (with_reducible refine Bs.set ?_ (by dsimp only; omega) _) | (with_reducible refine Bs.drew ?_) | (with_reducible refine Bs.alloc ?_ _) | (with_reducible exact hb4'.out))
end
section
open Go.RowKit
def iLj : KL := [([97], jI)]
theorem jq_i : Jq 2 (jO iLj) := jq_one (by decide) (by decide) (jq_one (by decide) wh_nInt (jq_str (by decide) (by decide)))
theorem ek_i : EKids 1 0 iLj iKids := ⟨rfl, fun i nm x h => by
  cases i with
  | succ i => cases h
  | zero =>
    injection h with h
    injection h with h1 h2
    subst h1 h2
    exact ⟨by decide, vI, rfl, eval_I 0 0⟩⟩
theorem etext_i (w : World) : Calls Tryz.prog 19 #[.string (bs canL), limV] w fun e w' => (∃ s, e = .returned (.tuple #[.agg #[.int .i64 3, .int .u64 0, .int .u64 0, .int .u64 0, .string { data := #[] }, .string { data := #[] }, .int .i64 0, .slice none 0 0, s], .agg #[.int .i64 0, .int .i64 0, .slice none 0 0]]) ∧ Kd .V (fun b => w.heap.size ≤ b) w' 1 iKids s) ∧ Below w.heap.size w w' := by
  refine etext_3 0 1 1 iLj iKids (bs canL) rfl (fun w => ?_) (fun Q ad c w h => ?_) (fun Q w v h => ?_) w
  · refine (parse_any (bs canL) (by decide) 2 (jO iLj) jq_i pr_can.symm 404 (by decide) (by decide) w).mono ?_
    rintro e w' ⟨⟨v, rfl, hv⟩, hb⟩
    obtain ⟨ad, c, rfl⟩ := isJ_form hv
    exact ⟨⟨ad, c, rfl, isJ_kids hv⟩, hb⟩
  · exact eread_any 1 0 iLj iKids (epl_of ek_i (by decide)) (jchk_any jchk_N _ _ jq_i.jk) Q ad 1 c rfl rfl (by decide) w h
  · exact fits_any 1 iKids 200 65536 262144 (by decide) (by decide) (by decide) (by decide) (by decide) (by decide) (by decide) (by decide) (by decide) (by decide) dk_i Q w v h
theorem read_2 (b c : Nat) (w : World) (h : Bs w b 0 canL) : Calls Tryz.prog 10 #[.int .i64 2, .agg #[.int .i64 200, .int .i64 65536, .int .i64 262144], .slice (some ⟨b, 0, none⟩) 24 c] w fun e w' => (∃ s, e = .returned (.tuple #[.agg #[.int .i64 3, .int .u64 0, .int .u64 0, .int .u64 0, .string { data := #[] }, .string { data := #[] }, .int .i64 0, .slice none 0 0, s], .agg #[.int .i64 0, .int .i64 0, .slice none 0 0]]) ∧ Kd .V (fun b => w.heap.size ≤ b) w' 1 iKids s) ∧ Below w.heap.size w w' := by
  have HM := Lib.hid may_2
  have HT : Hid (∀ w, Calls Tryz.prog 19 #[.string (bs canL), .agg #[.int .i64 200, .int .i64 65536, .int .i64 262144]] w fun e w' => (∃ s, e = .returned (.tuple #[.agg #[.int .i64 3, .int .u64 0, .int .u64 0, .int .u64 0, .string { data := #[] }, .string { data := #[] }, .int .i64 0, .slice none 0 0, s], .agg #[.int .i64 0, .int .i64 0, .slice none 0 0]]) ∧ Kd .V (fun b => w.heap.size ≤ b) w' 1 iKids s) ∧ Below w.heap.size w w') := Lib.hid etext_i
  have HC := Lib.hid (fun w (h : Bs w b 0 canL) => h.conv (c := c) (n := 24) rfl)
  have HB := Lib.hid h
  obtain ⟨TT, hTT⟩ : ∃ T, bs canL = T := ⟨_, rfl⟩
  rw [hTT] at HT HC
  clear h hTT
  go_enter Tryz.func10, Tryz.ntmps10
  go_wp2_with fail
  with_reducible refine (HM.out _).mono ?_
  rintro e w1 ⟨rfl, hb1⟩
  obtain ⟨c1_0, f1_0⟩ := cf hb1 w.heap.size 0 (.int .i64 200)
  obtain ⟨c1_1, f1_1⟩ := cf hb1 w.heap.size 1 (.int .i64 65536)
  obtain ⟨c1_2, f1_2⟩ := cf hb1 w.heap.size 2 (.int .i64 262144)
  obtain ⟨c1_3, f1_3⟩ := cf hb1 (w.heap.size + 1) 0 (.int .i64 0)
  obtain ⟨c1_4, f1_4⟩ := cf hb1 (w.heap.size + 1) 1 (.int .u64 0)
  obtain ⟨c1_5, f1_5⟩ := cf hb1 (w.heap.size + 1) 2 (.int .u64 0)
  obtain ⟨c1_6, f1_6⟩ := cf hb1 (w.heap.size + 1) 3 (.int .u64 0)
  obtain ⟨c1_7, f1_7⟩ := cf hb1 (w.heap.size + 1) 4 (.string { data := #[] })
  obtain ⟨c1_8, f1_8⟩ := cf hb1 (w.heap.size + 1) 5 (.string { data := #[] })
  obtain ⟨c1_9, f1_9⟩ := cf hb1 (w.heap.size + 1) 6 (.int .i64 0)
  obtain ⟨c1_10, f1_10⟩ := cf hb1 (w.heap.size + 1) 7 (.slice none 0 0)
  obtain ⟨c1_11, f1_11⟩ := cf hb1 (w.heap.size + 1) 8 (.slice none 0 0)
  obtain ⟨c1_12, f1_12⟩ := cf hb1 (w.heap.size + 1 + 1) 0 (.int .i64 0)
  obtain ⟨c1_13, f1_13⟩ := cf hb1 (w.heap.size + 1 + 1) 1 (.int .i64 0)
  obtain ⟨c1_14, f1_14⟩ := cf hb1 (w.heap.size + 1 + 1) 2 (.slice none 0 0)
  have hl1_0 := ltB hb1 w.heap.size
  have hl1_1 := ltB hb1 (w.heap.size + 1)
  have hl1_2 := ltB hb1 (w.heap.size + 1 + 1)
  have hw1 := bwB hb1 w.heap.size w
  have hz1 := hw1.size
  clear hb1
  have hcv := HC.out w1 (HB.out.beyond hw1)
  clear HC
  go_wp2_with fail
  with_reducible refine (HT.out _).mono ?_
  rintro e w2 ⟨⟨s, rfl, hk⟩, hb2⟩
  have hk2 := Lib.hid (hk.mono (Q' := fun b => w.heap.size + 1 + 1 < b) (fun b hb _ => by first | omega | (simp at hb; omega)))
  clear hk
  obtain ⟨sa, sc, rfl⟩ : ∃ ad c, s = .slice ad 1 c := hk2.out.slice
  obtain ⟨c2_0, f2_0⟩ := cf hb2 (w.heap.size + 1) 0 (.int .i64 0)
  obtain ⟨c2_1, f2_1⟩ := cf hb2 (w.heap.size + 1) 1 (.int .u64 0)
  obtain ⟨c2_2, f2_2⟩ := cf hb2 (w.heap.size + 1) 2 (.int .u64 0)
  obtain ⟨c2_3, f2_3⟩ := cf hb2 (w.heap.size + 1) 3 (.int .u64 0)
  obtain ⟨c2_4, f2_4⟩ := cf hb2 (w.heap.size + 1) 4 (.string { data := #[] })
  obtain ⟨c2_5, f2_5⟩ := cf hb2 (w.heap.size + 1) 5 (.string { data := #[] })
  obtain ⟨c2_6, f2_6⟩ := cf hb2 (w.heap.size + 1) 6 (.int .i64 0)
  obtain ⟨c2_7, f2_7⟩ := cf hb2 (w.heap.size + 1) 7 (.slice none 0 0)
  obtain ⟨c2_8, f2_8⟩ := cf hb2 (w.heap.size + 1) 8 (.slice none 0 0)
  obtain ⟨c2_9, f2_9⟩ := cf hb2 (w.heap.size + 1 + 1) 0 (.int .i64 0)
  obtain ⟨c2_10, f2_10⟩ := cf hb2 (w.heap.size + 1 + 1) 1 (.int .i64 0)
  obtain ⟨c2_11, f2_11⟩ := cf hb2 (w.heap.size + 1 + 1) 2 (.slice none 0 0)
  have hl2_0 := ltB hb2 (w.heap.size + 1)
  have hl2_1 := ltB hb2 (w.heap.size + 1 + 1)
  have hw2 := bwB hb2 w.heap.size w
  have hz2 := hw2.size
  clear hb2
  go_wp2_with fail
  refine bodyPost_ret (v := .tuple #[.agg #[.int .i64 3, .int .u64 0, .int .u64 0, .int .u64 0, .string { data := #[] }, .string { data := #[] }, .int .i64 0, .slice none 0 0, .slice sa 1 sc], .agg #[.int .i64 0, .int .i64 0, .slice none 0 0]]) (by simp (maxDischargeDepth := 4) [results, Tryz.results10, go_sem, c2_0, f2_0, c2_1, f2_1, c2_2, f2_2, c2_3, f2_3, c2_4, f2_4, c2_5, f2_5, c2_6, f2_6, c2_7, f2_7, c2_8, f2_8, c2_9, f2_9, c2_10, f2_10, c2_11, f2_11]) rfl ?_
  refine ⟨⟨_, rfl, (hk2.out.keeps ?_).mono (fun b hb _ => by omega)⟩, bel⟩
  repeat' (first | (with_reducible assumption) | (with_reducible exact Keeps.refl _ _) | (with_reducible refine keeps_drew ?_) | (with_reducible refine keeps_set ?_ (by dsimp only; omega) _) | (with_reducible refine keeps_alloc ?_ _))
end
end Go.Proofs.YtihnfhhopldllaaGreatDoor
