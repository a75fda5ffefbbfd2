/- Parts of the proof of TopLooks: U38. No condition. -/
import Derived.Test.YtihnfhhopldllaaGreatDoorJ1
import Derived.Test.YtihnfhhopldllaaGreatDoorJ11
import Derived.Test.YtihnfhhopldllaaGreatDoorJ12
namespace Go.Proofs.YtihnfhhopldllaaGreatDoor
set_option linter.unusedSimpArgs false
set_option linter.unusedVariables false
set_option maxHeartbeats 6400000
set_option maxRecDepth 100000
section
open Go.RowKit
theorem rest_at {T : ByteArray} {p : Nat} {Z : List UInt8} (h : At T p Z) : (T.extract p T.size).data.toList = Z := by
  have hl := len_data T
  rw [Lib.extract_data, List.take_of_length_le (by rw [List.length_drop]; omega)]
  exact h.2
theorem next_123 (T : ByteArray) (hT : T.size ≤ 1000000) (p : Nat) (Z : List UInt8) (h : At T p (123 :: Z)) (w : World) :
    Calls Tryz.prog 114 #[.string T, .int .i64 p] w fun e w' => e = .returned (.tuple #[.agg #[.int .i64 2, .int .i64 p, .int .i64 (p + 1 : Nat), .string { data := #[] }], .agg #[.int .i64 0, .int .i64 0, .slice none 0 0]]) ∧ Below w.heap.size w w' := by
  have H := Lib.hid (plain_123 (T.extract p T.size) Z (rest_at h))
  obtain ⟨hp, hb⟩ := h.byte
  have e0 : (p : Int) < T.size := by omega
  have e1 : ((T[p]'hp).toNat : Int) = 123 := by rw [hb]; rfl
  have e2 : ((p + 1 : Nat) : Int) = (p : Int) + 1 := by omega
  rw [e2]
  clear hb h e2
  go_enter Tryz.func114, Tryz.ntmps114
  go_wp2_with fail
  refine wp_loop_rounds 1 ?_
  rw [rounds_succ]
  go_wp2_with fail
  with_reducible refine (H.out _).mono ?_
  rintro e w' ⟨rfl, rfl⟩
  go_wp2_with fail
  refine bodyPost_ret (v := .tuple #[.agg #[.int .i64 2, .int .i64 p, .int .i64 ((p : Int) + 1), .string { data := #[] }], .agg #[.int .i64 0, .int .i64 0, .slice none 0 0]]) (by simp (maxDischargeDepth := 4) [results, Tryz.results114, go_sem]) rfl ?_
  exact ⟨rfl, bel⟩
theorem next_125 (T : ByteArray) (hT : T.size ≤ 1000000) (p : Nat) (Z : List UInt8) (h : At T p (125 :: Z)) (w : World) :
    Calls Tryz.prog 114 #[.string T, .int .i64 p] w fun e w' => e = .returned (.tuple #[.agg #[.int .i64 3, .int .i64 p, .int .i64 (p + 1 : Nat), .string { data := #[] }], .agg #[.int .i64 0, .int .i64 0, .slice none 0 0]]) ∧ Below w.heap.size w w' := by
  have H := Lib.hid (plain_125 (T.extract p T.size) Z (rest_at h))
  obtain ⟨hp, hb⟩ := h.byte
  have e0 : (p : Int) < T.size := by omega
  have e1 : ((T[p]'hp).toNat : Int) = 125 := by rw [hb]; rfl
  have e2 : ((p + 1 : Nat) : Int) = (p : Int) + 1 := by omega
  rw [e2]
  clear hb h e2
  go_enter Tryz.func114, Tryz.ntmps114
  go_wp2_with fail
  refine wp_loop_rounds 1 ?_
  rw [rounds_succ]
  go_wp2_with fail
  with_reducible refine (H.out _).mono ?_
  rintro e w' ⟨rfl, rfl⟩
  go_wp2_with fail
  refine bodyPost_ret (v := .tuple #[.agg #[.int .i64 3, .int .i64 p, .int .i64 ((p : Int) + 1), .string { data := #[] }], .agg #[.int .i64 0, .int .i64 0, .slice none 0 0]]) (by simp (maxDischargeDepth := 4) [results, Tryz.results114, go_sem]) rfl ?_
  exact ⟨rfl, bel⟩
theorem next_91 (T : ByteArray) (hT : T.size ≤ 1000000) (p : Nat) (Z : List UInt8) (h : At T p (91 :: Z)) (w : World) :
    Calls Tryz.prog 114 #[.string T, .int .i64 p] w fun e w' => e = .returned (.tuple #[.agg #[.int .i64 4, .int .i64 p, .int .i64 (p + 1 : Nat), .string { data := #[] }], .agg #[.int .i64 0, .int .i64 0, .slice none 0 0]]) ∧ Below w.heap.size w w' := by
  have H := Lib.hid (plain_91 (T.extract p T.size) Z (rest_at h))
  obtain ⟨hp, hb⟩ := h.byte
  have e0 : (p : Int) < T.size := by omega
  have e1 : ((T[p]'hp).toNat : Int) = 91 := by rw [hb]; rfl
  have e2 : ((p + 1 : Nat) : Int) = (p : Int) + 1 := by omega
  rw [e2]
  clear hb h e2
  go_enter Tryz.func114, Tryz.ntmps114
  go_wp2_with fail
  refine wp_loop_rounds 1 ?_
  rw [rounds_succ]
  go_wp2_with fail
  with_reducible refine (H.out _).mono ?_
  rintro e w' ⟨rfl, rfl⟩
  go_wp2_with fail
  refine bodyPost_ret (v := .tuple #[.agg #[.int .i64 4, .int .i64 p, .int .i64 ((p : Int) + 1), .string { data := #[] }], .agg #[.int .i64 0, .int .i64 0, .slice none 0 0]]) (by simp (maxDischargeDepth := 4) [results, Tryz.results114, go_sem]) rfl ?_
  exact ⟨rfl, bel⟩
theorem next_93 (T : ByteArray) (hT : T.size ≤ 1000000) (p : Nat) (Z : List UInt8) (h : At T p (93 :: Z)) (w : World) :
    Calls Tryz.prog 114 #[.string T, .int .i64 p] w fun e w' => e = .returned (.tuple #[.agg #[.int .i64 5, .int .i64 p, .int .i64 (p + 1 : Nat), .string { data := #[] }], .agg #[.int .i64 0, .int .i64 0, .slice none 0 0]]) ∧ Below w.heap.size w w' := by
  have H := Lib.hid (plain_93 (T.extract p T.size) Z (rest_at h))
  obtain ⟨hp, hb⟩ := h.byte
  have e0 : (p : Int) < T.size := by omega
  have e1 : ((T[p]'hp).toNat : Int) = 93 := by rw [hb]; rfl
  have e2 : ((p + 1 : Nat) : Int) = (p : Int) + 1 := by omega
  rw [e2]
  clear hb h e2
  go_enter Tryz.func114, Tryz.ntmps114
  go_wp2_with fail
  refine wp_loop_rounds 1 ?_
  rw [rounds_succ]
  go_wp2_with fail
  with_reducible refine (H.out _).mono ?_
  rintro e w' ⟨rfl, rfl⟩
  go_wp2_with fail
  refine bodyPost_ret (v := .tuple #[.agg #[.int .i64 5, .int .i64 p, .int .i64 ((p : Int) + 1), .string { data := #[] }], .agg #[.int .i64 0, .int .i64 0, .slice none 0 0]]) (by simp (maxDischargeDepth := 4) [results, Tryz.results114, go_sem]) rfl ?_
  exact ⟨rfl, bel⟩
theorem next_58 (T : ByteArray) (hT : T.size ≤ 1000000) (p : Nat) (Z : List UInt8) (h : At T p (58 :: Z)) (w : World) :
    Calls Tryz.prog 114 #[.string T, .int .i64 p] w fun e w' => e = .returned (.tuple #[.agg #[.int .i64 6, .int .i64 p, .int .i64 (p + 1 : Nat), .string { data := #[] }], .agg #[.int .i64 0, .int .i64 0, .slice none 0 0]]) ∧ Below w.heap.size w w' := by
  have H := Lib.hid (plain_58 (T.extract p T.size) Z (rest_at h))
  obtain ⟨hp, hb⟩ := h.byte
  have e0 : (p : Int) < T.size := by omega
  have e1 : ((T[p]'hp).toNat : Int) = 58 := by rw [hb]; rfl
  have e2 : ((p + 1 : Nat) : Int) = (p : Int) + 1 := by omega
  rw [e2]
  clear hb h e2
  go_enter Tryz.func114, Tryz.ntmps114
  go_wp2_with fail
  refine wp_loop_rounds 1 ?_
  rw [rounds_succ]
  go_wp2_with fail
  with_reducible refine (H.out _).mono ?_
  rintro e w' ⟨rfl, rfl⟩
  go_wp2_with fail
  refine bodyPost_ret (v := .tuple #[.agg #[.int .i64 6, .int .i64 p, .int .i64 ((p : Int) + 1), .string { data := #[] }], .agg #[.int .i64 0, .int .i64 0, .slice none 0 0]]) (by simp (maxDischargeDepth := 4) [results, Tryz.results114, go_sem]) rfl ?_
  exact ⟨rfl, bel⟩
theorem next_44 (T : ByteArray) (hT : T.size ≤ 1000000) (p : Nat) (Z : List UInt8) (h : At T p (44 :: Z)) (w : World) :
    Calls Tryz.prog 114 #[.string T, .int .i64 p] w fun e w' => e = .returned (.tuple #[.agg #[.int .i64 7, .int .i64 p, .int .i64 (p + 1 : Nat), .string { data := #[] }], .agg #[.int .i64 0, .int .i64 0, .slice none 0 0]]) ∧ Below w.heap.size w w' := by
  have H := Lib.hid (plain_44 (T.extract p T.size) Z (rest_at h))
  obtain ⟨hp, hb⟩ := h.byte
  have e0 : (p : Int) < T.size := by omega
  have e1 : ((T[p]'hp).toNat : Int) = 44 := by rw [hb]; rfl
  have e2 : ((p + 1 : Nat) : Int) = (p : Int) + 1 := by omega
  rw [e2]
  clear hb h e2
  go_enter Tryz.func114, Tryz.ntmps114
  go_wp2_with fail
  refine wp_loop_rounds 1 ?_
  rw [rounds_succ]
  go_wp2_with fail
  with_reducible refine (H.out _).mono ?_
  rintro e w' ⟨rfl, rfl⟩
  go_wp2_with fail
  refine bodyPost_ret (v := .tuple #[.agg #[.int .i64 7, .int .i64 p, .int .i64 ((p : Int) + 1), .string { data := #[] }], .agg #[.int .i64 0, .int .i64 0, .slice none 0 0]]) (by simp (maxDischargeDepth := 4) [results, Tryz.results114, go_sem]) rfl ?_
  exact ⟨rfl, bel⟩
theorem next_str (T : ByteArray) (hT : T.size ≤ 1000000) (p : Nat) (t Z : List UInt8) (ht : t.length ≤ 200) (hw : Wh t) (h : At T p (quote t ++ Z)) (w : World) :
    Calls Tryz.prog 114 #[.string T, .int .i64 p] w fun e w' => e = .returned (.tuple #[.agg #[.int .i64 8, .int .i64 p, .int .i64 (p + (quote t).length : Nat), .string (bs t)], .agg #[.int .i64 0, .int .i64 0, .slice none 0 0]]) ∧ Below w.heap.size w w' := by
  have H1 := Lib.hid (text_any T hT p t Z ht hw h)
  have hA : At T p (34 :: (escs t ++ [34] ++ Z)) := h
  have H := Lib.hid (plain_no (T.extract p T.size) 34 _ (rest_at hA) (by decide))
  obtain ⟨hp, hb⟩ := hA.byte
  have e0 : (p : Int) < T.size := by omega
  have e1 : ((T[p]'hp).toNat : Int) = 34 := by rw [hb]; rfl
  obtain ⟨E, hE⟩ : ∃ E : Int, ((p + (quote t).length : Nat) : Int) = E := ⟨_, rfl⟩
  rw [hE] at H1 ⊢
  clear hb h hA hE hw
  go_enter Tryz.func114, Tryz.ntmps114
  go_wp2_with fail
  refine wp_loop_rounds 1 ?_
  rw [rounds_succ]
  go_wp2_with fail
  with_reducible refine (H.out _).mono ?_
  rintro e w' ⟨rfl, rfl⟩
  go_wp2_with fail
  with_reducible refine (H1.out _).mono ?_
  rintro e w1 ⟨rfl, hb1⟩
  obtain ⟨c1_0, f1_0⟩ := cf hb1 w.heap.size 0 (.int .i64 0)
  obtain ⟨c1_1, f1_1⟩ := cf hb1 w.heap.size 1 (.int .i64 0)
  obtain ⟨c1_2, f1_2⟩ := cf hb1 w.heap.size 2 (.int .i64 0)
  obtain ⟨c1_3, f1_3⟩ := cf hb1 w.heap.size 3 (.string { data := #[] })
  obtain ⟨c1_4, f1_4⟩ := cf hb1 (w.heap.size + 1) 0 (.int .i64 0)
  obtain ⟨c1_5, f1_5⟩ := cf hb1 (w.heap.size + 1) 1 (.int .i64 0)
  obtain ⟨c1_6, f1_6⟩ := cf hb1 (w.heap.size + 1) 2 (.slice none 0 0)
  have hl1_0 := ltB hb1 w.heap.size
  have hl1_1 := ltB hb1 (w.heap.size + 1)
  have hw1 := bwB hb1 w.heap.size w
  have hz1 := hw1.size
  clear hb1
  go_wp2_with fail
  refine bodyPost_ret (v := .tuple #[.agg #[.int .i64 8, .int .i64 p, .int .i64 E, .string (bs t)], .agg #[.int .i64 0, .int .i64 0, .slice none 0 0]]) (by simp (maxDischargeDepth := 4) [results, Tryz.results114, go_sem, c1_0, f1_0, c1_1, f1_1, c1_2, f1_2, c1_3, f1_3, c1_4, f1_4, c1_5, f1_5, c1_6, f1_6]) rfl ?_
  exact ⟨rfl, bel⟩
theorem next_end (T : ByteArray) (hT : T.size ≤ 1000000) (p : Nat) (h : At T p []) (w : World) :
    Calls Tryz.prog 114 #[.string T, .int .i64 p] w fun e w' => e = .returned (.tuple #[.agg #[.int .i64 1, .int .i64 p, .int .i64 p, .string { data := #[] }], .agg #[.int .i64 0, .int .i64 0, .slice none 0 0]]) ∧ Below w.heap.size w w' := by
  have hp := h.end'
  clear h
  subst hp
  go_enter Tryz.func114, Tryz.ntmps114
  go_wp2_with fail
  refine wp_loop_rounds 1 ?_
  rw [rounds_succ]
  go_wp2_with fail
  refine bodyPost_ret (v := .tuple #[.agg #[.int .i64 1, .int .i64 T.size, .int .i64 T.size, .string { data := #[] }], .agg #[.int .i64 0, .int .i64 0, .slice none 0 0]]) (by simp (maxDischargeDepth := 4) [results, Tryz.results114, go_sem]) rfl ?_
  exact ⟨rfl, bel⟩
end
end Go.Proofs.YtihnfhhopldllaaGreatDoor
