/- Parts of the proof of TopLooks: U7. No condition. -/
import Derived.Test.YtihnfhhopldllaaGreatDoorJ1
import Derived.Test.YtihnfhhopldllaaGreatDoorJ5
namespace Go.Proofs.YtihnfhhopldllaaGreatDoor
set_option linter.unusedSimpArgs false
set_option linter.unusedVariables false
set_option maxHeartbeats 6400000
set_option maxRecDepth 100000
section
open Go.RowKit
theorem hi_int : ∃ i0, Tryz.prog.info? 3 = some i0 ∧ i0.zero = some (.int .i64 0) ∧ i0.size = 1 ∧ i0.bytes = 8 := by
  have h : (Tryz.prog.info? 3).map (fun i => (i.zero, i.size, i.bytes)) = some (some (.int .i64 0), 1, 8) := by kernel_rfl
  obtain ⟨i0, h0, h1⟩ := Option.map_eq_some_iff.1 h
  injection h1 with h1 h2
  injection h2 with h2 h3
  exact ⟨i0, h0, h1, h2, h3⟩
theorem clone_path (w : World) (B : Nat) (p : Value) (n : Nat) (hn : n ≤ 1000000) (hp : Pa w B 3 p n) : Calls Tryz.prog 121 #[p] w fun e w' => (∃ qa qn qc, e = .returned (.slice qa qn qc)) ∧ Below w.heap.size w w' := by
  obtain ⟨xs, hown, h1⟩ := hp
  rcases hown.2 with ⟨rfl, rfl⟩ | ⟨g, cap, cur, rfl, hb, hg, hnc, hcm, hcs, htake⟩
  · refine (Tryz.slices_Clone_nil 0 0 w).mono ?_
    rintro e w' ⟨rfl, hw⟩
    exact ⟨⟨_, _, _, rfl⟩, by first | exact hw | (subst hw; exact Below.refl _ _) | (rw [hw]; exact Below.refl _ _)⟩
  · obtain ⟨i0, h0, hz, hs, hby⟩ := hi_int
    refine (Tryz.slices_Clone i0 _ 1 8 h0 hz hs hby rfl (by decide) Tryz.sizeOf3 g 0 n cap xs w (by rw [hown.1]) (by unfold maxLen; omega) (by omega) (fun j u hu => ?_) h1).mono ?_
    · have := World.ownsRow.cells hown (g := g) rfl j u hu
      rw [Addr.add_mid, Nat.zero_add] at this
      rw [Nat.zero_add]
      exact this
    · rintro e w' ⟨v', rfl, ho, _, hb⟩
      rcases ho.2 with ⟨rfl, _⟩ | ⟨g', cap', cur', rfl, _⟩
      · exact ⟨⟨_, _, _, rfl⟩, hb⟩
      · exact ⟨⟨_, _, _, rfl⟩, hb⟩
theorem whole_f (t : List UInt8) (ht : t.length ≤ 1000000) (w : World) : Calls Tryz.prog 175 #[.string (bs t), .bool false] w fun e w' => e = .returned (.bool (decide (Wh t))) ∧ Below w.heap.size w w' := by
  have h := whole_any (bs t) false (by rw [bs_size]; exact ht) w
  rw [bs_list, whB, Bool.false_and, Bool.not_false, Bool.and_true] at h
  exact h
theorem whole_t (t : List UInt8) (ht : t.length ≤ 1000000) (w : World) : Calls Tryz.prog 175 #[.string (bs t), .bool true] w fun e w' => e = .returned (.bool (decide (Nm t))) ∧ Below w.heap.size w w' := by
  have h := whole_any (bs t) true (by rw [bs_size]; exact ht) w
  have e : whB true (bs t).data.toList = decide (Nm t) := by
    rw [bs_list, whB, Bool.true_and]
    by_cases h1 : Wh t <;> by_cases h2 : (0 : UInt8) ∈ t
    · rw [decide_eq_true h1, decide_eq_true h2, decide_eq_false (p := Nm t) (fun h => h.2 h2)]; rfl
    · rw [decide_eq_true h1, decide_eq_false h2, decide_eq_true ⟨h1, h2⟩]; rfl
    · rw [decide_eq_false h1, decide_eq_false (p := Nm t) (fun h => h1 h.1)]; rfl
    · rw [decide_eq_false h1, decide_eq_false (p := Nm t) (fun h => h1 h.1)]; rfl
  rw [e] at h
  exact h
theorem whole_e (w : World) : Calls Tryz.prog 175 #[.string { data := #[] }, .bool false] w fun e w' => e = .returned (.bool true) ∧ Below w.heap.size w w' := whole_f [] (by simp) w
theorem check_2 (x : List UInt8) (hx : x.length ≤ 200) (nm : List UInt8) (hnm : nm.length ≤ 200) (bd : Option Addr) (bc : Nat) (ad : Option Addr) (c : Nat) (p : Value) (n B : Nat) (hn : n ≤ 1000) (w : World) (hp : Pa w B 3 p n) :
    Calls Tryz.prog 105 #[.agg #[.int .i64 2, .int .u64 0, .int .u64 0, .int .u64 0, .string (bs x), .string { data := #[] }, .int .i64 0, .slice bd 0 bc, .slice ad 0 c], .string (bs nm), p] w fun e w' => (∃ qa qn qc, e = .returned (.tuple #[.slice qa qn qc, .int .i64 (if (decide (Nm nm) && decide (Wh x)) = true then 0 else 4)])) ∧ w.grownBy w' p.ownBlock ∧ Pa w' B 3 p n := by
  have H1 := Lib.hid name_2
  have H2 := Lib.hid (fun w => fields_2 (bs x) bd bc ad 0 c w)
  have H4 := Lib.hid whole_e
  have H5 := whole_t nm (by omega)
  have HP := Lib.hid hp
  have HC := Lib.hid (fun w' (hb : Below w.heap.size w w') => clone_path w' B p n (by omega) (hp.beyond hb))
  have hlt := Lib.hid (fun w' (hb : Below w.heap.size w w') => grown_below hb p.ownBlock)
  obtain ⟨N, hN⟩ : ∃ N, bs nm = N := ⟨_, rfl⟩
  rw [hN] at H5 ⊢
  have H3 := whole_f x (by omega)
  obtain ⟨T, hT⟩ : ∃ T, bs x = T := ⟨_, rfl⟩
  rw [hT] at H2 H3 ⊢
  clear hT hN hp
  cases h1 : decide (Wh x)
  · rw [h1] at H3
    rw [Bool.and_false]
    have H3 := Lib.hid H3
    clear h1 H5
    go_enter Tryz.func105, Tryz.ntmps105
    go_wp2_with fail
    with_reducible refine (H1.out _).mono ?_
    rintro e w1 ⟨rfl, hb1⟩
    have c1_0 := cB hb1 w.heap.size 0 (.int .i64 2)
    have c1_1 := cB hb1 w.heap.size 1 (.int .u64 0)
    have c1_2 := cB hb1 w.heap.size 2 (.int .u64 0)
    have c1_3 := cB hb1 w.heap.size 3 (.int .u64 0)
    have c1_4 := cB hb1 w.heap.size 4 (.string T)
    have c1_5 := cB hb1 w.heap.size 5 (.string { data := #[] })
    have c1_6 := cB hb1 w.heap.size 6 (.int .i64 0)
    have c1_7 := cB hb1 w.heap.size 7 (.slice bd 0 bc)
    have c1_8 := cB hb1 w.heap.size 8 (.slice ad 0 c)
    have hl1_0 := ltB hb1 w.heap.size
    have hw1 := bwB hb1 w.heap.size w
    have hz1 := hw1.size
    clear hb1
    go_wp2_with fail
    with_reducible refine (H2.out _).mono ?_
    rintro e w2 ⟨rfl, hb2⟩
    have c2_0 := cB hb2 w.heap.size 0 (.int .i64 2)
    have c2_1 := cB hb2 w.heap.size 1 (.int .u64 0)
    have c2_2 := cB hb2 w.heap.size 2 (.int .u64 0)
    have c2_3 := cB hb2 w.heap.size 3 (.int .u64 0)
    have c2_4 := cB hb2 w.heap.size 4 (.string T)
    have c2_5 := cB hb2 w.heap.size 5 (.string { data := #[] })
    have c2_6 := cB hb2 w.heap.size 6 (.int .i64 0)
    have c2_7 := cB hb2 w.heap.size 7 (.slice bd 0 bc)
    have c2_8 := cB hb2 w.heap.size 8 (.slice ad 0 c)
    have hl2_0 := ltB hb2 w.heap.size
    have hw2 := bwB hb2 w.heap.size w
    have hz2 := hw2.size
    clear hb2
    go_wp2_with fail
    with_reducible refine (H3.out _).mono ?_
    rintro e w3 ⟨rfl, hb3⟩
    have c3_0 := cB hb3 w.heap.size 0 (.int .i64 2)
    have c3_1 := cB hb3 w.heap.size 1 (.int .u64 0)
    have c3_2 := cB hb3 w.heap.size 2 (.int .u64 0)
    have c3_3 := cB hb3 w.heap.size 3 (.int .u64 0)
    have c3_4 := cB hb3 w.heap.size 4 (.string T)
    have c3_5 := cB hb3 w.heap.size 5 (.string { data := #[] })
    have c3_6 := cB hb3 w.heap.size 6 (.int .i64 0)
    have c3_7 := cB hb3 w.heap.size 7 (.slice bd 0 bc)
    have c3_8 := cB hb3 w.heap.size 8 (.slice ad 0 c)
    have hl3_0 := ltB hb3 w.heap.size
    have hw3 := bwB hb3 w.heap.size w
    have hz3 := hw3.size
    clear hb3
    go_wp2_with fail
    with_reducible refine (HC.out _ hw3).mono ?_
    rintro e w9 ⟨⟨qa, qn, qc, rfl⟩, hb9⟩
    have hw9 : Below w.heap.size w w9 := Below.trans hw3 (hb9.mono (by first | exact hw3.size | omega))
    clear hb9
    go_wp2_with fail
    go_ret2
    exact ⟨⟨_, _, _, rfl⟩, hlt.out _ hw9, HP.out.beyond hw9⟩
  · rw [h1] at H3
    rw [Bool.and_true]
    have H3 := Lib.hid H3
    clear h1
    cases h2 : decide (Nm nm)
    · rw [h2] at H5
      have H5 := Lib.hid H5
      clear h2
      go_enter Tryz.func105, Tryz.ntmps105
      go_wp2_with fail
      with_reducible refine (H1.out _).mono ?_
      rintro e w1 ⟨rfl, hb1⟩
      have c1_0 := cB hb1 w.heap.size 0 (.int .i64 2)
      have c1_1 := cB hb1 w.heap.size 1 (.int .u64 0)
      have c1_2 := cB hb1 w.heap.size 2 (.int .u64 0)
      have c1_3 := cB hb1 w.heap.size 3 (.int .u64 0)
      have c1_4 := cB hb1 w.heap.size 4 (.string T)
      have c1_5 := cB hb1 w.heap.size 5 (.string { data := #[] })
      have c1_6 := cB hb1 w.heap.size 6 (.int .i64 0)
      have c1_7 := cB hb1 w.heap.size 7 (.slice bd 0 bc)
      have c1_8 := cB hb1 w.heap.size 8 (.slice ad 0 c)
      have hl1_0 := ltB hb1 w.heap.size
      have hw1 := bwB hb1 w.heap.size w
      have hz1 := hw1.size
      clear hb1
      go_wp2_with fail
      with_reducible refine (H2.out _).mono ?_
      rintro e w2 ⟨rfl, hb2⟩
      have c2_0 := cB hb2 w.heap.size 0 (.int .i64 2)
      have c2_1 := cB hb2 w.heap.size 1 (.int .u64 0)
      have c2_2 := cB hb2 w.heap.size 2 (.int .u64 0)
      have c2_3 := cB hb2 w.heap.size 3 (.int .u64 0)
      have c2_4 := cB hb2 w.heap.size 4 (.string T)
      have c2_5 := cB hb2 w.heap.size 5 (.string { data := #[] })
      have c2_6 := cB hb2 w.heap.size 6 (.int .i64 0)
      have c2_7 := cB hb2 w.heap.size 7 (.slice bd 0 bc)
      have c2_8 := cB hb2 w.heap.size 8 (.slice ad 0 c)
      have hl2_0 := ltB hb2 w.heap.size
      have hw2 := bwB hb2 w.heap.size w
      have hz2 := hw2.size
      clear hb2
      go_wp2_with fail
      with_reducible refine (H3.out _).mono ?_
      rintro e w3 ⟨rfl, hb3⟩
      have c3_0 := cB hb3 w.heap.size 0 (.int .i64 2)
      have c3_1 := cB hb3 w.heap.size 1 (.int .u64 0)
      have c3_2 := cB hb3 w.heap.size 2 (.int .u64 0)
      have c3_3 := cB hb3 w.heap.size 3 (.int .u64 0)
      have c3_4 := cB hb3 w.heap.size 4 (.string T)
      have c3_5 := cB hb3 w.heap.size 5 (.string { data := #[] })
      have c3_6 := cB hb3 w.heap.size 6 (.int .i64 0)
      have c3_7 := cB hb3 w.heap.size 7 (.slice bd 0 bc)
      have c3_8 := cB hb3 w.heap.size 8 (.slice ad 0 c)
      have hl3_0 := ltB hb3 w.heap.size
      have hw3 := bwB hb3 w.heap.size w
      have hz3 := hw3.size
      clear hb3
      go_wp2_with fail
      with_reducible refine (H4.out _).mono ?_
      rintro e w4 ⟨rfl, hb4⟩
      have c4_0 := cB hb4 w.heap.size 0 (.int .i64 2)
      have c4_1 := cB hb4 w.heap.size 1 (.int .u64 0)
      have c4_2 := cB hb4 w.heap.size 2 (.int .u64 0)
      have c4_3 := cB hb4 w.heap.size 3 (.int .u64 0)
      have c4_4 := cB hb4 w.heap.size 4 (.string T)
      have c4_5 := cB hb4 w.heap.size 5 (.string { data := #[] })
      have c4_6 := cB hb4 w.heap.size 6 (.int .i64 0)
      have c4_7 := cB hb4 w.heap.size 7 (.slice bd 0 bc)
      have c4_8 := cB hb4 w.heap.size 8 (.slice ad 0 c)
      have hl4_0 := ltB hb4 w.heap.size
      have hw4 := bwB hb4 w.heap.size w
      have hz4 := hw4.size
      clear hb4
      go_wp2_with fail
      with_reducible refine (H5.out _).mono ?_
      rintro e w5 ⟨rfl, hb5⟩
      have c5_0 := cB hb5 w.heap.size 0 (.int .i64 2)
      have c5_1 := cB hb5 w.heap.size 1 (.int .u64 0)
      have c5_2 := cB hb5 w.heap.size 2 (.int .u64 0)
      have c5_3 := cB hb5 w.heap.size 3 (.int .u64 0)
      have c5_4 := cB hb5 w.heap.size 4 (.string T)
      have c5_5 := cB hb5 w.heap.size 5 (.string { data := #[] })
      have c5_6 := cB hb5 w.heap.size 6 (.int .i64 0)
      have c5_7 := cB hb5 w.heap.size 7 (.slice bd 0 bc)
      have c5_8 := cB hb5 w.heap.size 8 (.slice ad 0 c)
      have hl5_0 := ltB hb5 w.heap.size
      have hw5 := bwB hb5 w.heap.size w
      have hz5 := hw5.size
      clear hb5
      go_wp2_with fail
      with_reducible refine (HC.out _ hw5).mono ?_
      rintro e w9 ⟨⟨qa, qn, qc, rfl⟩, hb9⟩
      have hw9 : Below w.heap.size w w9 := Below.trans hw5 (hb9.mono (by first | exact hw5.size | omega))
      clear hb9
      go_wp2_with fail
      go_ret2
      exact ⟨⟨_, _, _, rfl⟩, hlt.out _ hw9, HP.out.beyond hw9⟩
    · rw [h2] at H5
      have H5 := Lib.hid H5
      clear h2
      go_enter Tryz.func105, Tryz.ntmps105
      go_wp2_with fail
      with_reducible refine (H1.out _).mono ?_
      rintro e w1 ⟨rfl, hb1⟩
      have c1_0 := cB hb1 w.heap.size 0 (.int .i64 2)
      have c1_1 := cB hb1 w.heap.size 1 (.int .u64 0)
      have c1_2 := cB hb1 w.heap.size 2 (.int .u64 0)
      have c1_3 := cB hb1 w.heap.size 3 (.int .u64 0)
      have c1_4 := cB hb1 w.heap.size 4 (.string T)
      have c1_5 := cB hb1 w.heap.size 5 (.string { data := #[] })
      have c1_6 := cB hb1 w.heap.size 6 (.int .i64 0)
      have c1_7 := cB hb1 w.heap.size 7 (.slice bd 0 bc)
      have c1_8 := cB hb1 w.heap.size 8 (.slice ad 0 c)
      have hl1_0 := ltB hb1 w.heap.size
      have hw1 := bwB hb1 w.heap.size w
      have hz1 := hw1.size
      clear hb1
      go_wp2_with fail
      with_reducible refine (H2.out _).mono ?_
      rintro e w2 ⟨rfl, hb2⟩
      have c2_0 := cB hb2 w.heap.size 0 (.int .i64 2)
      have c2_1 := cB hb2 w.heap.size 1 (.int .u64 0)
      have c2_2 := cB hb2 w.heap.size 2 (.int .u64 0)
      have c2_3 := cB hb2 w.heap.size 3 (.int .u64 0)
      have c2_4 := cB hb2 w.heap.size 4 (.string T)
      have c2_5 := cB hb2 w.heap.size 5 (.string { data := #[] })
      have c2_6 := cB hb2 w.heap.size 6 (.int .i64 0)
      have c2_7 := cB hb2 w.heap.size 7 (.slice bd 0 bc)
      have c2_8 := cB hb2 w.heap.size 8 (.slice ad 0 c)
      have hl2_0 := ltB hb2 w.heap.size
      have hw2 := bwB hb2 w.heap.size w
      have hz2 := hw2.size
      clear hb2
      go_wp2_with fail
      with_reducible refine (H3.out _).mono ?_
      rintro e w3 ⟨rfl, hb3⟩
      have c3_0 := cB hb3 w.heap.size 0 (.int .i64 2)
      have c3_1 := cB hb3 w.heap.size 1 (.int .u64 0)
      have c3_2 := cB hb3 w.heap.size 2 (.int .u64 0)
      have c3_3 := cB hb3 w.heap.size 3 (.int .u64 0)
      have c3_4 := cB hb3 w.heap.size 4 (.string T)
      have c3_5 := cB hb3 w.heap.size 5 (.string { data := #[] })
      have c3_6 := cB hb3 w.heap.size 6 (.int .i64 0)
      have c3_7 := cB hb3 w.heap.size 7 (.slice bd 0 bc)
      have c3_8 := cB hb3 w.heap.size 8 (.slice ad 0 c)
      have hl3_0 := ltB hb3 w.heap.size
      have hw3 := bwB hb3 w.heap.size w
      have hz3 := hw3.size
      clear hb3
      go_wp2_with fail
      with_reducible refine (H4.out _).mono ?_
      rintro e w4 ⟨rfl, hb4⟩
      have c4_0 := cB hb4 w.heap.size 0 (.int .i64 2)
      have c4_1 := cB hb4 w.heap.size 1 (.int .u64 0)
      have c4_2 := cB hb4 w.heap.size 2 (.int .u64 0)
      have c4_3 := cB hb4 w.heap.size 3 (.int .u64 0)
      have c4_4 := cB hb4 w.heap.size 4 (.string T)
      have c4_5 := cB hb4 w.heap.size 5 (.string { data := #[] })
      have c4_6 := cB hb4 w.heap.size 6 (.int .i64 0)
      have c4_7 := cB hb4 w.heap.size 7 (.slice bd 0 bc)
      have c4_8 := cB hb4 w.heap.size 8 (.slice ad 0 c)
      have hl4_0 := ltB hb4 w.heap.size
      have hw4 := bwB hb4 w.heap.size w
      have hz4 := hw4.size
      clear hb4
      go_wp2_with fail
      with_reducible refine (H5.out _).mono ?_
      rintro e w5 ⟨rfl, hb5⟩
      have c5_0 := cB hb5 w.heap.size 0 (.int .i64 2)
      have c5_1 := cB hb5 w.heap.size 1 (.int .u64 0)
      have c5_2 := cB hb5 w.heap.size 2 (.int .u64 0)
      have c5_3 := cB hb5 w.heap.size 3 (.int .u64 0)
      have c5_4 := cB hb5 w.heap.size 4 (.string T)
      have c5_5 := cB hb5 w.heap.size 5 (.string { data := #[] })
      have c5_6 := cB hb5 w.heap.size 6 (.int .i64 0)
      have c5_7 := cB hb5 w.heap.size 7 (.slice bd 0 bc)
      have c5_8 := cB hb5 w.heap.size 8 (.slice ad 0 c)
      have hl5_0 := ltB hb5 w.heap.size
      have hw5 := bwB hb5 w.heap.size w
      have hz5 := hw5.size
      clear hb5
      go_wp2_with fail
      go_loop [52] (fun x => x = .int .i64 0) (fun _ => 0)
      case atStart => rfl
      case round =>
        subst hrel
        go_wp2_with fail
        go_ret2
        exact ⟨⟨_, _, _, rfl⟩, hlt.out _ hw5, HP.out.beyond hw5⟩
theorem check_16 (nm : List UInt8) (hnm : nm.length ≤ 200) (bd : Option Addr) (bc : Nat) (ad : Option Addr) (c : Nat) (p : Value) (n B : Nat) (hn : n ≤ 1000) (w : World) (hp : Pa w B 3 p n) :
    Calls Tryz.prog 105 #[.agg #[.int .i64 16, .int .u64 1, .int .u64 0, .int .u64 0, .string { data := #[] }, .string { data := #[] }, .int .i64 0, .slice bd 0 bc, .slice ad 0 c], .string (bs nm), p] w fun e w' => (∃ qa qn qc, e = .returned (.tuple #[.slice qa qn qc, .int .i64 (if decide (Nm nm) = true then 0 else 4)])) ∧ w.grownBy w' p.ownBlock ∧ Pa w' B 3 p n := by
  have H1 := Lib.hid name_16
  have H2 := Lib.hid (fun w => fields_16 { data := #[] } bd bc ad 0 c w)
  have H4 := Lib.hid whole_e
  have H5 := whole_t nm (by omega)
  have HP := Lib.hid hp
  have HC := Lib.hid (fun w' (hb : Below w.heap.size w w') => clone_path w' B p n (by omega) (hp.beyond hb))
  have hlt := Lib.hid (fun w' (hb : Below w.heap.size w w') => grown_below hb p.ownBlock)
  obtain ⟨N, hN⟩ : ∃ N, bs nm = N := ⟨_, rfl⟩
  rw [hN] at H5 ⊢
  clear hN hp
  cases h2 : decide (Nm nm)
  · rw [h2] at H5
    have H5 := Lib.hid H5
    clear h2
    go_enter Tryz.func105, Tryz.ntmps105
    go_wp2_with fail
    with_reducible refine (H1.out _).mono ?_
    rintro e w1 ⟨rfl, hb1⟩
    have c1_0 := cB hb1 w.heap.size 0 (.int .i64 16)
    have c1_1 := cB hb1 w.heap.size 1 (.int .u64 1)
    have c1_2 := cB hb1 w.heap.size 2 (.int .u64 0)
    have c1_3 := cB hb1 w.heap.size 3 (.int .u64 0)
    have c1_4 := cB hb1 w.heap.size 4 (.string { data := #[] })
    have c1_5 := cB hb1 w.heap.size 5 (.string { data := #[] })
    have c1_6 := cB hb1 w.heap.size 6 (.int .i64 0)
    have c1_7 := cB hb1 w.heap.size 7 (.slice bd 0 bc)
    have c1_8 := cB hb1 w.heap.size 8 (.slice ad 0 c)
    have hl1_0 := ltB hb1 w.heap.size
    have hw1 := bwB hb1 w.heap.size w
    have hz1 := hw1.size
    clear hb1
    go_wp2_with fail
    with_reducible refine (H2.out _).mono ?_
    rintro e w2 ⟨rfl, hb2⟩
    have c2_0 := cB hb2 w.heap.size 0 (.int .i64 16)
    have c2_1 := cB hb2 w.heap.size 1 (.int .u64 1)
    have c2_2 := cB hb2 w.heap.size 2 (.int .u64 0)
    have c2_3 := cB hb2 w.heap.size 3 (.int .u64 0)
    have c2_4 := cB hb2 w.heap.size 4 (.string { data := #[] })
    have c2_5 := cB hb2 w.heap.size 5 (.string { data := #[] })
    have c2_6 := cB hb2 w.heap.size 6 (.int .i64 0)
    have c2_7 := cB hb2 w.heap.size 7 (.slice bd 0 bc)
    have c2_8 := cB hb2 w.heap.size 8 (.slice ad 0 c)
    have hl2_0 := ltB hb2 w.heap.size
    have hw2 := bwB hb2 w.heap.size w
    have hz2 := hw2.size
    clear hb2
    go_wp2_with fail
    with_reducible refine (H4.out _).mono ?_
    rintro e w3 ⟨rfl, hb3⟩
    have c3_0 := cB hb3 w.heap.size 0 (.int .i64 16)
    have c3_1 := cB hb3 w.heap.size 1 (.int .u64 1)
    have c3_2 := cB hb3 w.heap.size 2 (.int .u64 0)
    have c3_3 := cB hb3 w.heap.size 3 (.int .u64 0)
    have c3_4 := cB hb3 w.heap.size 4 (.string { data := #[] })
    have c3_5 := cB hb3 w.heap.size 5 (.string { data := #[] })
    have c3_6 := cB hb3 w.heap.size 6 (.int .i64 0)
    have c3_7 := cB hb3 w.heap.size 7 (.slice bd 0 bc)
    have c3_8 := cB hb3 w.heap.size 8 (.slice ad 0 c)
    have hl3_0 := ltB hb3 w.heap.size
    have hw3 := bwB hb3 w.heap.size w
    have hz3 := hw3.size
    clear hb3
    go_wp2_with fail
    with_reducible refine (H4.out _).mono ?_
    rintro e w4 ⟨rfl, hb4⟩
    have c4_0 := cB hb4 w.heap.size 0 (.int .i64 16)
    have c4_1 := cB hb4 w.heap.size 1 (.int .u64 1)
    have c4_2 := cB hb4 w.heap.size 2 (.int .u64 0)
    have c4_3 := cB hb4 w.heap.size 3 (.int .u64 0)
    have c4_4 := cB hb4 w.heap.size 4 (.string { data := #[] })
    have c4_5 := cB hb4 w.heap.size 5 (.string { data := #[] })
    have c4_6 := cB hb4 w.heap.size 6 (.int .i64 0)
    have c4_7 := cB hb4 w.heap.size 7 (.slice bd 0 bc)
    have c4_8 := cB hb4 w.heap.size 8 (.slice ad 0 c)
    have hl4_0 := ltB hb4 w.heap.size
    have hw4 := bwB hb4 w.heap.size w
    have hz4 := hw4.size
    clear hb4
    go_wp2_with fail
    with_reducible refine (H5.out _).mono ?_
    rintro e w5 ⟨rfl, hb5⟩
    have c5_0 := cB hb5 w.heap.size 0 (.int .i64 16)
    have c5_1 := cB hb5 w.heap.size 1 (.int .u64 1)
    have c5_2 := cB hb5 w.heap.size 2 (.int .u64 0)
    have c5_3 := cB hb5 w.heap.size 3 (.int .u64 0)
    have c5_4 := cB hb5 w.heap.size 4 (.string { data := #[] })
    have c5_5 := cB hb5 w.heap.size 5 (.string { data := #[] })
    have c5_6 := cB hb5 w.heap.size 6 (.int .i64 0)
    have c5_7 := cB hb5 w.heap.size 7 (.slice bd 0 bc)
    have c5_8 := cB hb5 w.heap.size 8 (.slice ad 0 c)
    have hl5_0 := ltB hb5 w.heap.size
    have hw5 := bwB hb5 w.heap.size w
    have hz5 := hw5.size
    clear hb5
    go_wp2_with fail
    with_reducible refine (HC.out _ hw5).mono ?_
    rintro e w9 ⟨⟨qa, qn, qc, rfl⟩, hb9⟩
    have hw9 : Below w.heap.size w w9 := Below.trans hw5 (hb9.mono (by first | exact hw5.size | omega))
    clear hb9
    go_wp2_with fail
    go_ret2
    exact ⟨⟨_, _, _, rfl⟩, hlt.out _ hw9, HP.out.beyond hw9⟩
  · rw [h2] at H5
    have H5 := Lib.hid H5
    clear h2
    go_enter Tryz.func105, Tryz.ntmps105
    go_wp2_with fail
    with_reducible refine (H1.out _).mono ?_
    rintro e w1 ⟨rfl, hb1⟩
    have c1_0 := cB hb1 w.heap.size 0 (.int .i64 16)
    have c1_1 := cB hb1 w.heap.size 1 (.int .u64 1)
    have c1_2 := cB hb1 w.heap.size 2 (.int .u64 0)
    have c1_3 := cB hb1 w.heap.size 3 (.int .u64 0)
    have c1_4 := cB hb1 w.heap.size 4 (.string { data := #[] })
    have c1_5 := cB hb1 w.heap.size 5 (.string { data := #[] })
    have c1_6 := cB hb1 w.heap.size 6 (.int .i64 0)
    have c1_7 := cB hb1 w.heap.size 7 (.slice bd 0 bc)
    have c1_8 := cB hb1 w.heap.size 8 (.slice ad 0 c)
    have hl1_0 := ltB hb1 w.heap.size
    have hw1 := bwB hb1 w.heap.size w
    have hz1 := hw1.size
    clear hb1
    go_wp2_with fail
    with_reducible refine (H2.out _).mono ?_
    rintro e w2 ⟨rfl, hb2⟩
    have c2_0 := cB hb2 w.heap.size 0 (.int .i64 16)
    have c2_1 := cB hb2 w.heap.size 1 (.int .u64 1)
    have c2_2 := cB hb2 w.heap.size 2 (.int .u64 0)
    have c2_3 := cB hb2 w.heap.size 3 (.int .u64 0)
    have c2_4 := cB hb2 w.heap.size 4 (.string { data := #[] })
    have c2_5 := cB hb2 w.heap.size 5 (.string { data := #[] })
    have c2_6 := cB hb2 w.heap.size 6 (.int .i64 0)
    have c2_7 := cB hb2 w.heap.size 7 (.slice bd 0 bc)
    have c2_8 := cB hb2 w.heap.size 8 (.slice ad 0 c)
    have hl2_0 := ltB hb2 w.heap.size
    have hw2 := bwB hb2 w.heap.size w
    have hz2 := hw2.size
    clear hb2
    go_wp2_with fail
    with_reducible refine (H4.out _).mono ?_
    rintro e w3 ⟨rfl, hb3⟩
    have c3_0 := cB hb3 w.heap.size 0 (.int .i64 16)
    have c3_1 := cB hb3 w.heap.size 1 (.int .u64 1)
    have c3_2 := cB hb3 w.heap.size 2 (.int .u64 0)
    have c3_3 := cB hb3 w.heap.size 3 (.int .u64 0)
    have c3_4 := cB hb3 w.heap.size 4 (.string { data := #[] })
    have c3_5 := cB hb3 w.heap.size 5 (.string { data := #[] })
    have c3_6 := cB hb3 w.heap.size 6 (.int .i64 0)
    have c3_7 := cB hb3 w.heap.size 7 (.slice bd 0 bc)
    have c3_8 := cB hb3 w.heap.size 8 (.slice ad 0 c)
    have hl3_0 := ltB hb3 w.heap.size
    have hw3 := bwB hb3 w.heap.size w
    have hz3 := hw3.size
    clear hb3
    go_wp2_with fail
    with_reducible refine (H4.out _).mono ?_
    rintro e w4 ⟨rfl, hb4⟩
    have c4_0 := cB hb4 w.heap.size 0 (.int .i64 16)
    have c4_1 := cB hb4 w.heap.size 1 (.int .u64 1)
    have c4_2 := cB hb4 w.heap.size 2 (.int .u64 0)
    have c4_3 := cB hb4 w.heap.size 3 (.int .u64 0)
    have c4_4 := cB hb4 w.heap.size 4 (.string { data := #[] })
    have c4_5 := cB hb4 w.heap.size 5 (.string { data := #[] })
    have c4_6 := cB hb4 w.heap.size 6 (.int .i64 0)
    have c4_7 := cB hb4 w.heap.size 7 (.slice bd 0 bc)
    have c4_8 := cB hb4 w.heap.size 8 (.slice ad 0 c)
    have hl4_0 := ltB hb4 w.heap.size
    have hw4 := bwB hb4 w.heap.size w
    have hz4 := hw4.size
    clear hb4
    go_wp2_with fail
    with_reducible refine (H5.out _).mono ?_
    rintro e w5 ⟨rfl, hb5⟩
    have c5_0 := cB hb5 w.heap.size 0 (.int .i64 16)
    have c5_1 := cB hb5 w.heap.size 1 (.int .u64 1)
    have c5_2 := cB hb5 w.heap.size 2 (.int .u64 0)
    have c5_3 := cB hb5 w.heap.size 3 (.int .u64 0)
    have c5_4 := cB hb5 w.heap.size 4 (.string { data := #[] })
    have c5_5 := cB hb5 w.heap.size 5 (.string { data := #[] })
    have c5_6 := cB hb5 w.heap.size 6 (.int .i64 0)
    have c5_7 := cB hb5 w.heap.size 7 (.slice bd 0 bc)
    have c5_8 := cB hb5 w.heap.size 8 (.slice ad 0 c)
    have hl5_0 := ltB hb5 w.heap.size
    have hw5 := bwB hb5 w.heap.size w
    have hz5 := hw5.size
    clear hb5
    go_wp2_with fail
    go_loop [52] (fun x => x = .int .i64 0) (fun _ => 0)
    case atStart => rfl
    case round =>
      subst hrel
      go_wp2_with fail
      go_ret2
      exact ⟨⟨_, _, _, rfl⟩, hlt.out _ hw5, HP.out.beyond hw5⟩
end
end Go.Proofs.YtihnfhhopldllaaGreatDoor
