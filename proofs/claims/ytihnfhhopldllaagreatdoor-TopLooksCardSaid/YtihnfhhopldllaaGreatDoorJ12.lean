/- Parts of the proof of TopLooks: M9, U36, U48, U23, Str, M10, U63, Fk. No condition. -/
import Derived.Test.YtihnfhhopldllaaGreatDoorJ1
import Derived.Test.YtihnfhhopldllaaGreatDoorJ5
import Derived.Test.YtihnfhhopldllaaGreatDoorJ9
namespace Go.Proofs.YtihnfhhopldllaaGreatDoor
set_option linter.unusedSimpArgs false
set_option linter.unusedVariables false
set_option maxHeartbeats 6400000
set_option maxRecDepth 100000
section
open Go.RowKit
def lkT (nm tx : List UInt8) : Ro := vD [(36 :: nm, vS tx)]
def arrK (nm tx : List UInt8) (l : List (List UInt8)) : KL := l.map fun n => (n, lkT nm tx)
theorem arrK_len (nm tx : List UInt8) (l : List (List UInt8)) : (arrK nm tx l).length = l.length := by simp [arrK]
theorem arrK_mem {nm tx : List UInt8} {l : List (List UInt8)} {x : List UInt8 × Ro} (h : x ∈ arrK nm tx l) : ∃ n ∈ l, x = (n, lkT nm tx) := by
  obtain ⟨n, h1, rfl⟩ := List.mem_map.1 h
  exact ⟨n, h1, rfl⟩
def topT (nm tx : List UInt8) (l : List (List UInt8)) : Ro := vD [([97], lkT nm tx), ([98], vA (arrK nm tx l))]
def topK (nm tx : List UInt8) (l : List (List UInt8)) : KL := [([97], lkT nm tx), ([98], vA (arrK nm tx l))]
theorem dk_lk {nm tx : List UInt8} (hn : nm.length ≤ 60) (ht : tx.length ≤ 60) : Dk 1 (lkT nm tx) :=
  .inr ⟨_, .inl rfl, by simp, fun x hx => by
    rcases List.mem_singleton.1 hx with rfl
    exact ⟨by simp; omega, .inl ⟨tx, by omega, rfl⟩⟩⟩
theorem sk_lk (nm tx : List UInt8) : Sk 1 (lkT nm tx) := .inr ⟨_, .inl rfl, fun x hx => by
    rcases List.mem_singleton.1 hx with rfl
    exact ⟨tx, rfl⟩⟩
theorem dk_top {nm tx : List UInt8} {l : List (List UInt8)} (hn : nm.length ≤ 60) (ht : tx.length ≤ 60) (hl : l.length ≤ 10) (h : ∀ n ∈ l, n.length ≤ 60) : Dk 3 (topT nm tx l) :=
  .inr ⟨_, .inl rfl, by simp, fun x hx => by
    simp only [List.mem_cons, List.not_mem_nil, or_false] at hx
    rcases hx with rfl | rfl
    · exact ⟨by simp, Dk.more (k := 1) (k' := 2) (by decide) (dk_lk hn ht)⟩
    · refine ⟨by simp, .inr ⟨arrK nm tx l, .inr rfl, by rw [arrK_len]; omega, fun x hx => ?_⟩⟩
      obtain ⟨n, h1, rfl⟩ := arrK_mem hx
      exact ⟨by have := h n h1; simp; omega, dk_lk hn ht⟩⟩
theorem Sk.more : ∀ {k k' : Nat} {t : Ro}, k ≤ k' → Sk k t → Sk k' t
  | 0, 0, _, _, h => h
  | 0, _ + 1, _, _, h => .inl h
  | k + 1, 0, _, h, _ => by omega
  | k + 1, k' + 1, _, hk, h => by
    rcases h with h | ⟨l, h1, h2⟩
    · exact .inl h
    · exact .inr ⟨l, h1, fun x hx => Sk.more (by omega) (h2 x hx)⟩
theorem sk_top (nm tx : List UInt8) (l : List (List UInt8)) : Sk 3 (topT nm tx l) :=
  .inr ⟨_, .inl rfl, fun x hx => by
    simp only [List.mem_cons, List.not_mem_nil, or_false] at hx
    rcases hx with rfl | rfl
    · exact Sk.more (k := 1) (k' := 2) (by decide) (sk_lk nm tx)
    · refine .inr ⟨_, .inr rfl, fun x hx => ?_⟩
      obtain ⟨n, h1, rfl⟩ := arrK_mem hx
      exact sk_lk nm tx⟩
theorem sum_le {α : Type} (f : α → Nat) (B : Nat) : ∀ (l : List α), (∀ x ∈ l, f x ≤ B) → (l.map f).sum ≤ l.length * B
  | [], _ => by simp
  | x :: l, h => by
    have h1 := h x List.mem_cons_self
    have h2 := sum_le f B l (fun y hy => h y (List.mem_cons_of_mem _ hy))
    rw [List.map_cons, List.sum_cons, List.length_cons, Nat.add_mul]
    omega
theorem sz_lk {nm tx : List UInt8} (k : Nat) (hn : nm.length ≤ 60) (ht : tx.length ≤ 60) : szR (k + 1) (lkT nm tx) ≤ 140 := by
  cases k with
  | zero =>
    simp [szR, lkT, vD, vS, oD, oS]
    omega
  | succ k =>
    simp [szR, lkT, vD, vS, oD, oS]
    omega
theorem sz_top {nm tx : List UInt8} {l : List (List UInt8)} (hn : nm.length ≤ 60) (ht : tx.length ≤ 60) (hl : l.length ≤ 10) (h : ∀ n ∈ l, n.length ≤ 60) : szR 3 (topT nm tx l) ≤ 10000 := by
  have h1 : szR 2 (lkT nm tx) ≤ 140 := sz_lk 1 hn ht
  have h2 : szR 2 (vA (arrK nm tx l)) ≤ 5 + 10 * 210 := by
    have h3 := sum_le (fun x : List UInt8 × Ro => x.1.length + 2 + szR 1 x.2) 210 (arrK nm tx l) (fun x hx => by
      obtain ⟨n, h3, rfl⟩ := arrK_mem hx
      have := h n h3
      have h6 : szR 1 (lkT nm tx) ≤ 140 := sz_lk 0 hn ht
      show n.length + 2 + szR 1 (lkT nm tx) ≤ 210
      omega)
    have h4 : (arrK nm tx l).length ≤ 10 := by rw [arrK_len]; exact hl
    have h5 : (arrK nm tx l).length * 210 ≤ 10 * 210 := Nat.mul_le_mul_right _ h4
    show (if (4 : Int) = 16 then 4 else if (4 : Int) = 2 then _ else 5 + _) ≤ _
    rw [if_neg (by decide), if_neg (by decide)]
    exact Nat.add_le_add_left (Nat.le_trans h3 h5) 5
  have h3 : szR 3 (topT nm tx l) = 5 + (1 + 2 + szR 2 (lkT nm tx) + (1 + 2 + szR 2 (vA (arrK nm tx l)) + 0)) := rfl
  omega
theorem dpR_le : ∀ (k : Nat) (t : Ro), dpR k t ≤ k
  | 0, _ => Nat.le_refl _
  | k + 1, t => by
    have key : ∀ (l : KL) (z : Nat), z ≤ k → (l.map fun x => dpR k x.2).foldl max z ≤ k := by
      intro l
      induction l with
      | nil => intro z hz; simpa using hz
      | cons x l ih =>
        intro z hz
        have := dpR_le k x.2
        exact ih _ (Nat.max_le.2 ⟨hz, this⟩)
    rw [dpR]
    split
    · have := key t.kids 0 (Nat.zero_le _)
      omega
    · omega
theorem esc_len (c : UInt8) : (esc c).length ≤ 6 := by
  unfold esc
  split
  · simp
  · split <;> simp
theorem escs_len : ∀ (l : List UInt8), (escs l).length ≤ 6 * l.length
  | [] => by simp [escs]
  | x :: l => by
    have h1 := esc_len x
    have h2 := escs_len l
    rw [show escs (x :: l) = esc x ++ escs l from rfl, List.length_append, List.length_cons]
    omega
theorem quote_len (l : List UInt8) : (quote l).length ≤ 6 * l.length + 2 := by
  have := escs_len l
  simp [quote]
  omega
theorem joinC_len (B : Nat) (l : List (List UInt8)) (h : ∀ x ∈ l, x.length ≤ B) : (joinC l).length ≤ l.length * (B + 1) := by
  cases l with
  | nil => simp [joinC]
  | cons x l =>
    have h1 := h x List.mem_cons_self
    have h2 : (l.flatMap (fun y => 44 :: y)).length ≤ l.length * (B + 1) := by
      rw [List.length_flatMap]
      exact sum_le _ _ l (fun y hy => by have := h y (List.mem_cons_of_mem _ hy); rw [List.length_cons]; omega)
    rw [joinC, List.length_append, List.length_cons, Nat.add_mul]
    omega
theorem prJ_jO_len (k B n : Nat) (l : KL) (h : ∀ x ∈ l, (prJ k x.2).length ≤ B ∧ x.1.length ≤ n) : (prJ (k + 1) (jO l)).length ≤ l.length * (B + 6 * n + 4) + 2 := by
  have h1 := joinC_len (B + 6 * n + 3) (l.map (itO k)) (fun x hx => by
    obtain ⟨y, hy, rfl⟩ := List.mem_map.1 hx
    have h2 := h y hy
    have h3 := quote_len y.1
    simp [itO]
    omega)
  rw [prJ_jO]
  simp at h1 ⊢
  omega
theorem prJ_jA_len (k B : Nat) (l : KL) (h : ∀ x ∈ l, (prJ k x.2).length ≤ B) : (prJ (k + 1) (jA l)).length ≤ l.length * (B + 1) + 2 := by
  have h1 := joinC_len B (l.map (itA k)) (fun x hx => by
    obtain ⟨y, hy, rfl⟩ := List.mem_map.1 hx
    exact h y hy)
  rw [prJ_jA]
  simp at h1 ⊢
  omega
theorem prJ_one_len (k B n : Nat) (nm : List UInt8) (j : Ro) (h1 : (prJ k j).length ≤ B) (h2 : nm.length ≤ n) : (prJ (k + 1) (jO [(nm, j)])).length ≤ B + 6 * n + 6 := by
  have h := prJ_jO_len k B n [(nm, j)] (fun x hx => by
    rcases List.mem_singleton.1 hx with rfl
    exact ⟨h1, h2⟩)
  rw [List.length_singleton] at h
  omega
theorem jlk_eq (i : Ro) (k : Nat) (nm tx : List UInt8) : docJ i (k + 1) (lkT nm tx) = jO [(nDoc, jO [(36 :: nm, jS tx)])] := by
  have e : docJ i (k + 1) (lkT nm tx) = wrapD true (jO [(36 :: nm, docJ i k (vS tx))]) := docJ_vD i k _
  rw [e, docJ_vS]
  rfl
theorem jlk_len (i : Ro) (k d : Nat) {nm tx : List UInt8} (hn : nm.length ≤ 60) (ht : tx.length ≤ 60) : (prJ (d + 2) (docJ i (k + 1) (lkT nm tx))).length ≤ 1000 := by
  rw [jlk_eq]
  have h0 : (prJ d (jS tx)).length ≤ 362 := by
    have := quote_len tx
    rw [prJ_jS]
    omega
  have h1 := prJ_one_len d 362 61 (36 :: nm) (jS tx) h0 (by simp; omega)
  have h2 := prJ_one_len (d + 1) (362 + 6 * 61 + 6) 9 nDoc _ h1 (by simp [nDoc])
  exact Nat.le_trans h2 (by decide)
def topJ (i : Ro) (nm tx : List UInt8) (l : List (List UInt8)) : Ro := jO ((topK nm tx l).map fun x => (x.1, docJ i 2 x.2))
theorem top_len (i : Ro) {nm tx : List UInt8} {l : List (List UInt8)} (hn : nm.length ≤ 60) (ht : tx.length ≤ 60) (hl : l.length ≤ 10) (h : ∀ n ∈ l, n.length ≤ 60) : (prJ 6 (topJ i nm tx l)).length ≤ 100000 := by
  have h0 : (prJ 5 (docJ i 2 (lkT nm tx))).length ≤ 1000 := jlk_len i 1 3 hn ht
  have h1 : (prJ 5 (docJ i 2 (vA (arrK nm tx l)))).length ≤ 40000 := by
    rw [docJ_vA]
    split
    · have h2 : (prJ 5 (jA ((arrK nm tx l).map fun x => ([], docJ i 1 x.2)))).length ≤ _ := prJ_jA_len 4 1000 ((arrK nm tx l).map fun x => ([], docJ i 1 x.2)) (fun x hx => by
        obtain ⟨y, hy, rfl⟩ := List.mem_map.1 hx
        obtain ⟨z, hz, rfl⟩ := arrK_mem hy
        exact jlk_len i 0 2 hn ht)
      have h3 : ((arrK nm tx l).map fun x => (([] : List UInt8), docJ i 1 x.2)).length ≤ 10 := by rw [List.length_map, arrK_len]; exact hl
      have h4 := Nat.mul_le_mul_right (1000 + 1) h3
      omega
    · have h2 : (prJ 4 (jO ((arrK nm tx l).map fun x => (x.1, docJ i 1 x.2)))).length ≤ _ := prJ_jO_len 3 1000 60 ((arrK nm tx l).map fun x => (x.1, docJ i 1 x.2)) (fun x hx => by
        obtain ⟨y, hy, rfl⟩ := List.mem_map.1 hx
        obtain ⟨z, hz, rfl⟩ := arrK_mem hy
        exact ⟨jlk_len i 0 1 hn ht, h z hz⟩)
      have h3 : ((arrK nm tx l).map fun x => (x.1, docJ i 1 x.2)).length ≤ 10 := by rw [List.length_map, arrK_len]; exact hl
      have h4 := Nat.mul_le_mul_right (1000 + 6 * 60 + 4) h3
      have h6 : (prJ 4 (jO ((arrK nm tx l).map fun x => (x.1, docJ i 1 x.2)))).length ≤ 14000 := by omega
      have h5 := prJ_one_len 4 14000 6 nArr _ h6 (by simp [nArr])
      exact Nat.le_trans h5 (by decide)
  have h2 : (prJ 6 (jO ((topK nm tx l).map fun x => (x.1, docJ i 2 x.2)))).length ≤ _ := prJ_jO_len 5 40000 1 ((topK nm tx l).map fun x => (x.1, docJ i 2 x.2)) (fun x hx => by
    obtain ⟨y, hy, rfl⟩ := List.mem_map.1 hx
    simp only [topK, List.mem_cons, List.not_mem_nil, or_false] at hy
    rcases hy with rfl | rfl
    · exact ⟨Nat.le_trans h0 (by decide), by simp⟩
    · exact ⟨h1, by simp⟩)
  have h3 : ((topK nm tx l).map fun x => (x.1, docJ i 2 x.2)).length = 2 := rfl
  rw [h3] at h2
  unfold topJ
  omega
end
section
open Go.RowKit
theorem pre_yes {S : ByteArray} {c : UInt8} {r : List UInt8} (hS : S.data.toList = c :: r) : Lib.hasPrefix S.data.toList [c] = true := by
  rw [hS]; simp [Lib.hasPrefix]
theorem pre_no {S : ByteArray} {c d : UInt8} {r q : List UInt8} (hS : S.data.toList = c :: r) (h : (d == c) = false) : Lib.hasPrefix S.data.toList (d :: q) = false := by
  rw [hS]
  show (d :: q).isPrefixOf (c :: r) = false
  rw [List.isPrefixOf_cons_cons, h, Bool.false_and]
theorem ix6_0 : ∀ w, (Instr.index 306 (.agg #[.string { data := #[123] }, .string { data := #[125] }, .string { data := #[91] }, .string { data := #[93] }, .string { data := #[58] }, .string { data := #[44] }]) (.int .i64 0)).run Tryz.prog w = .ok (.string { data := #[123] }) w := fun _ => by kernel_rfl
theorem ix6_1 : ∀ w, (Instr.index 306 (.agg #[.string { data := #[123] }, .string { data := #[125] }, .string { data := #[91] }, .string { data := #[93] }, .string { data := #[58] }, .string { data := #[44] }]) (.int .i64 1)).run Tryz.prog w = .ok (.string { data := #[125] }) w := fun _ => by kernel_rfl
theorem ix6_2 : ∀ w, (Instr.index 306 (.agg #[.string { data := #[123] }, .string { data := #[125] }, .string { data := #[91] }, .string { data := #[93] }, .string { data := #[58] }, .string { data := #[44] }]) (.int .i64 2)).run Tryz.prog w = .ok (.string { data := #[91] }) w := fun _ => by kernel_rfl
theorem ix6_3 : ∀ w, (Instr.index 306 (.agg #[.string { data := #[123] }, .string { data := #[125] }, .string { data := #[91] }, .string { data := #[93] }, .string { data := #[58] }, .string { data := #[44] }]) (.int .i64 3)).run Tryz.prog w = .ok (.string { data := #[93] }) w := fun _ => by kernel_rfl
theorem ix6_4 : ∀ w, (Instr.index 306 (.agg #[.string { data := #[123] }, .string { data := #[125] }, .string { data := #[91] }, .string { data := #[93] }, .string { data := #[58] }, .string { data := #[44] }]) (.int .i64 4)).run Tryz.prog w = .ok (.string { data := #[58] }) w := fun _ => by kernel_rfl
theorem ix6_5 : ∀ w, (Instr.index 306 (.agg #[.string { data := #[123] }, .string { data := #[125] }, .string { data := #[91] }, .string { data := #[93] }, .string { data := #[58] }, .string { data := #[44] }]) (.int .i64 5)).run Tryz.prog w = .ok (.string { data := #[44] }) w := fun _ => by kernel_rfl
theorem ix3_0 : ∀ w, (Instr.index 307 (.agg #[.string { data := #[116, 114, 117, 101] }, .string { data := #[102, 97, 108, 115, 101] }, .string { data := #[110, 117, 108, 108] }]) (.int .i64 0)).run Tryz.prog w = .ok (.string { data := #[116, 114, 117, 101] }) w := fun _ => by kernel_rfl
theorem ix3_1 : ∀ w, (Instr.index 307 (.agg #[.string { data := #[116, 114, 117, 101] }, .string { data := #[102, 97, 108, 115, 101] }, .string { data := #[110, 117, 108, 108] }]) (.int .i64 1)).run Tryz.prog w = .ok (.string { data := #[102, 97, 108, 115, 101] }) w := fun _ => by kernel_rfl
theorem ix3_2 : ∀ w, (Instr.index 307 (.agg #[.string { data := #[116, 114, 117, 101] }, .string { data := #[102, 97, 108, 115, 101] }, .string { data := #[110, 117, 108, 108] }]) (.int .i64 2)).run Tryz.prog w = .ok (.string { data := #[110, 117, 108, 108] }) w := fun _ => by kernel_rfl
theorem plain_123 (S : ByteArray) (r : List UInt8) (hS : S.data.toList = 123 :: r) (w : World) : Calls Tryz.prog 191 #[.string S] w fun e w' => e = .returned (.tuple #[.int .i64 2, .int .i64 1]) ∧ w = w' := by
  have H0 : Hid (∀ w : World, Calls Tryz.prog 176 #[.string S, .string { data := #[123] }] w fun e w' => e = .returned (.bool true) ∧ w = w') := Lib.hid (fun w => (Tryz.strings_HasPrefix S { data := #[123] } w).mono (fun e w' h => ⟨by rw [h.1]; exact congrArg (fun b => Ending.returned (.bool b)) (pre_yes hS), h.2.symm⟩))
  clear hS
  have i6_0 := ix6_0
  go_enter Tryz.func191, Tryz.ntmps191
  go_wp2_with fail
  refine wp_loop_rounds 1 ?_
  rw [rounds_succ]
  go_wp2_with fail
  with_reducible refine (H0.out _).mono ?_
  rintro e w' ⟨rfl, rfl⟩
  go_wp2_with fail
  go_ret2
  exact ⟨rfl, rfl⟩
theorem plain_125 (S : ByteArray) (r : List UInt8) (hS : S.data.toList = 125 :: r) (w : World) : Calls Tryz.prog 191 #[.string S] w fun e w' => e = .returned (.tuple #[.int .i64 3, .int .i64 1]) ∧ w = w' := by
  have H0 : Hid (∀ w : World, Calls Tryz.prog 176 #[.string S, .string { data := #[123] }] w fun e w' => e = .returned (.bool false) ∧ w = w') := Lib.hid (fun w => (Tryz.strings_HasPrefix S { data := #[123] } w).mono (fun e w' h => ⟨by rw [h.1]; exact congrArg (fun b => Ending.returned (.bool b)) (pre_no hS (by decide)), h.2.symm⟩))
  have H1 : Hid (∀ w : World, Calls Tryz.prog 176 #[.string S, .string { data := #[125] }] w fun e w' => e = .returned (.bool true) ∧ w = w') := Lib.hid (fun w => (Tryz.strings_HasPrefix S { data := #[125] } w).mono (fun e w' h => ⟨by rw [h.1]; exact congrArg (fun b => Ending.returned (.bool b)) (pre_yes hS), h.2.symm⟩))
  clear hS
  have i6_0 := ix6_0
  have i6_1 := ix6_1
  go_enter Tryz.func191, Tryz.ntmps191
  go_wp2_with fail
  refine wp_loop_rounds 2 ?_
  rw [rounds_succ]
  go_wp2_with fail
  with_reducible refine (H0.out _).mono ?_
  rintro e w' ⟨rfl, rfl⟩
  go_wp2_with fail
  rw [rounds_succ]
  go_wp2_with fail
  with_reducible refine (H1.out _).mono ?_
  rintro e w' ⟨rfl, rfl⟩
  go_wp2_with fail
  go_ret2
  exact ⟨rfl, rfl⟩
theorem plain_91 (S : ByteArray) (r : List UInt8) (hS : S.data.toList = 91 :: r) (w : World) : Calls Tryz.prog 191 #[.string S] w fun e w' => e = .returned (.tuple #[.int .i64 4, .int .i64 1]) ∧ w = w' := by
  have H0 : Hid (∀ w : World, Calls Tryz.prog 176 #[.string S, .string { data := #[123] }] w fun e w' => e = .returned (.bool false) ∧ w = w') := Lib.hid (fun w => (Tryz.strings_HasPrefix S { data := #[123] } w).mono (fun e w' h => ⟨by rw [h.1]; exact congrArg (fun b => Ending.returned (.bool b)) (pre_no hS (by decide)), h.2.symm⟩))
  have H1 : Hid (∀ w : World, Calls Tryz.prog 176 #[.string S, .string { data := #[125] }] w fun e w' => e = .returned (.bool false) ∧ w = w') := Lib.hid (fun w => (Tryz.strings_HasPrefix S { data := #[125] } w).mono (fun e w' h => ⟨by rw [h.1]; exact congrArg (fun b => Ending.returned (.bool b)) (pre_no hS (by decide)), h.2.symm⟩))
  have H2 : Hid (∀ w : World, Calls Tryz.prog 176 #[.string S, .string { data := #[91] }] w fun e w' => e = .returned (.bool true) ∧ w = w') := Lib.hid (fun w => (Tryz.strings_HasPrefix S { data := #[91] } w).mono (fun e w' h => ⟨by rw [h.1]; exact congrArg (fun b => Ending.returned (.bool b)) (pre_yes hS), h.2.symm⟩))
  clear hS
  have i6_0 := ix6_0
  have i6_1 := ix6_1
  have i6_2 := ix6_2
  go_enter Tryz.func191, Tryz.ntmps191
  go_wp2_with fail
  refine wp_loop_rounds 3 ?_
  rw [rounds_succ]
  go_wp2_with fail
  with_reducible refine (H0.out _).mono ?_
  rintro e w' ⟨rfl, rfl⟩
  go_wp2_with fail
  rw [rounds_succ]
  go_wp2_with fail
  with_reducible refine (H1.out _).mono ?_
  rintro e w' ⟨rfl, rfl⟩
  go_wp2_with fail
  rw [rounds_succ]
  go_wp2_with fail
  with_reducible refine (H2.out _).mono ?_
  rintro e w' ⟨rfl, rfl⟩
  go_wp2_with fail
  go_ret2
  exact ⟨rfl, rfl⟩
theorem plain_93 (S : ByteArray) (r : List UInt8) (hS : S.data.toList = 93 :: r) (w : World) : Calls Tryz.prog 191 #[.string S] w fun e w' => e = .returned (.tuple #[.int .i64 5, .int .i64 1]) ∧ w = w' := by
  have H0 : Hid (∀ w : World, Calls Tryz.prog 176 #[.string S, .string { data := #[123] }] w fun e w' => e = .returned (.bool false) ∧ w = w') := Lib.hid (fun w => (Tryz.strings_HasPrefix S { data := #[123] } w).mono (fun e w' h => ⟨by rw [h.1]; exact congrArg (fun b => Ending.returned (.bool b)) (pre_no hS (by decide)), h.2.symm⟩))
  have H1 : Hid (∀ w : World, Calls Tryz.prog 176 #[.string S, .string { data := #[125] }] w fun e w' => e = .returned (.bool false) ∧ w = w') := Lib.hid (fun w => (Tryz.strings_HasPrefix S { data := #[125] } w).mono (fun e w' h => ⟨by rw [h.1]; exact congrArg (fun b => Ending.returned (.bool b)) (pre_no hS (by decide)), h.2.symm⟩))
  have H2 : Hid (∀ w : World, Calls Tryz.prog 176 #[.string S, .string { data := #[91] }] w fun e w' => e = .returned (.bool false) ∧ w = w') := Lib.hid (fun w => (Tryz.strings_HasPrefix S { data := #[91] } w).mono (fun e w' h => ⟨by rw [h.1]; exact congrArg (fun b => Ending.returned (.bool b)) (pre_no hS (by decide)), h.2.symm⟩))
  have H3 : Hid (∀ w : World, Calls Tryz.prog 176 #[.string S, .string { data := #[93] }] w fun e w' => e = .returned (.bool true) ∧ w = w') := Lib.hid (fun w => (Tryz.strings_HasPrefix S { data := #[93] } w).mono (fun e w' h => ⟨by rw [h.1]; exact congrArg (fun b => Ending.returned (.bool b)) (pre_yes hS), h.2.symm⟩))
  clear hS
  have i6_0 := ix6_0
  have i6_1 := ix6_1
  have i6_2 := ix6_2
  have i6_3 := ix6_3
  go_enter Tryz.func191, Tryz.ntmps191
  go_wp2_with fail
  refine wp_loop_rounds 4 ?_
  rw [rounds_succ]
  go_wp2_with fail
  with_reducible refine (H0.out _).mono ?_
  rintro e w' ⟨rfl, rfl⟩
  go_wp2_with fail
  rw [rounds_succ]
  go_wp2_with fail
  with_reducible refine (H1.out _).mono ?_
  rintro e w' ⟨rfl, rfl⟩
  go_wp2_with fail
  rw [rounds_succ]
  go_wp2_with fail
  with_reducible refine (H2.out _).mono ?_
  rintro e w' ⟨rfl, rfl⟩
  go_wp2_with fail
  rw [rounds_succ]
  go_wp2_with fail
  with_reducible refine (H3.out _).mono ?_
  rintro e w' ⟨rfl, rfl⟩
  go_wp2_with fail
  go_ret2
  exact ⟨rfl, rfl⟩
theorem plain_58 (S : ByteArray) (r : List UInt8) (hS : S.data.toList = 58 :: r) (w : World) : Calls Tryz.prog 191 #[.string S] w fun e w' => e = .returned (.tuple #[.int .i64 6, .int .i64 1]) ∧ w = w' := by
  have H0 : Hid (∀ w : World, Calls Tryz.prog 176 #[.string S, .string { data := #[123] }] w fun e w' => e = .returned (.bool false) ∧ w = w') := Lib.hid (fun w => (Tryz.strings_HasPrefix S { data := #[123] } w).mono (fun e w' h => ⟨by rw [h.1]; exact congrArg (fun b => Ending.returned (.bool b)) (pre_no hS (by decide)), h.2.symm⟩))
  have H1 : Hid (∀ w : World, Calls Tryz.prog 176 #[.string S, .string { data := #[125] }] w fun e w' => e = .returned (.bool false) ∧ w = w') := Lib.hid (fun w => (Tryz.strings_HasPrefix S { data := #[125] } w).mono (fun e w' h => ⟨by rw [h.1]; exact congrArg (fun b => Ending.returned (.bool b)) (pre_no hS (by decide)), h.2.symm⟩))
  have H2 : Hid (∀ w : World, Calls Tryz.prog 176 #[.string S, .string { data := #[91] }] w fun e w' => e = .returned (.bool false) ∧ w = w') := Lib.hid (fun w => (Tryz.strings_HasPrefix S { data := #[91] } w).mono (fun e w' h => ⟨by rw [h.1]; exact congrArg (fun b => Ending.returned (.bool b)) (pre_no hS (by decide)), h.2.symm⟩))
  have H3 : Hid (∀ w : World, Calls Tryz.prog 176 #[.string S, .string { data := #[93] }] w fun e w' => e = .returned (.bool false) ∧ w = w') := Lib.hid (fun w => (Tryz.strings_HasPrefix S { data := #[93] } w).mono (fun e w' h => ⟨by rw [h.1]; exact congrArg (fun b => Ending.returned (.bool b)) (pre_no hS (by decide)), h.2.symm⟩))
  have H4 : Hid (∀ w : World, Calls Tryz.prog 176 #[.string S, .string { data := #[58] }] w fun e w' => e = .returned (.bool true) ∧ w = w') := Lib.hid (fun w => (Tryz.strings_HasPrefix S { data := #[58] } w).mono (fun e w' h => ⟨by rw [h.1]; exact congrArg (fun b => Ending.returned (.bool b)) (pre_yes hS), h.2.symm⟩))
  clear hS
  have i6_0 := ix6_0
  have i6_1 := ix6_1
  have i6_2 := ix6_2
  have i6_3 := ix6_3
  have i6_4 := ix6_4
  go_enter Tryz.func191, Tryz.ntmps191
  go_wp2_with fail
  refine wp_loop_rounds 5 ?_
  rw [rounds_succ]
  go_wp2_with fail
  with_reducible refine (H0.out _).mono ?_
  rintro e w' ⟨rfl, rfl⟩
  go_wp2_with fail
  rw [rounds_succ]
  go_wp2_with fail
  with_reducible refine (H1.out _).mono ?_
  rintro e w' ⟨rfl, rfl⟩
  go_wp2_with fail
  rw [rounds_succ]
  go_wp2_with fail
  with_reducible refine (H2.out _).mono ?_
  rintro e w' ⟨rfl, rfl⟩
  go_wp2_with fail
  rw [rounds_succ]
  go_wp2_with fail
  with_reducible refine (H3.out _).mono ?_
  rintro e w' ⟨rfl, rfl⟩
  go_wp2_with fail
  rw [rounds_succ]
  go_wp2_with fail
  with_reducible refine (H4.out _).mono ?_
  rintro e w' ⟨rfl, rfl⟩
  go_wp2_with fail
  go_ret2
  exact ⟨rfl, rfl⟩
theorem plain_44 (S : ByteArray) (r : List UInt8) (hS : S.data.toList = 44 :: r) (w : World) : Calls Tryz.prog 191 #[.string S] w fun e w' => e = .returned (.tuple #[.int .i64 7, .int .i64 1]) ∧ w = w' := by
  have H0 : Hid (∀ w : World, Calls Tryz.prog 176 #[.string S, .string { data := #[123] }] w fun e w' => e = .returned (.bool false) ∧ w = w') := Lib.hid (fun w => (Tryz.strings_HasPrefix S { data := #[123] } w).mono (fun e w' h => ⟨by rw [h.1]; exact congrArg (fun b => Ending.returned (.bool b)) (pre_no hS (by decide)), h.2.symm⟩))
  have H1 : Hid (∀ w : World, Calls Tryz.prog 176 #[.string S, .string { data := #[125] }] w fun e w' => e = .returned (.bool false) ∧ w = w') := Lib.hid (fun w => (Tryz.strings_HasPrefix S { data := #[125] } w).mono (fun e w' h => ⟨by rw [h.1]; exact congrArg (fun b => Ending.returned (.bool b)) (pre_no hS (by decide)), h.2.symm⟩))
  have H2 : Hid (∀ w : World, Calls Tryz.prog 176 #[.string S, .string { data := #[91] }] w fun e w' => e = .returned (.bool false) ∧ w = w') := Lib.hid (fun w => (Tryz.strings_HasPrefix S { data := #[91] } w).mono (fun e w' h => ⟨by rw [h.1]; exact congrArg (fun b => Ending.returned (.bool b)) (pre_no hS (by decide)), h.2.symm⟩))
  have H3 : Hid (∀ w : World, Calls Tryz.prog 176 #[.string S, .string { data := #[93] }] w fun e w' => e = .returned (.bool false) ∧ w = w') := Lib.hid (fun w => (Tryz.strings_HasPrefix S { data := #[93] } w).mono (fun e w' h => ⟨by rw [h.1]; exact congrArg (fun b => Ending.returned (.bool b)) (pre_no hS (by decide)), h.2.symm⟩))
  have H4 : Hid (∀ w : World, Calls Tryz.prog 176 #[.string S, .string { data := #[58] }] w fun e w' => e = .returned (.bool false) ∧ w = w') := Lib.hid (fun w => (Tryz.strings_HasPrefix S { data := #[58] } w).mono (fun e w' h => ⟨by rw [h.1]; exact congrArg (fun b => Ending.returned (.bool b)) (pre_no hS (by decide)), h.2.symm⟩))
  have H5 : Hid (∀ w : World, Calls Tryz.prog 176 #[.string S, .string { data := #[44] }] w fun e w' => e = .returned (.bool true) ∧ w = w') := Lib.hid (fun w => (Tryz.strings_HasPrefix S { data := #[44] } w).mono (fun e w' h => ⟨by rw [h.1]; exact congrArg (fun b => Ending.returned (.bool b)) (pre_yes hS), h.2.symm⟩))
  clear hS
  have i6_0 := ix6_0
  have i6_1 := ix6_1
  have i6_2 := ix6_2
  have i6_3 := ix6_3
  have i6_4 := ix6_4
  have i6_5 := ix6_5
  go_enter Tryz.func191, Tryz.ntmps191
  go_wp2_with fail
  refine wp_loop_rounds 6 ?_
  rw [rounds_succ]
  go_wp2_with fail
  with_reducible refine (H0.out _).mono ?_
  rintro e w' ⟨rfl, rfl⟩
  go_wp2_with fail
  rw [rounds_succ]
  go_wp2_with fail
  with_reducible refine (H1.out _).mono ?_
  rintro e w' ⟨rfl, rfl⟩
  go_wp2_with fail
  rw [rounds_succ]
  go_wp2_with fail
  with_reducible refine (H2.out _).mono ?_
  rintro e w' ⟨rfl, rfl⟩
  go_wp2_with fail
  rw [rounds_succ]
  go_wp2_with fail
  with_reducible refine (H3.out _).mono ?_
  rintro e w' ⟨rfl, rfl⟩
  go_wp2_with fail
  rw [rounds_succ]
  go_wp2_with fail
  with_reducible refine (H4.out _).mono ?_
  rintro e w' ⟨rfl, rfl⟩
  go_wp2_with fail
  rw [rounds_succ]
  go_wp2_with fail
  with_reducible refine (H5.out _).mono ?_
  rintro e w' ⟨rfl, rfl⟩
  go_wp2_with fail
  go_ret2
  exact ⟨rfl, rfl⟩
theorem plain_no (S : ByteArray) (c : UInt8) (r : List UInt8) (hS : S.data.toList = c :: r) (hc : c ≠ 123 ∧ c ≠ 125 ∧ c ≠ 91 ∧ c ≠ 93 ∧ c ≠ 58 ∧ c ≠ 44 ∧ c ≠ 116 ∧ c ≠ 102 ∧ c ≠ 110) (w : World) : Calls Tryz.prog 191 #[.string S] w fun e w' => e = .returned (.tuple #[.int .i64 0, .int .i64 0]) ∧ w = w' := by
  obtain ⟨h0, h1, h2, h3, h4, h5, h6, h7, h8⟩ := hc
  have H0 : Hid (∀ w : World, Calls Tryz.prog 176 #[.string S, .string { data := #[123] }] w fun e w' => e = .returned (.bool false) ∧ w = w') := Lib.hid (fun w => (Tryz.strings_HasPrefix S { data := #[123] } w).mono (fun e w' h => ⟨by rw [h.1]; exact congrArg (fun b => Ending.returned (.bool b)) (pre_no hS (beq_eq_false_iff_ne.2 (fun e => h0 e.symm))), h.2.symm⟩))
  have H1 : Hid (∀ w : World, Calls Tryz.prog 176 #[.string S, .string { data := #[125] }] w fun e w' => e = .returned (.bool false) ∧ w = w') := Lib.hid (fun w => (Tryz.strings_HasPrefix S { data := #[125] } w).mono (fun e w' h => ⟨by rw [h.1]; exact congrArg (fun b => Ending.returned (.bool b)) (pre_no hS (beq_eq_false_iff_ne.2 (fun e => h1 e.symm))), h.2.symm⟩))
  have H2 : Hid (∀ w : World, Calls Tryz.prog 176 #[.string S, .string { data := #[91] }] w fun e w' => e = .returned (.bool false) ∧ w = w') := Lib.hid (fun w => (Tryz.strings_HasPrefix S { data := #[91] } w).mono (fun e w' h => ⟨by rw [h.1]; exact congrArg (fun b => Ending.returned (.bool b)) (pre_no hS (beq_eq_false_iff_ne.2 (fun e => h2 e.symm))), h.2.symm⟩))
  have H3 : Hid (∀ w : World, Calls Tryz.prog 176 #[.string S, .string { data := #[93] }] w fun e w' => e = .returned (.bool false) ∧ w = w') := Lib.hid (fun w => (Tryz.strings_HasPrefix S { data := #[93] } w).mono (fun e w' h => ⟨by rw [h.1]; exact congrArg (fun b => Ending.returned (.bool b)) (pre_no hS (beq_eq_false_iff_ne.2 (fun e => h3 e.symm))), h.2.symm⟩))
  have H4 : Hid (∀ w : World, Calls Tryz.prog 176 #[.string S, .string { data := #[58] }] w fun e w' => e = .returned (.bool false) ∧ w = w') := Lib.hid (fun w => (Tryz.strings_HasPrefix S { data := #[58] } w).mono (fun e w' h => ⟨by rw [h.1]; exact congrArg (fun b => Ending.returned (.bool b)) (pre_no hS (beq_eq_false_iff_ne.2 (fun e => h4 e.symm))), h.2.symm⟩))
  have H5 : Hid (∀ w : World, Calls Tryz.prog 176 #[.string S, .string { data := #[44] }] w fun e w' => e = .returned (.bool false) ∧ w = w') := Lib.hid (fun w => (Tryz.strings_HasPrefix S { data := #[44] } w).mono (fun e w' h => ⟨by rw [h.1]; exact congrArg (fun b => Ending.returned (.bool b)) (pre_no hS (beq_eq_false_iff_ne.2 (fun e => h5 e.symm))), h.2.symm⟩))
  have H6 : Hid (∀ w : World, Calls Tryz.prog 176 #[.string S, .string { data := #[116, 114, 117, 101] }] w fun e w' => e = .returned (.bool false) ∧ w = w') := Lib.hid (fun w => (Tryz.strings_HasPrefix S { data := #[116, 114, 117, 101] } w).mono (fun e w' h => ⟨by rw [h.1]; exact congrArg (fun b => Ending.returned (.bool b)) (pre_no hS (beq_eq_false_iff_ne.2 (fun e => h6 e.symm))), h.2.symm⟩))
  have H7 : Hid (∀ w : World, Calls Tryz.prog 176 #[.string S, .string { data := #[102, 97, 108, 115, 101] }] w fun e w' => e = .returned (.bool false) ∧ w = w') := Lib.hid (fun w => (Tryz.strings_HasPrefix S { data := #[102, 97, 108, 115, 101] } w).mono (fun e w' h => ⟨by rw [h.1]; exact congrArg (fun b => Ending.returned (.bool b)) (pre_no hS (beq_eq_false_iff_ne.2 (fun e => h7 e.symm))), h.2.symm⟩))
  have H8 : Hid (∀ w : World, Calls Tryz.prog 176 #[.string S, .string { data := #[110, 117, 108, 108] }] w fun e w' => e = .returned (.bool false) ∧ w = w') := Lib.hid (fun w => (Tryz.strings_HasPrefix S { data := #[110, 117, 108, 108] } w).mono (fun e w' h => ⟨by rw [h.1]; exact congrArg (fun b => Ending.returned (.bool b)) (pre_no hS (beq_eq_false_iff_ne.2 (fun e => h8 e.symm))), h.2.symm⟩))
  clear hS h0 h1 h2 h3 h4 h5 h6 h7 h8
  have i6_0 := ix6_0
  have i6_1 := ix6_1
  have i6_2 := ix6_2
  have i6_3 := ix6_3
  have i6_4 := ix6_4
  have i6_5 := ix6_5
  have i3_0 := ix3_0
  have i3_1 := ix3_1
  have i3_2 := ix3_2
  go_enter Tryz.func191, Tryz.ntmps191
  go_wp2_with fail
  refine wp_loop_rounds 7 ?_
  rw [rounds_succ]
  go_wp2_with fail
  with_reducible refine (H0.out _).mono ?_
  rintro e w' ⟨rfl, rfl⟩
  go_wp2_with fail
  rw [rounds_succ]
  go_wp2_with fail
  with_reducible refine (H1.out _).mono ?_
  rintro e w' ⟨rfl, rfl⟩
  go_wp2_with fail
  rw [rounds_succ]
  go_wp2_with fail
  with_reducible refine (H2.out _).mono ?_
  rintro e w' ⟨rfl, rfl⟩
  go_wp2_with fail
  rw [rounds_succ]
  go_wp2_with fail
  with_reducible refine (H3.out _).mono ?_
  rintro e w' ⟨rfl, rfl⟩
  go_wp2_with fail
  rw [rounds_succ]
  go_wp2_with fail
  with_reducible refine (H4.out _).mono ?_
  rintro e w' ⟨rfl, rfl⟩
  go_wp2_with fail
  rw [rounds_succ]
  go_wp2_with fail
  with_reducible refine (H5.out _).mono ?_
  rintro e w' ⟨rfl, rfl⟩
  go_wp2_with fail
  rw [rounds_succ]
  go_wp2_with fail
  refine wp_loop_rounds 4 ?_
  rw [rounds_succ]
  go_wp2_with fail
  with_reducible refine (H6.out _).mono ?_
  rintro e w' ⟨rfl, rfl⟩
  go_wp2_with fail
  rw [rounds_succ]
  go_wp2_with fail
  with_reducible refine (H7.out _).mono ?_
  rintro e w' ⟨rfl, rfl⟩
  go_wp2_with fail
  rw [rounds_succ]
  go_wp2_with fail
  with_reducible refine (H8.out _).mono ?_
  rintro e w' ⟨rfl, rfl⟩
  go_wp2_with fail
  rw [rounds_succ]
  go_wp2_with fail
  go_ret2
  exact ⟨rfl, rfl⟩
end
section
open Go.RowKit
theorem holder_doc (t : ByteArray) (b o c : Nat) (tx V2 : ByteArray) (sd : Option Addr) (V3 sc : Nat) (w : World) (hb : b < w.heap.size) (r0 : w.cell? ⟨b, o, none⟩ = some (.string t)) (r1 : w.cell? ⟨b, o + 1, none⟩ = some (.int .i64 7)) (r2 : w.cell? ⟨b, o + 2, none⟩ = some (.string V2)) (r3 : w.cell? ⟨b, o + 3, none⟩ = some (.slice sd V3 sc)) (hyes : (t.toList == ({ data := #[36, 100, 111, 99, 117, 109, 101, 110, 116] } : ByteArray).toList) = true) :
    Calls Tryz.prog 199 #[.agg #[.int .i64 7, .string tx, .slice (some ⟨b, o, none⟩) 1 c]] w fun e w' => e = .returned (.tuple #[.agg #[.int .i64 3, .int .u64 0, .int .u64 0, .int .u64 0, .string { data := #[] }, .string { data := #[] }, .int .i64 0, .slice none 0 0, .slice none 0 0], .slice sd V3 sc, .bool true]) ∧ Below w.heap.size w w' := by
  have h1 : b ≠ w.heap.size := by omega
  have h2 : b ≠ w.heap.size + 1 := by omega
  have h3 : b ≠ w.heap.size + 1 + 1 := by omega
  have h4 : b < w.heap.size + 1 := by omega
  have h5 : b < w.heap.size + 1 + 1 := by omega
  have h6 : b < w.heap.size + 1 + 1 + 1 := by omega
  have h7 : b ≠ w.heap.size + 1 + 1 + 1 := by omega
  go_enter Tryz.func199, Tryz.ntmps199
  go_wp2_with fail
  with_reducible refine (shape_yes tx { data := #[36, 100, 111, 99, 117, 109, 101, 110, 116] } t b o _ c _ 7 V2 sd V3 sc _ ?a0 ?a1 ?a2 ?a3 ?a4 ?a5 ?a6 hyes).mono ?_
  case a0 => (first | (simp; omega) | omega | (simp; done))
  case a1 => (first | (simp; omega) | omega | (simp; done))
  case a2 => first | with_reducible assumption | (simp [go_sem]; done) | (simp [go_sem, *]; done)
  case a3 => first | with_reducible assumption | (simp [go_sem]; done) | (simp [go_sem, *]; done)
  case a4 => first | with_reducible assumption | (simp [go_sem]; done) | (simp [go_sem, *]; done)
  case a5 => first | with_reducible assumption | (simp [go_sem]; done) | (simp [go_sem, *]; done)
  case a6 => first | with_reducible assumption | (simp [go_sem]; done) | (simp [go_sem, *]; done)
  rintro e w1 ⟨rfl, hb1⟩
  obtain ⟨c1_0, f1_0⟩ := cf hb1 w.heap.size 0 (.int .i64 7)
  obtain ⟨c1_1, f1_1⟩ := cf hb1 w.heap.size 1 (.string tx)
  obtain ⟨c1_2, f1_2⟩ := cf hb1 w.heap.size 2 (.slice (some ⟨b, o, none⟩) 1 c)
  obtain ⟨c1_3, f1_3⟩ := cf hb1 (w.heap.size + 1) 0 (.int .i64 0)
  obtain ⟨c1_4, f1_4⟩ := cf hb1 (w.heap.size + 1) 1 (.int .u64 0)
  obtain ⟨c1_5, f1_5⟩ := cf hb1 (w.heap.size + 1) 2 (.int .u64 0)
  obtain ⟨c1_6, f1_6⟩ := cf hb1 (w.heap.size + 1) 3 (.int .u64 0)
  obtain ⟨c1_7, f1_7⟩ := cf hb1 (w.heap.size + 1) 4 (.string { data := #[] })
  obtain ⟨c1_8, f1_8⟩ := cf hb1 (w.heap.size + 1) 5 (.string { data := #[] })
  obtain ⟨c1_9, f1_9⟩ := cf hb1 (w.heap.size + 1) 6 (.int .i64 0)
  obtain ⟨c1_10, f1_10⟩ := cf hb1 (w.heap.size + 1) 7 (.slice none 0 0)
  obtain ⟨c1_11, f1_11⟩ := cf hb1 (w.heap.size + 1) 8 (.slice none 0 0)
  obtain ⟨c1_12, f1_12⟩ := cf hb1 (w.heap.size + 1 + 1) 0 (.int .i64 7)
  obtain ⟨c1_13, f1_13⟩ := cf hb1 (w.heap.size + 1 + 1) 1 (.string V2)
  obtain ⟨c1_14, f1_14⟩ := cf hb1 (w.heap.size + 1 + 1) 2 (.slice sd V3 sc)
  have hl1_0 := ltB hb1 w.heap.size
  have hl1_1 := ltB hb1 (w.heap.size + 1)
  have hl1_2 := ltB hb1 (w.heap.size + 1 + 1)
  have hw1 := bwB hb1 w.heap.size w
  have hz1 := hw1.size
  clear hb1
  go_wp2_with fail
  go_region
  all_goals
    go_wp2_with fail
    refine bodyPost_ret (v := .tuple #[.agg #[.int .i64 3, .int .u64 0, .int .u64 0, .int .u64 0, .string { data := #[] }, .string { data := #[] }, .int .i64 0, .slice none 0 0, .slice none 0 0], .slice sd V3 sc, .bool true]) (by simp (maxDischargeDepth := 4) [results, Tryz.results199, go_sem, c1_3, f1_3, c1_4, f1_4, c1_5, f1_5, c1_6, f1_6, c1_7, f1_7, c1_8, f1_8, c1_9, f1_9, c1_10, f1_10, c1_11, f1_11]) rfl ?_
    exact ⟨rfl, bel⟩
theorem holder_arr (t : ByteArray) (b o c : Nat) (tx V2 : ByteArray) (sd : Option Addr) (V3 sc : Nat) (w : World) (hb : b < w.heap.size) (r0 : w.cell? ⟨b, o, none⟩ = some (.string t)) (r1 : w.cell? ⟨b, o + 1, none⟩ = some (.int .i64 7)) (r2 : w.cell? ⟨b, o + 2, none⟩ = some (.string V2)) (r3 : w.cell? ⟨b, o + 3, none⟩ = some (.slice sd V3 sc)) (hno : (t.toList == ({ data := #[36, 100, 111, 99, 117, 109, 101, 110, 116] } : ByteArray).toList) = false) (hyes : (t.toList == ({ data := #[36, 97, 114, 114, 97, 121] } : ByteArray).toList) = true) :
    Calls Tryz.prog 199 #[.agg #[.int .i64 7, .string tx, .slice (some ⟨b, o, none⟩) 1 c]] w fun e w' => e = .returned (.tuple #[.agg #[.int .i64 4, .int .u64 0, .int .u64 0, .int .u64 0, .string { data := #[] }, .string { data := #[] }, .int .i64 0, .slice none 0 0, .slice none 0 0], .slice sd V3 sc, .bool true]) ∧ Below w.heap.size w w' := by
  have h1 : b ≠ w.heap.size := by omega
  have h2 : b ≠ w.heap.size + 1 := by omega
  have h3 : b ≠ w.heap.size + 1 + 1 := by omega
  have h4 : b < w.heap.size + 1 := by omega
  have h5 : b < w.heap.size + 1 + 1 := by omega
  have h6 : b < w.heap.size + 1 + 1 + 1 := by omega
  have h7 : b ≠ w.heap.size + 1 + 1 + 1 := by omega
  go_enter Tryz.func199, Tryz.ntmps199
  go_wp2_with fail
  with_reducible refine (shape_no tx { data := #[36, 100, 111, 99, 117, 109, 101, 110, 116] } t b o _ c _ 7 V2 sd V3 sc _ ?a0 ?a1 ?a2 ?a3 ?a4 ?a5 ?a6 hno).mono ?_
  case a0 => (first | (simp; omega) | omega | (simp; done))
  case a1 => (first | (simp; omega) | omega | (simp; done))
  case a2 => first | with_reducible assumption | (simp [go_sem]; done) | (simp [go_sem, *]; done)
  case a3 => first | with_reducible assumption | (simp [go_sem]; done) | (simp [go_sem, *]; done)
  case a4 => first | with_reducible assumption | (simp [go_sem]; done) | (simp [go_sem, *]; done)
  case a5 => first | with_reducible assumption | (simp [go_sem]; done) | (simp [go_sem, *]; done)
  case a6 => first | with_reducible assumption | (simp [go_sem]; done) | (simp [go_sem, *]; done)
  rintro e w1 ⟨rfl, hb1⟩
  obtain ⟨c1_0, f1_0⟩ := cf hb1 w.heap.size 0 (.int .i64 7)
  obtain ⟨c1_1, f1_1⟩ := cf hb1 w.heap.size 1 (.string tx)
  obtain ⟨c1_2, f1_2⟩ := cf hb1 w.heap.size 2 (.slice (some ⟨b, o, none⟩) 1 c)
  obtain ⟨c1_3, f1_3⟩ := cf hb1 (w.heap.size + 1) 0 (.int .i64 0)
  obtain ⟨c1_4, f1_4⟩ := cf hb1 (w.heap.size + 1) 1 (.int .u64 0)
  obtain ⟨c1_5, f1_5⟩ := cf hb1 (w.heap.size + 1) 2 (.int .u64 0)
  obtain ⟨c1_6, f1_6⟩ := cf hb1 (w.heap.size + 1) 3 (.int .u64 0)
  obtain ⟨c1_7, f1_7⟩ := cf hb1 (w.heap.size + 1) 4 (.string { data := #[] })
  obtain ⟨c1_8, f1_8⟩ := cf hb1 (w.heap.size + 1) 5 (.string { data := #[] })
  obtain ⟨c1_9, f1_9⟩ := cf hb1 (w.heap.size + 1) 6 (.int .i64 0)
  obtain ⟨c1_10, f1_10⟩ := cf hb1 (w.heap.size + 1) 7 (.slice none 0 0)
  obtain ⟨c1_11, f1_11⟩ := cf hb1 (w.heap.size + 1) 8 (.slice none 0 0)
  obtain ⟨c1_12, f1_12⟩ := cf hb1 (w.heap.size + 1 + 1) 0 (.int .i64 7)
  obtain ⟨c1_13, f1_13⟩ := cf hb1 (w.heap.size + 1 + 1) 1 (.string V2)
  obtain ⟨c1_14, f1_14⟩ := cf hb1 (w.heap.size + 1 + 1) 2 (.slice sd V3 sc)
  have hl1_0 := ltB hb1 w.heap.size
  have hl1_1 := ltB hb1 (w.heap.size + 1)
  have hl1_2 := ltB hb1 (w.heap.size + 1 + 1)
  have hw1 := bwB hb1 w.heap.size w
  have hz1 := hw1.size
  clear hb1
  have rr0 := (hw1.cell (p := ⟨b, o, none⟩) hb).trans r0
  have rr1 := (hw1.cell (p := ⟨b, o + 1, none⟩) hb).trans r1
  have rr2 := (hw1.cell (p := ⟨b, o + 2, none⟩) hb).trans r2
  have rr3 := (hw1.cell (p := ⟨b, o + 3, none⟩) hb).trans r3
  have hbw : b < w1.heap.size := by omega
  have hbn : b ≠ w1.heap.size := by omega
  go_wp2_with fail
  with_reducible refine (shape_yes tx { data := #[36, 97, 114, 114, 97, 121] } t b o _ c _ 7 V2 sd V3 sc _ ?a0 ?a1 ?a2 ?a3 ?a4 ?a5 ?a6 hyes).mono ?_
  case a0 => (first | (simp; omega) | omega | (simp; done))
  case a1 => (first | (simp; omega) | omega | (simp; done))
  case a2 => first | with_reducible assumption | (simp [go_sem]; done) | (simp [go_sem, *]; done)
  case a3 => first | with_reducible assumption | (simp [go_sem]; done) | (simp [go_sem, *]; done)
  case a4 => first | with_reducible assumption | (simp [go_sem]; done) | (simp [go_sem, *]; done)
  case a5 => first | with_reducible assumption | (simp [go_sem]; done) | (simp [go_sem, *]; done)
  case a6 => first | with_reducible assumption | (simp [go_sem]; done) | (simp [go_sem, *]; done)
  rintro e w2 ⟨rfl, hb2⟩
  obtain ⟨c2_0, f2_0⟩ := cf hb2 w.heap.size 0 (.int .i64 7)
  obtain ⟨c2_1, f2_1⟩ := cf hb2 w.heap.size 1 (.string tx)
  obtain ⟨c2_2, f2_2⟩ := cf hb2 w.heap.size 2 (.slice (some ⟨b, o, none⟩) 1 c)
  obtain ⟨c2_3, f2_3⟩ := cf hb2 (w.heap.size + 1) 0 (.int .i64 0)
  obtain ⟨c2_4, f2_4⟩ := cf hb2 (w.heap.size + 1) 1 (.int .u64 0)
  obtain ⟨c2_5, f2_5⟩ := cf hb2 (w.heap.size + 1) 2 (.int .u64 0)
  obtain ⟨c2_6, f2_6⟩ := cf hb2 (w.heap.size + 1) 3 (.int .u64 0)
  obtain ⟨c2_7, f2_7⟩ := cf hb2 (w.heap.size + 1) 4 (.string { data := #[] })
  obtain ⟨c2_8, f2_8⟩ := cf hb2 (w.heap.size + 1) 5 (.string { data := #[] })
  obtain ⟨c2_9, f2_9⟩ := cf hb2 (w.heap.size + 1) 6 (.int .i64 0)
  obtain ⟨c2_10, f2_10⟩ := cf hb2 (w.heap.size + 1) 7 (.slice none 0 0)
  obtain ⟨c2_11, f2_11⟩ := cf hb2 (w.heap.size + 1) 8 (.slice none 0 0)
  obtain ⟨c2_12, f2_12⟩ := cf hb2 (w.heap.size + 1 + 1) 0 (.int .i64 7)
  obtain ⟨c2_13, f2_13⟩ := cf hb2 (w.heap.size + 1 + 1) 1 (.string V2)
  obtain ⟨c2_14, f2_14⟩ := cf hb2 (w.heap.size + 1 + 1) 2 (.slice sd V3 sc)
  have hl2_0 := ltB hb2 w.heap.size
  have hl2_1 := ltB hb2 (w.heap.size + 1)
  have hl2_2 := ltB hb2 (w.heap.size + 1 + 1)
  have hw2 := bwB hb2 w.heap.size w
  have hz2 := hw2.size
  clear hb2
  go_wp2_with fail
  go_region
  all_goals
    go_wp2_with fail
    refine bodyPost_ret (v := .tuple #[.agg #[.int .i64 4, .int .u64 0, .int .u64 0, .int .u64 0, .string { data := #[] }, .string { data := #[] }, .int .i64 0, .slice none 0 0, .slice none 0 0], .slice sd V3 sc, .bool true]) (by simp (maxDischargeDepth := 4) [results, Tryz.results199, go_sem, c2_3, f2_3, c2_4, f2_4, c2_5, f2_5, c2_6, f2_6, c2_7, f2_7, c2_8, f2_8, c2_9, f2_9, c2_10, f2_10, c2_11, f2_11]) rfl ?_
    exact ⟨rfl, bel⟩
theorem holder_no (t : ByteArray) (b o c : Nat) (tx V2 : ByteArray) (sd : Option Addr) (V3 sc : Nat) (w : World) (hb : b < w.heap.size) (r0 : w.cell? ⟨b, o, none⟩ = some (.string t)) (r1 : w.cell? ⟨b, o + 1, none⟩ = some (.int .i64 5)) (r2 : w.cell? ⟨b, o + 2, none⟩ = some (.string V2)) (r3 : w.cell? ⟨b, o + 3, none⟩ = some (.slice sd V3 sc))  :
    Calls Tryz.prog 199 #[.agg #[.int .i64 7, .string tx, .slice (some ⟨b, o, none⟩) 1 c]] w fun e w' => e = .returned (.tuple #[.agg #[.int .i64 0, .int .u64 0, .int .u64 0, .int .u64 0, .string { data := #[] }, .string { data := #[] }, .int .i64 0, .slice none 0 0, .slice none 0 0], .slice none 0 0, .bool false]) ∧ Below w.heap.size w w' := by
  have h1 : b ≠ w.heap.size := by omega
  have h2 : b ≠ w.heap.size + 1 := by omega
  have h3 : b ≠ w.heap.size + 1 + 1 := by omega
  have h4 : b < w.heap.size + 1 := by omega
  have h5 : b < w.heap.size + 1 + 1 := by omega
  have h6 : b < w.heap.size + 1 + 1 + 1 := by omega
  have h7 : b ≠ w.heap.size + 1 + 1 + 1 := by omega
  go_enter Tryz.func199, Tryz.ntmps199
  go_wp2_with fail
  refine bodyPost_ret (v := .tuple #[.agg #[.int .i64 0, .int .u64 0, .int .u64 0, .int .u64 0, .string { data := #[] }, .string { data := #[] }, .int .i64 0, .slice none 0 0, .slice none 0 0], .slice none 0 0, .bool false]) (by simp (maxDischargeDepth := 4) [results, Tryz.results199, go_sem, h1]) rfl ?_
  exact ⟨rfl, bel⟩
end
section
open Go.RowKit
def cel (t : List UInt8) : List Value := t.map fun z => .int .u8 (z.toNat : Int)
theorem cel_str (t : List UInt8) : Lib.strCells (bs t) = cel t := rfl
def OwR (w w' : World) (B : Nat) (v : Value) (n : Nat) (xs : List Value) (t : List UInt8) (e : Ending) : Prop :=
  ∃ g cap, e = .returned (.slice (some ⟨g, 0, none⟩) (n + t.length) cap) ∧ Ow 5 w w' B v (.slice (some ⟨g, 0, none⟩) (n + t.length) cap) (n + t.length) (xs ++ cel t)
theorem quoted_any (x : List UInt8) (hx : x.length ≤ 1000) (hw : Wh x) (B : Nat) (w : World) (v : Value) (n : Nat) (xs : List Value) (hown : w.ownsRow B 5 1 v n xs) (hn : n + (quote x).length ≤ 1000000000) (hB : B ≤ w.heap.size) :
    Calls Tryz.prog 108 #[v, .string (bs x)] w fun e w' => OwR w w' B v n xs (quote x) e := by
  have H1 := Lib.hid (fun w => quote_any x hx hw w)
  have HO := Lib.hid hown
  have HN := Lib.hid hn
  have HQ : Hid (0 < (bs (quote x)).size ∧ (bs (quote x)).size = (quote x).length) := Lib.hid ⟨by rw [bs_size]; unfold quote; simp, bs_size _⟩
  obtain ⟨i0, hi, iz0, iz1, iz2⟩ := hi_u8
  clear hown hn
  obtain ⟨T, hT⟩ : ∃ T, bs x = T := ⟨_, rfl⟩
  obtain ⟨U, hU⟩ : ∃ U, bs (quote x) = U := ⟨_, rfl⟩
  rw [hT] at H1 ⊢
  rw [hU] at H1 HQ
  clear hT hw hx
  go_enter Tryz.func108, Tryz.ntmps108
  go_wp2_with fail
  with_reducible refine (H1.out _).mono ?_
  rintro e w1 ⟨rfl, hb1⟩
  have hO1 := ownsRow_keeps HO.out (fun g hg => hb1.block g (World.ownsRow.lt HO.out g hg).2)
  go_wp2_with (at_builtin; go_loud (refine wpList_append_ow_string _ rfl _ _ 24 9 rfl B 5 i0 Tryz.underlying24 ty_str hi iz0 iz1 iz2 _ n _ rfl hO1 U rfl HQ.out.1 (by have := HN.out; have := HQ.out; unfold maxLen; omega) (by have := HN.out; have := HQ.out; omega) (by have := hb1.size; omega) ?_; intro g cap w2 how))
  go_ret
  have hU2 := HQ.out.2
  rw [hU2, ← hU, cel_str] at how
  exact ⟨g, cap, by rw [hU2]; rfl, how.before hb1⟩
end
section
open Go.ChangeShapes Go.WideShapes Go.RowKit
def Ss (w : World) (ad : Option Addr) (n : Nat) (f : Nat → ByteArray) : Prop := ∀ i, i < n → ∃ a, ad = some a ∧ a.block < w.heap.size ∧ w.cell? (a.add i) = some (.string (f i))
theorem Ss.beyond {w w' : World} {ad : Option Addr} {n : Nat} {f : Nat → ByteArray} (h : Ss w ad n f) (hb : Below w.heap.size w w') : Ss w' ad n f := fun i hi => by
  obtain ⟨a, ha, hl, hc⟩ := h i hi
  refine ⟨a, ha, Nat.lt_of_lt_of_le hl hb.size, ?_⟩
  rw [hb.cell (p := a.add i) (by unfold Addr.add; split <;> exact hl)]
  exact hc
theorem Ss.below {w w' : World} {B : Nat} {ad : Option Addr} {n : Nat} {f : Nat → ByteArray} (h : Ss w ad n f) (hlt : ∀ a, ad = some a → a.block < B) (hb : Below B w w') : Ss w' ad n f := fun i hi => by
  obtain ⟨a, ha, hl, hc⟩ := h i hi
  refine ⟨a, ha, Nat.lt_of_lt_of_le hl hb.size, ?_⟩
  rw [hb.cell (p := a.add i) (by unfold Addr.add; split <;> exact hlt a ha)]
  exact hc
theorem strs_open {H : Type} {enc : TypeId × Value → H} {P : Program} {w : World} {r : Reach} {b0 b : Nat} {hd : Bool} {t e : TypeId} {v : Value} {d : DataW H} {p : List MemPlace} (ht : P.underlying t = some (.slice e)) (he : P.underlying e = some .string) (hc : P.cellsOf e = 1)
    (hv : Value.okWide P w r b0 t v) (h : DataW.Trod enc P w b (fun _ => true) hd t v d p) :
    ∃ (ad : Option Addr) (n c : Nat) (f : Nat → ByteArray), v = .slice ad n c ∧ n ≤ c ∧ c ≤ maxLen ∧ Ss w ad n f ∧ ∀ i, i < n → (f i).size ≤ maxLen := by
  obtain ⟨a0, len, cap, rfl⟩ := okWide_slice ht hv
  obtain ⟨m, hm⟩ := h
  rcases open_strings ht he hc hm with ⟨hcs, _⟩ | ⟨a, len', cap', zs, hcs, _, hle, hmax, hzs, _, hcell, hwf⟩
  · simp [Value.cells] at hcs
    obtain ⟨rfl, rfl, rfl⟩ := hcs
    exact ⟨none, 0, 0, fun _ => ByteArray.empty, rfl, Nat.le_refl _, Nat.zero_le _, fun i hi => absurd hi (Nat.not_lt_zero _), fun i hi => by omega⟩
  · simp [Value.cells] at hcs
    obtain ⟨rfl, rfl, rfl⟩ := hcs
    simp at hzs
    refine ⟨some a, len, cap, fun i => zs.getD i ByteArray.empty, rfl, hle, hmax, fun i hi => ⟨a, rfl, ?_, hcell i (by omega)⟩, fun i hi => hwf _ ?_⟩
    · have := cell_lt (hcell i (by omega))
      rw [add_block] at this
      exact this
    · have e1 : zs.getD i ByteArray.empty = zs[i]'(by omega) := by simp [List.getD, show i < zs.length by omega]
      show zs.getD i ByteArray.empty ∈ zs
      rw [e1]
      exact List.getElem_mem _
end
section
open Go.RowKit
def nmL (f : Nat → ByteArray) (n : Nat) : List (List UInt8) := (List.range n).map fun i => (f i).data.toList
theorem nmL_len (f : Nat → ByteArray) (n : Nat) : (nmL f n).length = n := by simp [nmL]
theorem nmL_at {f : Nat → ByteArray} {n i : Nat} (h : i < n) : (nmL f n)[i]? = some (f i).data.toList := by simp [nmL, h]
theorem nmL_mem {f : Nat → ByteArray} {n : Nat} {x : List UInt8} (h : x ∈ nmL f n) : ∃ i, i < n ∧ x = (f i).data.toList := by
  obtain ⟨i, hi, rfl⟩ := List.mem_map.1 h
  exact ⟨i, List.mem_range.1 hi, rfl⟩
def lkS (b : Nat) (K : Nat) : List (Value × Value) := List.replicate K (.slice none 0 0, .slice (some ⟨b, 0, none⟩) 1 1)
theorem kd_rep {T : TypeId} {w : World} {B k : Nat} {Q : Nat → Prop} {l : KL} {V : Value} {ss : List (Value × Value)} (hl : ss.length = l.length) (h2 : w.ownsRow B T 10 V l.length (flat .V l ss)) (h3 : ∀ (i : Nat) (nm : List UInt8) (x : Ro) (s : Value × Value), l[i]? = some (nm, x) → ss[i]? = some s → By Q w x.o.bytes s.1 ∧ Kd .V Q w k x.kids s.2) (hQ : ∀ b, B ≤ b → Q b) : Kd .V Q w (k + 1) l V := by
  have h2' := h2
  rcases h2.2 with ⟨rfl, h0⟩ | ⟨g, cap, cur, rfl, hb, hg, _⟩
  · have e : l = [] := List.length_eq_zero_iff.1 h0
    subst e
    exact Kd.nil _ _ _ _ _ _
  · refine ⟨_, _, rfl, fun i nm x hi => ?_⟩
    have hlt : i < l.length := (List.getElem?_eq_some_iff.1 hi).1
    obtain ⟨s, hs⟩ : ∃ s, ss[i]? = some s := ⟨ss[i]'(by omega), List.getElem?_eq_getElem _⟩
    refine ⟨g, 0, s.1, s.2, rfl, hQ g hb, (Array.getElem?_eq_some_iff.1 hg).1, fun j v hv => ?_, (h3 i nm x s hi hs).1, (h3 i nm x s hi hs).2⟩
    have := World.ownsRow.cells h2' (g := g) rfl (Lay.wid .V * i + j) v (flat_at .V l ss i nm x s hi hs j v hv)
    rw [Addr.add_mid, Nat.zero_add] at this
    rw [Nat.zero_add]
    exact this
theorem range_of {w : World} {b : Nat} {cs : Array Value} {t : TypeId} {fr : Nat × Nat} (h : w.heap[b]? = some (.cells cs t fr)) : w.rangeAt b 0 cs.toList := fun j v hv => by
  rw [Nat.zero_add, cell_of_row w b j cs t fr h]
  simpa using hv
theorem range_drop {w : World} {b o : Nat} {cs : List Value} (h : w.rangeAt b o cs) (n : Nat) : w.rangeAt b (o + n) (cs.drop n) := fun j v hv => by
  rw [Nat.add_assoc]
  exact h (n + j) v (by rwa [List.getElem?_drop] at hv)
theorem range_take {w : World} {b o : Nat} {cs : List Value} (h : w.rangeAt b o cs) (n : Nat) : w.rangeAt b o (cs.take n) := fun j v hv => by
  refine h j v ?_
  have hj : j < n := by
    have := (List.getElem?_eq_some_iff.1 hv).1
    rw [List.length_take] at this
    omega
  rwa [List.getElem?_take_of_lt hj] at hv
theorem flat_more {L : KL} {K b : Nat} {nm' : List UInt8} {x : Ro} (h : L[K]? = some (nm', x)) : flat .V (L.take (K + 1)) (lkS b (K + 1)) = flat .V (L.take K) (lkS b K) ++ Lay.row .V nm' x.o (.slice none 0 0) (.slice (some ⟨b, 0, none⟩) 1 1) := by
  have hK : K < L.length := (List.getElem?_eq_some_iff.1 h).1
  rw [List.take_add_one, h, show lkS b (K + 1) = lkS b K ++ [(.slice none 0 0, .slice (some ⟨b, 0, none⟩) 1 1)] from List.replicate_succ']
  exact flat_snoc .V (L.take K) (lkS b K) nm' x _ (by simp [lkS]; omega)
theorem arrK_at {nm tx : List UInt8} {f : Nat → ByteArray} {n K : Nat} (h : K < n) : (arrK nm tx (nmL f n))[K]? = some ((f K).data.toList, lkT nm tx) := by
  rw [arrK, List.getElem?_map, nmL_at h]
  rfl
theorem own_form {w : World} {B size n : Nat} {e : TypeId} {v : Value} {xs : List Value} (h : w.ownsRow B e size v n xs) : ∃ ad c, v = .slice ad n c := by
  rcases h.2 with ⟨rfl, rfl⟩ | ⟨g, cap, cur, rfl, _⟩
  · exact ⟨_, _, rfl⟩
  · exact ⟨_, _, rfl⟩
theorem top_is {w : World} {nm tx : List UInt8} {l : List (List UInt8)} {b1 b4 B m c : Nat} {T : TypeId} {ad : Option Addr} {S2 s1 : ByteArray} (hS2 : S2 = bs (36 :: nm)) (hs1 : s1 = bs tx) (hm : l.length = m)
    (h1 : w.rangeAt b1 0 [.string S2, .int .i64 2, .int .u64 0, .int .u64 0, .int .u64 0, .string s1, .string { data := #[] }, .int .i64 0, .slice none 0 0, .slice none 0 0]) (hb1 : b1 < w.heap.size)
    (h2 : w.ownsRow B T 10 (.slice ad m c) m (flat .V (arrK nm tx l) (lkS b1 m)))
    (h4 : w.rangeAt b4 0 [.string { data := #[97] }, .int .i64 3, .int .u64 0, .int .u64 0, .int .u64 0, .string { data := #[] }, .string { data := #[] }, .int .i64 0, .slice none 0 0, .slice (some ⟨b1, 0, none⟩) 1 1,
      .string { data := #[98] }, .int .i64 4, .int .u64 0, .int .u64 0, .int .u64 0, .string { data := #[] }, .string { data := #[] }, .int .i64 0, .slice none 0 0, .slice ad m c]) (hb4 : b4 < w.heap.size) :
    Is .V (fun _ => True) w 3 (topT nm tx l) (.agg #[.int .i64 3, .int .u64 0, .int .u64 0, .int .u64 0, .string { data := #[] }, .string { data := #[] }, .int .i64 0, .slice none 0 0, .slice (some ⟨b4, 0, none⟩) 2 2]) := by
  subst hS2 hs1 hm
  have hlk : ∀ k, Kd .V (fun _ => True) w (k + 1) [(36 :: nm, vS tx)] (.slice (some ⟨b1, 0, none⟩) 1 1) := fun k => ⟨_, _, rfl, fun i nm' x hi => by
    cases i with
    | succ i => cases hi
    | zero =>
      injection hi with hi
      injection hi with e1 e2
      subst e1 e2
      exact ⟨b1, 0, .slice none 0 0, .slice none 0 0, rfl, True.intro, hb1, h1, By.nil _ _, Kd.nil _ _ _ _ _ _⟩⟩
  have harr : Kd .V (fun _ => True) w 2 (arrK nm tx l) (.slice ad l.length c) := by
    refine kd_rep (B := B) (T := T) (ss := lkS b1 l.length) (by simp [lkS, arrK_len]) (by rw [arrK_len]; exact h2) (fun i nm' x s hi hs => ?_) (fun _ _ => True.intro)
    obtain ⟨n', _, e⟩ := arrK_mem (List.mem_of_getElem? hi)
    injection e with e1 e2
    subst e1 e2
    have hs2 : s = (.slice none 0 0, .slice (some ⟨b1, 0, none⟩) 1 1) := List.eq_of_mem_replicate (List.mem_of_getElem? hs)
    subst hs2
    exact ⟨By.nil _ _, hlk 0⟩
  refine ⟨.slice none 0 0, .slice (some ⟨b4, 0, none⟩) 2 2, rfl, By.nil _ _, ⟨_, _, rfl, fun i nm' x hi => ?_⟩⟩
  match i, hi with
  | 0, hi =>
    injection hi with hi
    injection hi with e1 e2
    subst e1 e2
    exact ⟨b4, 0, .slice none 0 0, .slice (some ⟨b1, 0, none⟩) 1 1, rfl, True.intro, hb4, range_take h4 10, By.nil _ _, hlk 1⟩
  | 1, hi =>
    injection hi with hi
    injection hi with e1 e2
    subst e1 e2
    exact ⟨b4, 0, .slice none 0 0, .slice ad l.length c, rfl, True.intro, hb4, range_drop h4 10, By.nil _ _, harr⟩
  | i + 2, hi => cases hi
end
section
open Go.RowKit
theorem Pa.low {w : World} {B B' : Nat} {e : TypeId} {v : Value} {n : Nat} (h : Pa w B e v n) (hb : B' ≤ B) : Pa w B' e v n := by
  obtain ⟨xs, h1, h2⟩ := h
  exact ⟨xs, World.ownsRow.mono h1 hb, h2⟩
theorem Pa.cells {w : World} {B : Nat} {e : TypeId} {pa : Option Addr} {pc n : Nat} (h : Pa w B e (.slice pa n pc) n) : ∃ xs : List Value, xs.length = n ∧ (∀ u ∈ xs, u.oneCell' = true) ∧ ∀ j u, xs[j]? = some u → ∃ b, pa = some b ∧ w.cell? (b.add j) = some u := by
  obtain ⟨xs, h1, h2⟩ := h
  refine ⟨xs, by rw [h1.1, Nat.mul_one], h2, fun j u hj => ?_⟩
  rcases h1.2 with ⟨hv, h0⟩ | ⟨g, cap, cur, hv, _⟩
  · subst h0
    have := h1.1
    rw [Nat.zero_mul] at this
    have e : xs = [] := List.length_eq_zero_iff.1 this
    subst e
    cases hj
  · injection hv with e1 e2 e3
    subst e1 e3
    exact ⟨_, rfl, World.ownsRow.cells h1 (g := g) rfl j u hj⟩
theorem longer_any (p : Value) (n B : Nat) (z : Int) (w : World) (hp : Pa w B 3 p n) (hB : B ≤ w.heap.size) (hn : n ≤ 1000) : Calls Tryz.prog 67 #[p, .int .i64 z] w fun e w' => (∃ v, e = .returned v ∧ Pa w' B 3 v (n + 1)) ∧ Below w.heap.size w w' := by
  obtain ⟨i0, hi, iz0, iz1, iz2⟩ := hi_int
  obtain ⟨pa, pc, rfl⟩ := hp.form
  obtain ⟨xs, hx1, hx2, hx3⟩ := hp.cells
  have HX := Lib.hid hx3
  clear hp hx3
  go_enter Tryz.func67, Tryz.ntmps67
  go_wp2_with (at_builtin; first
    | (go_loud (refine wpList_append_two_any rfl (.tmp 5) (.tmp 6) 31 31 rfl w.heap.size 3 3 i0 (.int .i64 0) 1 8 Tryz.underlying31 Tryz.underlying31 hi iz0 iz1 iz2 rfl (by decide) (.slice (some ⟨w.heap.size, 0, none⟩) 0 0) 0 [] rfl (World.ownsRow_made w #[] 0 (Nat.le_refl _) (Nat.zero_le _) (by simp)) pa n pc xs rfl (by rw [Nat.mul_one]; exact hx1) ?c1 hx2 (by unfold maxLen; omega) (by omega) (by simp) ?_; (case c1 => exact (fun j u hj => by obtain ⟨b, h1, h2⟩ := HX.out j u hj; exact ⟨b, h1, Lib.cell?_alloc_some _ h2⟩)); intro v1 w1 hown1 hgrow1; rw [Nat.zero_add, List.nil_append] at hown1; have hp1 : Pa w1 w.heap.size 3 v1 n := ⟨xs, hown1, hx2⟩; have hb1 : Below w.heap.size w w1 := ((Below.refl _ w).alloc (Nat.le_refl _) _).grown hgrow1 (by simp) (by intro k hk; have e : w.heap.size = k := Option.some.inj hk; omega); have hz1 := hb1.size))
    | (go_loud (refine wpList_append_path _ rfl (.tmp 7) (.tmp 9) 31 rfl w.heap.size 3 i0 (.int .i64 0) Tryz.underlying31 hi iz0 iz1 iz2 rfl v1 n rfl (hp1.beyond bel) ⟨w1.heap.size, 0, none⟩ 1 (.int .i64 z) rfl (by simp [go_sem]) rfl (by omega) (by simp; omega) ?_; intro g6 cap6 w6 h6)))
  go_wp2_with fail
  go_ret
  exact ⟨⟨_, rfl, h6.new.low hB⟩, hb1.trans (((Below.refl w.heap.size w1).alloc hz1 _).grown h6.grown (by simp; omega) (fun k hk => (hp1.lt k hk).1))⟩
end
section
open Go.ChangeShapes Go.WideShapes Go.ChangeAt Go.WideMaps Go.WideElems Go.RowKit
theorem of_change_and_shaped {H : Type} {enc : TypeId × Value → H} {a : Assume} {C : Checked} {os : Os} {f : FuncId} {fn : Func} {s : ChangeSpec} {conds : List PathCond} {apart fresh handsOn again : Bool} {X : World → Array Value → Prop}
    (hX : ∀ (w w' : World) (args : Array Value), w.heap = w'.heap → X w args → X w' args)
    (own : ownKnob C.prog.godebug = none) (started : os.Started) (noInit : C.prog.inits.idxOf? f = none) (hfn : C.prog.funcs[f]? = some fn)
    (witness : ∃ (w : World) (tape : Tape) (i : Input), w.os = os ∧ (w.forCall tape i).Shaped C.prog ∧ i.vars = [] ∧ Input.okWide C.prog (w.forCall tape i) .any w.heap.size f i ∧
      ((s.pre enc C.prog fn conds apart (w.forCall tape i).memory i.args ∧ X (w.forCall tape i).memory i.args) ∧ sizedMet enc C.prog fn (OpenSpec.ofChange s) apart (w.forCall tape i).memory i.args) ∧ a.holds C.prog (lone (Frame.enter C.prog f i.args .normal) [] (w.forCall tape i)))
    (contract : ∀ (W : World) (base : Nat) (args : Array Value) (ds gs : List (DataW H)) (before : List MemPlace),
      (∀ (j : Nat) t v, fn.params[j]? = some t → args[j]? = some v → Value.okWide C.prog W .any base t v) →
      DataW.Whole enc C.prog fn.params.toList s.vars apart W args.toList ds gs before →
      conds.all (PathCond.test C.prog ⟨fn.params.toList, ds, s.plain.varTypes C.prog, gs⟩) = true →
      (DataW.weightsEach C.prog (fn.params.toList ++ s.plain.varTypes C.prog) (ds ++ gs)).all (· ≤ reachBytes) = true → X W args → W.ShapedOpen C.prog →
      a.holds C.prog (lone (Frame.enter C.prog f args .normal) [] W) →
      Calls C.prog f args W fun e W' => ∃ v, e = .returned v ∧ s.post enc C.prog fn apart fresh handsOn again W args v W') :
    ReturnsInHanded a C os f .any (fun w args => (s.pre enc C.prog fn conds apart w args ∧ X w args) ∧ sizedMet enc C.prog fn (OpenSpec.ofChange s) apart w args) (s.post enc C.prog fn apart fresh handsOn again) := by
  refine returnsInHanded_of_calls own started noInit witness ?_
  intro w tape i _ hsh _ hok hpre hholds
  obtain ⟨_, _, _, fn', hfn', _, _, _, _, hval⟩ := hok
  have e : fn' = fn := Option.some.inj (hfn'.symm.trans hfn)
  subst e
  obtain ⟨⟨⟨ds, gs, before, hw, hc⟩, hx⟩, hz⟩ := hpre
  have hw' := DataW.Whole.of_heap (w' := w.forCall tape i) (by rfl) hw
  refine (contract (w.forCall tape i) w.heap.size i.args ds gs before hval hw' hc (hz.weights hw) (hX _ _ _ (by rfl) hx) hsh hholds).mono fun e W' ⟨v, he, hp⟩ => ?_
  subst he
  exact ChangeSpec.post_blind hp
end
end Go.Proofs.YtihnfhhopldllaaGreatDoor
