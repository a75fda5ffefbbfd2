/- Parts of the proof of TopLooks: U4, St, U5, U6, Pa. No condition. -/
import Derived.Test.YtihnfhhopldllaaGreatDoorJ1
import Derived.Test.YtihnfhhopldllaaGreatDoorJ3
import Derived.Test.YtihnfhhopldllaaGreatDoorJ4
namespace Go.Proofs.YtihnfhhopldllaaGreatDoor
set_option linter.unusedSimpArgs false
set_option linter.unusedVariables false
set_option maxHeartbeats 6400000
set_option maxRecDepth 100000
section
open Go.RowKit
theorem ty_str : Tryz.prog.underlying 9 = some .string := by kernel_rfl
theorem ty_bytes : Tryz.prog.underlying 24 = some (.slice 5) := by kernel_rfl
theorem ty_u8 : Tryz.prog.underlying 5 = some (.int .u8) := by kernel_rfl
theorem conv_bytes (s : ByteArray) (w : World) : ∃ c w1, (convert 9 24 (.string s)).run Tryz.prog w = .ok (.slice (some ⟨w.heap.size, 0, none⟩) s.size c) w1 ∧ Sb w1 (some ⟨w.heap.size, 0, none⟩) s.data.toList ∧ Below w.heap.size w w1 ∧ w.heap.size < w1.heap.size := by
  refine ⟨_, _, Lib.run_convert_string_bytes w _ _ 5 s ty_str ty_bytes ty_u8, ?_, ⟨rfl, rfl, rfl, ?_, fun k hk => Lib.bytesWorld_at_old w _ s k hk⟩, ?_⟩
  · intro i x hx
    have hi : i < s.size := by
      have := (List.getElem?_eq_some_iff.1 hx).1
      simpa using this
    refine ⟨_, rfl, by rw [Lib.bytesWorld_size]; exact Nat.lt_succ_self _, ?_⟩
    have h := Lib.bytesWorld_cell w 5 s i hi
    rw [Addr.add_mid, Nat.zero_add, h, List.getD_eq_getElem?_getD, hx]
    rfl
  · rw [Lib.bytesWorld_size]; omega
  · rw [Lib.bytesWorld_size]; omega
theorem len_data (s : ByteArray) : s.data.toList.length = s.size := by simp
theorem is1_any (s : ByteArray) (hs : s.size ≤ 1000000) (w : World) : Calls Tryz.prog 107 #[.string s] w fun e w' => e = .returned (.bool (decide (Wh s.data.toList))) ∧ Below w.heap.size w w' := by
  obtain ⟨c, w1, hcv, hb, hw, hz⟩ := conv_bytes s w
  have H := Lib.hid (check_any (some ⟨w.heap.size, 0, none⟩) s.size c s.data.toList (len_data s) hs w1 hb)
  have hw := Lib.hid hw
  clear hb
  go_enter Tryz.func107, Tryz.ntmps107
  go_wp2_with fail
  with_reducible refine (H.out).mono ?_
  rintro e w' ⟨rfl, rfl⟩
  go_wp2_with fail
  go_ret
  exact ⟨rfl, hw.out⟩
theorem rwhole_any (s : ByteArray) (hs : s.size ≤ 1000000) (w : World) : Calls Tryz.prog 112 #[.string s] w fun e w' => e = .returned (.bool (decide (Wh s.data.toList))) ∧ Below w.heap.size w w' := by
  obtain ⟨c, w1, hcv, hb, hw, hz⟩ := conv_bytes s w
  have H := Lib.hid (rcheck_any (some ⟨w.heap.size, 0, none⟩) s.size c s.data.toList (len_data s) hs w1 hb)
  have hw := Lib.hid hw
  clear hb
  go_enter Tryz.func112, Tryz.ntmps112
  go_wp2_with fail
  with_reducible refine (H.out).mono ?_
  rintro e w' ⟨rfl, rfl⟩
  go_wp2_with fail
  go_ret
  exact ⟨rfl, hw.out⟩
theorem str_at (s : ByteArray) (k : Nat) (h : k < s.size) : s.data.toList[k]? = some (s[k]'h) := by
  rw [List.getElem?_eq_getElem (by rw [len_data]; exact h)]
  rfl
theorem zero_any (s : ByteArray) (hs : s.size ≤ 1000000) (w : World) : Calls Tryz.prog 113 #[.string s] w fun e w' => e = .returned (.bool (decide ((0 : UInt8) ∈ s.data.toList))) ∧ w = w' := by
  obtain ⟨B, hB⟩ : ∃ b, decide ((0 : UInt8) ∈ s.data.toList) = b := ⟨_, rfl⟩
  have HB := Lib.hid hB
  rw [hB]
  clear hB
  go_enter Tryz.func113, Tryz.ntmps113
  go_wp2_with fail
  go_loop [3] (fun x => ∃ k : Nat, k ≤ s.size ∧ x = .int .i64 k ∧ Hid (∀ i, i < k → s.data.toList[i]? ≠ some 0)) (fun x => s.size - (intOf x).toNat)
  case atStart => exact ⟨0, by omega, rfl, Lib.hid (fun i hi => by omega)⟩
  case round =>
    obtain ⟨k, hk, rfl, HV⟩ := hrel
    by_cases hkn : k < s.size
    · have hat := str_at s k hkn
      by_cases h0 : s[k]'hkn = 0
      · have e0 : (((s[k]'hkn).toNat : Int) == 0) = true := by rw [h0]; rfl
        have hBt : B = true := by
          rw [← HB.out]
          exact decide_eq_true (List.mem_of_getElem? (by rw [hat, h0]))
        subst hBt
        clear hat h0
        go_wp2_with fail
        go_ret
        exact ⟨rfl, rfl⟩
      · have e0 : (((s[k]'hkn).toNat : Int) == 0) = false := beq_f (fun e => h0 (UInt8.toNat_inj.1 (by have h2 : (0 : UInt8).toNat = 0 := rfl; omega)))
        have HV2 : Hid (∀ i, i < k + 1 → s.data.toList[i]? ≠ some 0) := Lib.hid (fun i hi => by
          rcases Nat.lt_or_eq_of_le (Nat.le_of_lt_succ hi) with h | h
          · exact HV.out i h
          · subst h
            rw [hat]
            intro e
            exact h0 (Option.some.inj e))
        clear hat h0
        go_wp2_with fail
        go_round
        case rel => exact ⟨k + 1, by omega, by go_num, HV2⟩
        case measure => simp [intOf]; omega
    · have hBf : B = false := by
        rw [← HB.out]
        refine decide_eq_false (fun hm => ?_)
        obtain ⟨i, hi⟩ := List.mem_iff_getElem?.1 hm
        have hl := (List.getElem?_eq_some_iff.1 hi).1
        rw [len_data] at hl
        exact HV.out i (by omega) hi
      subst hBf
      go_wp2_with fail
      go_ret
      exact ⟨rfl, rfl⟩
theorem named_any (s : ByteArray) (hs : s.size ≤ 1000000) (w : World) : Calls Tryz.prog 66 #[.string s] w fun e w' => e = .returned (.bool (decide (Nm s.data.toList))) ∧ Below w.heap.size w w' := by
  have H1 := rwhole_any s hs w
  have H2 := Lib.hid (zero_any s hs)
  have key : ∀ b, decide (Nm s.data.toList) = b → Calls Tryz.prog 66 #[.string s] w fun e w' => e = .returned (.bool b) ∧ Below w.heap.size w w' := fun b hb => by
    by_cases h1 : Wh s.data.toList
    · rw [decide_eq_true h1] at H1
      have H1 := Lib.hid H1
      by_cases h2 : (0 : UInt8) ∈ s.data.toList
      · rw [decide_eq_true h2] at H2
        have e : b = false := by rw [← hb]; exact decide_eq_false (fun h => h.2 h2)
        subst e
        clear hb h1 h2
        go_enter Tryz.func66, Tryz.ntmps66
        go_wp2_with fail
        with_reducible refine (H1.out).mono ?_
        rintro e w1 ⟨rfl, hw⟩
        have hw := Lib.hid hw
        go_wp2_with fail
        with_reducible refine (H2.out _).mono ?_
        rintro e w' ⟨rfl, rfl⟩
        go_wp2_with fail
        go_ret
        exact ⟨rfl, hw.out⟩
      · rw [decide_eq_false h2] at H2
        have e : b = true := by rw [← hb]; exact decide_eq_true ⟨h1, h2⟩
        subst e
        clear hb h1 h2
        go_enter Tryz.func66, Tryz.ntmps66
        go_wp2_with fail
        with_reducible refine (H1.out).mono ?_
        rintro e w1 ⟨rfl, hw⟩
        have hw := Lib.hid hw
        go_wp2_with fail
        with_reducible refine (H2.out _).mono ?_
        rintro e w' ⟨rfl, rfl⟩
        go_wp2_with fail
        go_ret
        exact ⟨rfl, hw.out⟩
    · rw [decide_eq_false h1] at H1
      have H1 := Lib.hid H1
      have e : b = false := by rw [← hb]; exact decide_eq_false (fun h => h1 h.1)
      subst e
      clear hb h1
      go_enter Tryz.func66, Tryz.ntmps66
      go_wp2_with fail
      with_reducible refine (H1.out).mono ?_
      rintro e w1 ⟨rfl, hw⟩
      have hw := Lib.hid hw
      go_wp2_with fail
      go_ret
      exact ⟨rfl, hw.out⟩
  exact key _ rfl
def whB (p : Bool) (l : List UInt8) : Bool := decide (Wh l) && !(p && decide ((0 : UInt8) ∈ l))
theorem contains_any (s : ByteArray) (w : World) : Calls Tryz.prog 117 #[.string s, .string { data := #[0] }] w fun e w' => e = .returned (.bool (decide ((0 : UInt8) ∈ s.data.toList))) ∧ w = w' := by
  refine (Tryz.strings_Contains_one s 0 w).mono ?_
  rintro e w' ⟨rfl, rfl⟩
  refine ⟨?_, rfl⟩
  congr 2
  refine decide_eq_decide.2 ⟨fun h => ?_, fun h => ?_⟩
  · obtain ⟨o, ho⟩ := Int.eq_ofNat_of_zero_le h
    exact List.mem_of_getElem? (Lib.indexByte_some ho).1
  · have hge := Lib.indexByte_ge s.data.toList 0
    obtain ⟨i, hi⟩ := List.mem_iff_getElem?.1 h
    rcases (show Lib.indexByte s.data.toList 0 = -1 ∨ 0 ≤ Lib.indexByte s.data.toList 0 by omega) with h1 | h1
    · exact absurd hi (Lib.indexByte_none h1 i)
    · exact h1
theorem whole_any (s : ByteArray) (p : Bool) (hs : s.size ≤ 1000000) (w : World) : Calls Tryz.prog 175 #[.string s, .bool p] w fun e w' => e = .returned (.bool (whB p s.data.toList)) ∧ Below w.heap.size w w' := by
  obtain ⟨c, w1, hcv, hb, hw, hz⟩ := conv_bytes s w
  have H := check_any (some ⟨w.heap.size, 0, none⟩) s.size c s.data.toList (len_data s) hs w1 hb
  have hw := Lib.hid hw
  have H2 := contains_any s
  clear hb
  unfold whB
  generalize lookL s.data.toList = L at *
  cases h1 : decide (Wh s.data.toList)
  · rw [h1] at H
    have H := Lib.hid H
    have H2 := Lib.hid H2
    clear h1
    go_enter Tryz.func175, Tryz.ntmps175
    go_wp2_with fail
    with_reducible refine (H.out).mono ?_
    rintro e w' ⟨rfl, rfl⟩
    go_wp2_with fail
    go_ret
    exact ⟨rfl, hw.out⟩
  · rw [h1] at H
    have H := Lib.hid H
    clear h1
    cases p
    · clear H2
      go_enter Tryz.func175, Tryz.ntmps175
      go_wp2_with fail
      with_reducible refine (H.out).mono ?_
      rintro e w' ⟨rfl, rfl⟩
      go_wp2_with fail
      go_ret
      exact ⟨rfl, hw.out⟩
    · cases h2 : decide ((0 : UInt8) ∈ s.data.toList)
      all_goals
        rw [h2] at H2
        have H2 := Lib.hid H2
        clear h2
        go_enter Tryz.func175, Tryz.ntmps175
        go_wp2_with fail
        with_reducible refine (H.out).mono ?_
        rintro e w' ⟨rfl, rfl⟩
        go_wp2_with fail
        with_reducible refine (H2.out _).mono ?_
        rintro e w' ⟨rfl, rfl⟩
        go_wp2_with fail
        go_ret
        exact ⟨rfl, hw.out⟩
end
section
section
variable {P : Program}
theorem wp_store_new {op : Oper} {a : Act} {w : World} {K : Act → World → Prop} {Q : Exit → Act → World → Prop} {c : Array Value} (ty : TypeId) (x y : Operand) (ho : op.op = .store ty x y)
    (c' : Array Value) (hx : a.eval x = .pointer (some ⟨w.heap.size, 0, none⟩)) (hy : a.eval y = .agg c')
    (hi : (P.info? ty).map (·.size) = some c'.size) (hs : c.size = c'.size) (h1 : c'.all (·.oneCell') = true)
    (h : K (a.put op.dst undef) (w.alloc (.cells c' ty))) : op.wp P a (w.alloc (.cells c ty)) K Q := by
  unfold Oper.wp execOp
  simp only [ho, hx, hy, Sem.run_bind, Sem.run_pure, Result.andThen_ok, run_storeAt_new w ty c c' hi hs h1]
  exact h
theorem wpList_store_new {ops : Array Oper} {rest : List Oper} {op : Oper} {a : Act} {w : World} {Q : Exit → Act → World → Prop} {c : Array Value} (hgd : op.guard = none) (ty : TypeId) (x y : Operand) (ho : op.op = .store ty x y)
    (c' : Array Value) (hx : a.eval x = .pointer (some ⟨w.heap.size, 0, none⟩)) (hy : a.eval y = .agg c')
    (hi : (P.info? ty).map (·.size) = some c'.size) (hs : c.size = c'.size) (h1 : c'.all (·.oneCell') = true)
    (h : wpList P ops Q rest (a.put op.dst undef) (w.alloc (.cells c' ty))) : wpList P ops Q (op :: rest) a (w.alloc (.cells c ty)) :=
  wpList_plain hgd fun _ hK => wp_store_new ty x y ho c' hx hy hi hs h1 (hK _ _ h)
end
end
section
open Go.RowKit
theorem size_names : (Tryz.prog.info? 180).map (·.size) = some 20 := by kernel_rfl
def namesA : Array Value := #[.string { data := #[] }, .string { data := #[100, 111, 117, 98, 108, 101] }, .string { data := #[115, 116, 114, 105, 110, 103] }, .string { data := #[100, 111, 99, 117, 109, 101, 110, 116] }, .string { data := #[97, 114, 114, 97, 121] }, .string { data := #[98, 105, 110, 97, 114, 121] }, .string { data := #[117, 110, 100, 101, 102, 105, 110, 101, 100] }, .string { data := #[111, 98, 106, 101, 99, 116, 105, 100] }, .string { data := #[98, 111, 111, 108] }, .string { data := #[100, 97, 116, 101] }, .string { data := #[110, 117, 108, 108] }, .string { data := #[114, 101, 103, 101, 120] }, .string { data := #[112, 111, 105, 110, 116, 101, 114] }, .string { data := #[99, 111, 100, 101] }, .string { data := #[115, 121, 109, 98, 111, 108] }, .string { data := #[115, 99, 111, 112, 101, 100] }, .string { data := #[105, 110, 116, 51, 50] }, .string { data := #[116, 105, 109, 101, 115, 116, 97, 109, 112] }, .string { data := #[105, 110, 116, 54, 52] }, .string { data := #[100, 101, 99, 105, 109, 97, 108] }]
theorem names_one : namesA.all (·.oneCell') = true := by
  refine Array.all_eq_true_iff_forall_mem.2 (fun v hv => ?_)
  have : v ∈ namesA.toList := by simpa using hv
  unfold namesA at this
  simp only [List.mem_cons, List.not_mem_nil, or_false] at this
  rcases this with rfl | rfl | rfl | rfl | rfl | rfl | rfl | rfl | rfl | rfl | rfl | rfl | rfl | rfl | rfl | rfl | rfl | rfl | rfl | rfl
  all_goals rfl
theorem names_at (w : World) (k : Nat) (v : Value) (h : namesA[k]? = some v) : (w.alloc (.cells namesA 180)).cell? ⟨w.heap.size, k, none⟩ = some v := by
  rw [cell_of_row _ _ k _ _ (0, 0) (heap_alloc_last w _), h]
theorem name_2 (w : World) : Calls Tryz.prog 74 #[.int .i64 2] w fun e w' => e = .returned (.string { data := #[115, 116, 114, 105, 110, 103] }) ∧ Below w.heap.size w w' := by
  have hsz := size_names
  have hk := names_at w 2 _ rfl
  go_enter Tryz.func74, Tryz.ntmps74
  go_wp2_with (refine wpList_store_new rfl 180 _ _ rfl namesA rfl rfl hsz rfl names_one ?_)
  go_ret
  exact ⟨rfl, bel⟩
theorem name_3 (w : World) : Calls Tryz.prog 74 #[.int .i64 3] w fun e w' => e = .returned (.string { data := #[100, 111, 99, 117, 109, 101, 110, 116] }) ∧ Below w.heap.size w w' := by
  have hsz := size_names
  have hk := names_at w 3 _ rfl
  go_enter Tryz.func74, Tryz.ntmps74
  go_wp2_with (refine wpList_store_new rfl 180 _ _ rfl namesA rfl rfl hsz rfl names_one ?_)
  go_ret
  exact ⟨rfl, bel⟩
theorem name_4 (w : World) : Calls Tryz.prog 74 #[.int .i64 4] w fun e w' => e = .returned (.string { data := #[97, 114, 114, 97, 121] }) ∧ Below w.heap.size w w' := by
  have hsz := size_names
  have hk := names_at w 4 _ rfl
  go_enter Tryz.func74, Tryz.ntmps74
  go_wp2_with (refine wpList_store_new rfl 180 _ _ rfl namesA rfl rfl hsz rfl names_one ?_)
  go_ret
  exact ⟨rfl, bel⟩
theorem name_16 (w : World) : Calls Tryz.prog 74 #[.int .i64 16] w fun e w' => e = .returned (.string { data := #[105, 110, 116, 51, 50] }) ∧ Below w.heap.size w w' := by
  have hsz := size_names
  have hk := names_at w 16 _ rfl
  go_enter Tryz.func74, Tryz.ntmps74
  go_wp2_with (refine wpList_store_new rfl 180 _ _ rfl namesA rfl rfl hsz rfl names_one ?_)
  go_ret
  exact ⟨rfl, bel⟩
end
section
open Go.RowKit
theorem fields_2 (s : ByteArray) (bd : Option Addr) (bc : Nat) (ad : Option Addr) (m c : Nat) (w : World) : Calls Tryz.prog 174 #[.agg #[.int .i64 2, .int .u64 0, .int .u64 0, .int .u64 0, .string s, .string { data := #[] }, .int .i64 0, .slice bd 0 bc, .slice ad 0 c]] w fun e w' => e = .returned (.bool true) ∧ Below w.heap.size w w' := by
  go_enter Tryz.func174, Tryz.ntmps174
  go_wp2_with fail
  go_ret
  exact ⟨rfl, bel⟩
theorem fields_3 (s : ByteArray) (bd : Option Addr) (bc : Nat) (ad : Option Addr) (m c : Nat) (w : World) : Calls Tryz.prog 174 #[.agg #[.int .i64 3, .int .u64 0, .int .u64 0, .int .u64 0, .string { data := #[] }, .string { data := #[] }, .int .i64 0, .slice bd 0 bc, .slice ad m c]] w fun e w' => e = .returned (.bool true) ∧ Below w.heap.size w w' := by
  go_enter Tryz.func174, Tryz.ntmps174
  go_wp2_with fail
  go_ret
  exact ⟨rfl, bel⟩
theorem fields_4 (s : ByteArray) (bd : Option Addr) (bc : Nat) (ad : Option Addr) (m c : Nat) (w : World) : Calls Tryz.prog 174 #[.agg #[.int .i64 4, .int .u64 0, .int .u64 0, .int .u64 0, .string { data := #[] }, .string { data := #[] }, .int .i64 0, .slice bd 0 bc, .slice ad m c]] w fun e w' => e = .returned (.bool true) ∧ Below w.heap.size w w' := by
  go_enter Tryz.func174, Tryz.ntmps174
  go_wp2_with fail
  go_ret
  exact ⟨rfl, bel⟩
theorem fields_16 (s : ByteArray) (bd : Option Addr) (bc : Nat) (ad : Option Addr) (m c : Nat) (w : World) : Calls Tryz.prog 174 #[.agg #[.int .i64 16, .int .u64 1, .int .u64 0, .int .u64 0, .string { data := #[] }, .string { data := #[] }, .int .i64 0, .slice bd 0 bc, .slice ad 0 c]] w fun e w' => e = .returned (.bool true) ∧ Below w.heap.size w w' := by
  go_enter Tryz.func174, Tryz.ntmps174
  go_wp2_with fail
  go_ret
  exact ⟨rfl, bel⟩
end
section
open Go.RowKit
def Pa (w : World) (B : Nat) (e : TypeId) (v : Value) (n : Nat) : Prop := ∃ xs, w.ownsRow B e 1 v n xs ∧ ∀ u ∈ xs, u.oneCell' = true
theorem Pa.nil (w : World) (B : Nat) (e : TypeId) : Pa w B e (.slice none 0 0) 0 := ⟨[], World.ownsRow_nil _ _ _ _, fun u h => by cases h⟩
theorem Pa.lt {w : World} {B : Nat} {e : TypeId} {v : Value} {n : Nat} (h : Pa w B e v n) : ∀ g, v.ownBlock = some g → B ≤ g ∧ g < w.heap.size := by
  obtain ⟨xs, h, _⟩ := h
  exact World.ownsRow.lt h
theorem Pa.block {w w' : World} {B : Nat} {e : TypeId} {v : Value} {n : Nat} (h : Pa w B e v n) (hk : ∀ g, v.ownBlock = some g → w'.heap[g]? = w.heap[g]?) : Pa w' B e v n := by
  obtain ⟨xs, h, h1⟩ := h
  exact ⟨xs, ownsRow_keeps h hk, h1⟩
theorem Pa.beyond {w w' : World} {B : Nat} {e : TypeId} {v : Value} {n : Nat} (h : Pa w B e v n) (hb : Below w.heap.size w w') : Pa w' B e v n := h.block fun g hg => hb.block g (h.lt g hg).2
theorem Pa.form {w : World} {B : Nat} {e : TypeId} {v : Value} {n : Nat} (h : Pa w B e v n) : ∃ ad c, v = .slice ad n c := by
  obtain ⟨xs, h, _⟩ := h
  rcases h.2 with ⟨rfl, rfl⟩ | ⟨g, cap, cur, rfl, _⟩
  · exact ⟨_, _, rfl⟩
  · exact ⟨_, _, rfl⟩
theorem grown_below {w w' : World} (h : Below w.heap.size w w') (row : Option Nat) : w.grownBy w' row := ⟨h.os, h.tape, h.output, h.size, fun k hk _ => h.block k hk⟩
theorem below_grown {w w' : World} (h : w.grownBy w' none) : Below w.heap.size w w' := ⟨h.os, h.tape, h.output, h.size, fun k hk => h.block k hk (by simp)⟩
theorem grown_trans {a b c : World} {row : Option Nat} (h : a.grownBy b row) (g : b.grownBy c row) : a.grownBy c row :=
  ⟨g.os.trans h.os, g.tape.trans h.tape, g.output.trans h.output, Nat.le_trans h.size g.size, fun k hk hr => (g.block k (Nat.lt_of_lt_of_le hk h.size) hr).trans (h.block k hk hr)⟩
theorem keeps_grown {Q : Nat → Prop} {w w' : World} {row : Option Nat} (h : w.grownBy w' row) (hq : ∀ b, Q b → b < w.heap.size → row ≠ some b) : Keeps Q w w' := ⟨h.size, fun b hb hl => h.block b hl (fun e => hq b hb hl e.symm)⟩
structure PkA (w w' : World) (B : Nat) (e : TypeId) (v : Value) (n g cap : Nat) : Prop where
  new : Pa w' B e (.slice (some ⟨g, 0, none⟩) (n + 1) cap) (n + 1)
  old : v.ownBlock ≠ some g → Pa w' B e v n
  same : v.ownBlock = some g → v = .slice (some ⟨g, 0, none⟩) n cap
  grown : w.grownBy w' v.ownBlock
  at' : v.ownBlock = some g ∨ g = w.heap.size
  lt : g < w'.heap.size
theorem pa_take {w : World} {B : Nat} {e : TypeId} {g n cap : Nat} (h : Pa w B e (.slice (some ⟨g, 0, none⟩) (n + 1) cap) (n + 1)) : Pa w B e (.slice (some ⟨g, 0, none⟩) n cap) n := by
  obtain ⟨xs, ⟨hl, h⟩, h1⟩ := h
  refine ⟨xs.take n, ⟨by rw [List.length_take, hl]; omega, ?_⟩, fun u hu => h1 u (List.mem_of_mem_take hu)⟩
  rcases h with ⟨h, _⟩ | ⟨g', cap', cur, h2, h3, h4, h5, h6, h7, h8⟩
  · cases h
  · injection h2 with e1 e2 e3
    injection e1 with e1
    injection e1 with e1
    subst e1 e3
    exact .inr ⟨g, cap, cur, rfl, h3, h4, by omega, h6, h7, by rw [← h8, List.take_take]; congr 1; omega⟩
theorem pk_child {w w1 w2 : World} {B : Nat} {e : TypeId} {v : Value} {n g cap : Nat} (h : PkA w w1 B e v n g cap) (hg : w1.grownBy w2 (some g)) (hp : Pa w2 B e (.slice (some ⟨g, 0, none⟩) (n + 1) cap) (n + 1)) : w.grownBy w2 v.ownBlock ∧ Pa w2 B e v n := by
  refine ⟨⟨hg.os.trans h.grown.os, hg.tape.trans h.grown.tape, hg.output.trans h.grown.output, Nat.le_trans h.grown.size hg.size, fun k hk hr => ?_⟩, ?_⟩
  · refine (hg.block k (Nat.lt_of_lt_of_le hk h.grown.size) (fun e => ?_)).trans (h.grown.block k hk hr)
    injection e with e
    subst e
    rcases h.at' with h' | h'
    · exact hr h'.symm
    · omega
  · by_cases hv : v.ownBlock = some g
    · rw [h.same hv]
      exact pa_take hp
    · exact (h.old hv).block fun k hk => hg.block k ((h.old hv).lt k hk).2 (fun e => by injection e with e; exact hv (e ▸ hk))
section
variable {P : Program}
theorem run_append_path (w : World) (B : Nat) (t ty e : TypeId) (i : TypeInfo) (z : Value) (ht : P.underlying t = some (.slice e)) (hi : P.info? e = some i) (hz : i.zero = some z)
    (hsize : i.size = 1) (hby : i.bytes = 8) (hzs : z.cells.size = 1) (v : Value) (n : Nat) (hp : Pa w B e v n)
    (ad : Addr) (c : Nat) (u : Value) (hu : w.cell? ad = some u) (h1 : u.oneCell' = true) (hn : n ≤ 1000000) (hB : B ≤ w.heap.size) :
    ∃ g cap w', (Builtin.append_ #[t, t] ty #[v, .slice (some ad) 1 c]).run P w = .ok (.slice (some ⟨g, 0, none⟩) (n + 1) cap) w' ∧ PkA w w' B e v n g cap := by
  obtain ⟨xs, hown, hxs⟩ := hp
  have hnews : ∀ j y, [u][j]? = some y → w.cell? (ad.add j) = some y := fun j y hy => by
    cases j with
    | zero => simp at hy; subst hy; exact hu
    | succ j => simp at hy
  have hone : ∀ y ∈ [u], y.oneCell' = true := fun y hy => by rcases List.mem_singleton.1 hy with rfl; exact h1
  have hall : ∀ y ∈ xs ++ [u], y.oneCell' = true := fun y hy => by
    rcases List.mem_append.1 hy with h | h
    · exact hxs y h
    · exact hone y h
  obtain ⟨v', w', hr, h2, h3, h4, h5⟩ := run_append_own_at (P := P) w B t ty e i z 1 8 ht hi hz hsize hby hzs (by decide) v n xs hown ad 1 c [u] rfl hnews hone (by unfold maxLen; omega) (by omega) hB
  obtain ⟨g, cap, rfl, hBg, hlt⟩ := h2.form (by omega)
  have key : (v.ownBlock ≠ some g → Pa w' B e v n) ∧ (v.ownBlock = some g → v = .slice (some ⟨g, 0, none⟩) n cap) := by
    rcases hown.2 with ⟨rfl, rfl⟩ | ⟨g0, cap0, cur, rfl, hb0, hg0, hnc, hcm, hcs, htake⟩
    · exact ⟨fun _ => Pa.nil _ _ _, fun h => by cases h⟩
    · by_cases hroom : n + 1 ≤ cap0
      · have hr2 := run_append_room (P := P) w t ty e i ht hi g0 n cap0 cur hg0 ad 1 c [u] (by rw [hsize]; rfl) hnews hone hroom (by rw [hsize, hcs]; simp; omega)
        rw [hr] at hr2
        injection hr2 with e1 e2
        injection e1 with e1 _ e3
        injection e1 with e1
        injection e1 with e1
        subst e1 e3
        exact ⟨fun h => absurd rfl h, fun _ => rfl⟩
      · have holds : ∀ j y, xs[j]? = some y → w.cell? ((⟨g0, 0, none⟩ : Addr).add j) = some y := hown.cells (g := g0) rfl
        have hr2 := run_append_grow (P := P) w t ty e i z ht hi hz ⟨g0, 0, none⟩ n cap0 xs (by rw [hsize]; exact hown.1) holds ad 1 c [u] (by rw [hsize]; rfl) hnews (by omega) (by omega) (growslice_fits (by omega) (by rw [hby]; omega))
        rw [hr] at hr2
        injection hr2 with e1 e2
        injection e1 with e1 _ e3
        injection e1 with e1
        injection e1 with e1
        have hlt0 : g0 < w.heap.size := (Array.getElem?_eq_some_iff.1 hg0).1
        refine ⟨fun _ => ?_, fun h => ?_⟩
        · refine Pa.block (w := w) ⟨xs, hown, hxs⟩ (fun k hk => ?_)
          have : g0 = k := by simpa [Value.ownBlock] using hk
          subst this
          rw [e2]
          exact Below.heap_alloc w.drew _ g0 hlt0
        · have : g0 = g := by simpa [Value.ownBlock] using h
          omega
  refine ⟨g, cap, w', hr, ⟨⟨_, h2, hall⟩, key.1, key.2, h3, ?_, hlt⟩⟩
  · rcases h5 with h5 | h5
    · exact .inl h5.symm
    · right
      simpa [Value.ownBlock] using h5
theorem wp_append_path (w : World) {o : Oper} {a : Act} {K : Act → World → Prop} {Q : Exit → Act → World → Prop} (s x : Operand) (t : TypeId)
    (ho : o.op = .call { callee := .builtin .append, args := #[s, x], argTypes := #[t, t] })
    (B : Nat) (e : TypeId) (i : TypeInfo) (z : Value) (ht : P.underlying t = some (.slice e)) (hi : P.info? e = some i) (hz : i.zero = some z)
    (hsize : i.size = 1) (hby : i.bytes = 8) (hzs : z.cells.size = 1) (v : Value) (n : Nat) (hs : a.eval s = v) (hp : Pa w B e v n)
    (ad : Addr) (c : Nat) (u : Value) (hx : a.eval x = .slice (some ad) 1 c) (hu : w.cell? ad = some u) (h1 : u.oneCell' = true) (hn : n ≤ 1000000) (hB : B ≤ w.heap.size)
    (h : ∀ g cap w', PkA w w' B e v n g cap → K (a.put o.dst (.slice (some ⟨g, 0, none⟩) (n + 1) cap)) w') : o.wp P a w K Q := by
  obtain ⟨g, cap, w', hr, h2⟩ := run_append_path (P := P) w B t o.type e i z ht hi hz hsize hby hzs v n hp ad c u hu h1 hn hB
  unfold Oper.wp execOp
  simp only [ho, resolve, invoke, builtin, Sem.run_bind, Sem.run_pure, Result.andThen_ok, List.map_toArray, List.map_cons, List.map_nil, hs, hx, hr]
  exact h g cap w' h2
theorem wpList_append_path (w : World) {ops : Array Oper} {rest : List Oper} {o : Oper} {a : Act} {Q : Exit → Act → World → Prop} (hgd : o.guard = none) (s x : Operand) (t : TypeId)
    (ho : o.op = .call { callee := .builtin .append, args := #[s, x], argTypes := #[t, t] })
    (B : Nat) (e : TypeId) (i : TypeInfo) (z : Value) (ht : P.underlying t = some (.slice e)) (hi : P.info? e = some i) (hz : i.zero = some z)
    (hsize : i.size = 1) (hby : i.bytes = 8) (hzs : z.cells.size = 1) (v : Value) (n : Nat) (hs : a.eval s = v) (hp : Pa w B e v n)
    (ad : Addr) (c : Nat) (u : Value) (hx : a.eval x = .slice (some ad) 1 c) (hu : w.cell? ad = some u) (h1 : u.oneCell' = true) (hn : n ≤ 1000000) (hB : B ≤ w.heap.size)
    (h : ∀ g cap w', PkA w w' B e v n g cap → wpList P ops Q rest (a.put o.dst (.slice (some ⟨g, 0, none⟩) (n + 1) cap)) w') : wpList P ops Q (o :: rest) a w :=
  wpList_plain hgd fun _ hK => wp_append_path w s x t ho B e i z ht hi hz hsize hby hzs v n hs hp ad c u hx hu h1 hn hB fun g cap w' h2 => hK _ _ (h g cap w' h2)
theorem step_append_path (w : World) {ops : Array Oper} {o : Oper} {a : Act} {K : Act → World → Prop} {Q : Exit → Act → World → Prop} {E : Prop} (hgd : o.guard = none) (s x : Operand) (t : TypeId)
    (ho : o.op = .call { callee := .builtin .append, args := #[s, x], argTypes := #[t, t] })
    (B : Nat) (e : TypeId) (i : TypeInfo) (z : Value) (ht : P.underlying t = some (.slice e)) (hi : P.info? e = some i) (hz : i.zero = some z)
    (hsize : i.size = 1) (hby : i.bytes = 8) (hzs : z.cells.size = 1) (v : Value) (n : Nat) (hs : a.eval s = v) (hp : Pa w B e v n)
    (ad : Addr) (c : Nat) (u : Value) (hx : a.eval x = .slice (some ad) 1 c) (hu : w.cell? ad = some u) (h1 : u.oneCell' = true) (hn : n ≤ 1000000) (hB : B ≤ w.heap.size)
    (h : ∀ g cap w', PkA w w' B e v n g cap → K (a.put o.dst (.slice (some ⟨g, 0, none⟩) (n + 1) cap)) w') :
    if Region.wanted o (yielded ops a.tmps) = true then Oper.wp P o a w K Q else E := by
  have hw : Region.wanted o (yielded ops a.tmps) = true := by simp [Region.wanted, hgd]
  rw [if_pos hw]
  exact wp_append_path w s x t ho B e i z ht hi hz hsize hby hzs v n hs hp ad c u hx hu h1 hn hB h
end
end
end Go.Proofs.YtihnfhhopldllaaGreatDoor
