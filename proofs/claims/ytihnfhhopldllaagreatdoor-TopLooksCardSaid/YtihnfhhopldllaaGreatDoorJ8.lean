/- Parts of the proof of TopLooks: U10, U11, U12, U13. No condition. -/
import Derived.Test.YtihnfhhopldllaaGreatDoorJ1
import Derived.Test.YtihnfhhopldllaaGreatDoorJ7
namespace Go.Proofs.YtihnfhhopldllaaGreatDoor
set_option linter.unusedSimpArgs false
set_option linter.unusedVariables false
set_option maxHeartbeats 6400000
set_option maxRecDepth 100000
section
open Go.RowKit
theorem isJ_form {Q : Nat → Prop} {w : World} {k : Nat} {t : Ro} {v : Value} (h : Is .J Q w k t v) : ∃ ad c, v = .agg #[.int .i64 t.o.kind, .string (bs t.o.text), .slice ad t.kids.length c] := by
  obtain ⟨bv, s, rfl, _, hk⟩ := h
  obtain ⟨ad, c, rfl⟩ := hk.slice
  exact ⟨ad, c, rfl⟩
theorem jO_one {w : World} {B g k : Nat} {nm : List UInt8} {j : Ro} {ad : Option Addr} {c : Nat} {T : TypeId} (hB : B ≤ g) (h : w.heap[g]? = some (.cells #[.string (bs nm), .int .i64 j.o.kind, .string (bs j.o.text), .slice ad j.kids.length c] T (0, 0)))
    (hj : Is .J (fun b => B ≤ b) w k j (.agg #[.int .i64 j.o.kind, .string (bs j.o.text), .slice ad j.kids.length c])) : Is .J (fun b => B ≤ b) w (k + 1) (jO [(nm, j)]) (.agg #[.int .i64 7, .string { data := #[] }, .slice (some ⟨g, 0, none⟩) 1 1]) := by
  obtain ⟨bv, s, hv, _, hk⟩ := hj
  have hs : s = .slice ad j.kids.length c := by
    have := congrArg (fun v => match v with | .agg a => a.toList[2]? | _ => none) hv
    simp [Lay.cells] at this
    exact this.symm
  subst hs
  refine ⟨.slice none 0 0, .slice (some ⟨g, 0, none⟩) 1 1, rfl, True.intro, _, _, rfl, fun i n x hi => ?_⟩
  cases i with
  | succ i => cases hi
  | zero =>
    have e : (nm, j) = (n, x) := Option.some.inj hi
    injection e with e1 e2
    subst e1 e2
    refine ⟨g, 0, .slice none 0 0, _, rfl, hB, (Array.getElem?_eq_some_iff.1 h).1, fun i v hv => ?_, True.intro, hk⟩
    rw [cell_of_row _ g _ _ _ _ h]
    simpa [Lay.row, Lay.cells] using hv
theorem cstr_any (s : ByteArray) (w : World) : Calls Tryz.prog 180 #[.string s] w fun e w' => e = .returned (.agg #[.int .i64 5, .string s, .slice none 0 0]) ∧ Below w.heap.size w w' := by
  go_enter Tryz.func180, Tryz.ntmps180
  go_wp2_with fail
  refine bodyPost_ret (v := .agg #[.int .i64 5, .string s, .slice none 0 0]) (by simp (maxDischargeDepth := 3) [results, Tryz.results180, go_sem]) rfl ?_
  exact ⟨rfl, bel⟩
theorem cone_any (nm : List UInt8) (j : Ro) (k : Nat) (jv : Value) (B : Nat) (w : World) (hj : Is .J (fun b => B ≤ b) w k j jv) (hB : B ≤ w.heap.size) :
    Calls Tryz.prog 177 #[.string (bs nm), jv] w fun e w' => (∃ v, e = .returned v ∧ Is .J (fun b => B ≤ b) w' (k + 1) (jO [(nm, j)]) v) ∧ Below w.heap.size w w' := by
  obtain ⟨ad, c, rfl⟩ := isJ_form hj
  have HP : Hid (∀ w', w'.heap[w.heap.size + 2]? = some (.cells #[.string (bs nm), .int .i64 j.o.kind, .string (bs j.o.text), .slice ad j.kids.length c] 166 (0, 0)) → Below w.heap.size w w' → Is .J (fun b => B ≤ b) w' (k + 1) (jO [(nm, j)]) (.agg #[.int .i64 7, .string { data := #[] }, .slice (some ⟨w.heap.size + 2, 0, none⟩) 1 1])) := Lib.hid (fun w' h hb => jO_one (by omega) h (hj.beyond hb))
  clear hj
  generalize bs nm = N at *
  generalize j.o.kind = KD at *
  generalize bs j.o.text = TX at *
  generalize j.kids.length = L at *
  go_enter Tryz.func177, Tryz.ntmps177
  go_wp2_with fail
  refine bodyPost_ret (v := .agg #[.int .i64 7, .string { data := #[] }, .slice (some ⟨w.heap.size + 2, 0, none⟩) 1 1]) (by simp (maxDischargeDepth := 3) [results, Tryz.results177, go_sem]) rfl ?_
  have hb : Below w.heap.size w _ := (((Below.refl w.heap.size w).alloc (Nat.le_refl _) (.cells #[.int .i64 KD, .string TX, .slice ad L c] 77)).alloc (by simp) (.cells #[.int .i64 7, .string { data := #[] }, .slice (some ⟨w.heap.size + 1 + 1, 0, none⟩) 1 1] 77)).alloc (by simp; omega) (.cells #[.string N, .int .i64 KD, .string TX, .slice ad L c] 166)
  refine ⟨⟨_, rfl, HP.out _ ?_ hb⟩, hb⟩
  refine Eq.trans (congrArg _ ?_) (heap_alloc_last ((w.alloc (.cells #[.int .i64 KD, .string TX, .slice ad L c] 77)).alloc (.cells #[.int .i64 7, .string { data := #[] }, .slice (some ⟨w.heap.size + 1 + 1, 0, none⟩) 1 1] 77)) _)
  simp
theorem xone_any (nm : List UInt8) (j : Ro) (k : Nat) (jv : Value) (B : Nat) (w : World) (hj : Is .J (fun b => B ≤ b) w k j jv) (hB : B ≤ w.heap.size) :
    Calls Tryz.prog 187 #[.string (bs nm), jv] w fun e w' => (∃ v, e = .returned v ∧ Is .J (fun b => B ≤ b) w' (k + 1) (jO [(nm, j)]) v) ∧ Below w.heap.size w w' := by
  obtain ⟨ad, c, rfl⟩ := isJ_form hj
  have HP : Hid (∀ w', w'.heap[w.heap.size + 2]? = some (.cells #[.string (bs nm), .int .i64 j.o.kind, .string (bs j.o.text), .slice ad j.kids.length c] 166 (0, 0)) → Below w.heap.size w w' → Is .J (fun b => B ≤ b) w' (k + 1) (jO [(nm, j)]) (.agg #[.int .i64 7, .string { data := #[] }, .slice (some ⟨w.heap.size + 2, 0, none⟩) 1 1])) := Lib.hid (fun w' h hb => jO_one (by omega) h (hj.beyond hb))
  clear hj
  generalize bs nm = N at *
  generalize j.o.kind = KD at *
  generalize bs j.o.text = TX at *
  generalize j.kids.length = L at *
  go_enter Tryz.func187, Tryz.ntmps187
  go_wp2_with fail
  refine bodyPost_ret (v := .agg #[.int .i64 7, .string { data := #[] }, .slice (some ⟨w.heap.size + 2, 0, none⟩) 1 1]) (by simp (maxDischargeDepth := 3) [results, Tryz.results187, go_sem]) rfl ?_
  have hb : Below w.heap.size w _ := (((Below.refl w.heap.size w).alloc (Nat.le_refl _) (.cells #[.int .i64 KD, .string TX, .slice ad L c] 77)).alloc (by simp) (.cells #[.int .i64 7, .string { data := #[] }, .slice (some ⟨w.heap.size + 1 + 1, 0, none⟩) 1 1] 77)).alloc (by simp; omega) (.cells #[.string N, .int .i64 KD, .string TX, .slice ad L c] 166)
  refine ⟨⟨_, rfl, HP.out _ ?_ hb⟩, hb⟩
  refine Eq.trans (congrArg _ ?_) (heap_alloc_last ((w.alloc (.cells #[.int .i64 KD, .string TX, .slice ad L c] 77)).alloc (.cells #[.int .i64 7, .string { data := #[] }, .slice (some ⟨w.heap.size + 1 + 1, 0, none⟩) 1 1] 77)) _)
  simp
end
section
open Go.RowKit
theorem dgs_dec {n : Nat} (h : n < 100) : dgs n = Lib.decDigits n := by
  unfold dgs
  split
  · rename_i h0
    rw [Lib.decDigits_one h0]
    try rfl
  · rename_i h0
    rw [Lib.decDigits, dif_neg h0, Lib.decDigits_one (by omega)]
    try rfl
theorem str_ne {a b : ByteArray} (h : ¬ a = b) : (a.toList == b.toList) = false := by
  rw [ByteArray.toList_eq, ByteArray.toList_eq, beq_eq_false_iff_ne]
  intro e
  exact h (ByteArray.ext (Array.toList_inj.1 e))
theorem reg_at : ∀ (l : KL) (n : Nat), reg n l = true ↔ ∀ (i : Nat) (x : List UInt8 × Ro), l[i]? = some x → x.1 = dgs (n + i)
  | [], n => by simp [reg]
  | y :: l, n => by
    rw [reg, Bool.and_eq_true, beq_iff_eq, reg_at l (n + 1)]
    refine ⟨fun h i x hx => ?_, fun h => ⟨?_, fun i x hx => ?_⟩⟩
    · cases i with
      | zero =>
        simp at hx
        subst hx
        exact h.1
      | succ i =>
        simp at hx
        rw [h.2 i x hx]
        congr 1
        omega
    · exact h 0 y rfl
    · have := h (i + 1) x (by simpa using hx)
      rw [this]
      congr 1
      omega
theorem regular_any (k : Nat) (l : KL) (hl : l.length ≤ 20) (Q : Nat → Prop) (ad : Option Addr) (m c : Nat) (hm : l.length = m) (w : World) (hk : Kd .V Q w (k + 1) l (.slice ad m c)) :
    Calls Tryz.prog 178 #[.slice ad m c] w fun e w' => e = .returned (.bool (reg 0 l)) ∧ Below w.heap.size w w' := by
  have HK := Lib.hid hk
  have HM := Lib.hid hm
  have hm20 : m ≤ 20 := by omega
  obtain ⟨R, hR⟩ : ∃ R, reg 0 l = R := ⟨_, rfl⟩
  rw [hR]
  have HR := Lib.hid hR
  clear hk hm hl hR
  go_enter Tryz.func178, Tryz.ntmps178
  go_wp2_with fail
  go_loopw [7] (fun x wr => ∃ K, K ≤ m ∧ x = .int .i64 K ∧ Hid (∀ i, i < K → ∀ x, l[i]? = some x → x.1 = dgs i) ∧ Below w.heap.size w wr) (fun x _ => m - (intOf x).toNat)
  case atStart => exact ⟨0, by omega, rfl, Lib.hid (fun i hi => by omega), Below.refl _ _⟩
  case round =>
    obtain ⟨K, hK, rfl, HV, hw⟩ := hrel
    have hzw := hw.size
    by_cases hKm : K < m
    · obtain ⟨⟨kn, kx⟩, hkx⟩ : ∃ x, l[K]? = some x := ⟨_, List.getElem?_eq_getElem (by have := HM.out; omega)⟩
      obtain ⟨b, o, bv, s, rfl, hqb, hbl, hra, hby, hkd⟩ := HK.out.at hkx
      have hblk : wr.heap[b]? = w.heap[b]? := hw.block b hbl
      obtain ⟨sd, sc, rfl⟩ := hkd.slice
      obtain ⟨bd2, bc2, rfl, hbb⟩ := hby
      obtain ⟨r0, r1, r2, r3, r4, r5, r6, r7, r8, r9⟩ := rowV (rangeAt_block hblk hra)
      have IT := Lib.hid (fun w => Tryz.strconv_Itoa_small K (by omega) w)
      have HKX := Lib.hid hkx
      obtain ⟨V0, hV0⟩ : ∃ x, bs kn = x := ⟨_, rfl⟩
      obtain ⟨D0, hD0⟩ : ∃ x : ByteArray, ⟨(Lib.decDigits K).toArray⟩ = x := ⟨_, rfl⟩
      rw [hV0] at r0
      rw [hD0] at IT
      have HE : Hid (V0 = D0 ↔ kn = dgs K) := Lib.hid (by
        rw [← hV0, ← hD0, dgs_dec (by omega)]
        exact ⟨fun h => bs_inj h, fun h => by rw [h]; rfl⟩)
      generalize kx.o.kind = V1 at *
      generalize kx.o.bits = V2 at *
      generalize kx.o.high = V3 at *
      generalize kx.o.low = V4 at *
      generalize bs kx.o.text = V5 at *
      generalize bs kx.o.more = V6 at *
      generalize kx.o.sub = V7 at *
      generalize kx.o.bytes.length = V8 at *
      generalize kx.kids.length = V9 at *
      clear hra hkd hbb hblk hkx hV0 hD0
      by_cases he : V0 = D0
      · have hn := HE.out.1 he
        have HV2 : Hid (∀ i, i < K + 1 → ∀ x, l[i]? = some x → x.1 = dgs i) := Lib.hid (fun i hi x hx => by
          rcases Nat.lt_or_eq_of_le (Nat.le_of_lt_succ hi) with h | h
          · exact HV.out i h x hx
          · subst h
            rw [HKX.out] at hx
            injection hx with hx
            subst hx
            exact hn)
        subst he
        clear hn
        go_upto_region 4 with fail
        clear r0 r1 r2 r3 r4 r5 r6 r7 r8 r9
        go_quiet (first | (go_at_call 197; refine Calls.quiet_of ((IT.out _).mono (fun e w' h => ⟨h.1, 0, h.2⟩))))
        go_wp2_with fail
        go_roundw
        case rel => exact ⟨K + 1, by omega, by go_num, HV2, bel⟩
        case measure => simp [intOf]; omega
      · have hne : (V0.toList == D0.toList) = false := str_ne he
        have hr : R = false := by
          rw [← HR.out, Bool.eq_false_iff]
          intro h
          have := (reg_at l 0).1 h K _ HKX.out
          rw [Nat.zero_add] at this
          exact he (HE.out.2 this)
        subst hr
        go_upto_region 4 with fail
        clear r0 r1 r2 r3 r4 r5 r6 r7 r8 r9
        go_quiet (first | (go_at_call 197; refine Calls.quiet_of ((IT.out _).mono (fun e w' h => ⟨h.1, 0, h.2⟩))))
        go_wp2_with fail
        go_ret
        exact ⟨rfl, bel⟩
    · have hKe : K = m := by omega
      subst hKe
      have hr : R = true := by
        rw [← HR.out]
        refine (reg_at l 0).2 (fun i x hx => ?_)
        have hl := (List.getElem?_eq_some_iff.1 hx).1
        rw [Nat.zero_add]
        exact HV.out i (by have := HM.out; omega) x hx
      subst hr
      go_wp2_with fail
      go_ret
      exact ⟨rfl, hw⟩
end
section
open Go.RowKit
theorem cnumber_2 (T : ByteArray) (bd : Option Addr) (bc : Nat) (ad : Option Addr) (c : Nat) (w : World) : Calls Tryz.prog 182 #[.agg #[.int .i64 2, .int .u64 0, .int .u64 0, .int .u64 0, .string T, .string { data := #[] }, .int .i64 0, .slice bd 0 bc, .slice ad 0 c]] w fun e w' => e = .returned (.tuple #[.agg #[.int .i64 0, .string { data := #[] }, .slice none 0 0], .bool false]) ∧ Below w.heap.size w w' := by
  go_enter Tryz.func182, Tryz.ntmps182
  go_wp2_with fail
  refine bodyPost_ret (v := .tuple #[.agg #[.int .i64 0, .string { data := #[] }, .slice none 0 0], .bool false]) (by simp (maxDischargeDepth := 3) [results, Tryz.results182, go_sem]) rfl ?_
  exact ⟨rfl, bel⟩
theorem ctext_2 (T : ByteArray) (bd : Option Addr) (bc : Nat) (ad : Option Addr) (c : Nat) (w : World) : Calls Tryz.prog 183 #[.agg #[.int .i64 2, .int .u64 0, .int .u64 0, .int .u64 0, .string T, .string { data := #[] }, .int .i64 0, .slice bd 0 bc, .slice ad 0 c]] w fun e w' => e = .returned (.agg #[.int .i64 5, .string T, .slice none 0 0]) ∧ Below w.heap.size w w' := by
  have H := Lib.hid (cstr_any T)
  go_enter Tryz.func183, Tryz.ntmps183
  go_wp2_with fail
  with_reducible refine (H.out _).mono ?_
  rintro e w1 ⟨rfl, hb1⟩
  obtain ⟨c1_0, f1_0⟩ := cf hb1 (w.heap.size + 1) 0 (.int .i64 0)
  obtain ⟨c1_1, f1_1⟩ := cf hb1 (w.heap.size + 1) 1 (.string { data := #[] })
  obtain ⟨c1_2, f1_2⟩ := cf hb1 (w.heap.size + 1) 2 (.slice none 0 0)
  have hl1_0 := ltB hb1 (w.heap.size + 1)
  have hw1 := bwB hb1 w.heap.size w
  have hz1 := hw1.size
  clear hb1
  go_wp2_with fail
  trace_state
  refine bodyPost_ret (v := .agg #[.int .i64 5, .string T, .slice none 0 0]) (by simp (maxDischargeDepth := 3) [results, Tryz.results183, go_sem, c1_0, c1_1, c1_2, f1_0, f1_1, f1_2]) rfl ?_
  exact ⟨rfl, bel⟩
end
section
open Go.RowKit
theorem cvalue_2 (T : ByteArray) (bd : Option Addr) (bc : Nat) (ad : Option Addr) (c : Nat) (w : World) : Calls Tryz.prog 106 #[.agg #[.int .i64 2, .int .u64 0, .int .u64 0, .int .u64 0, .string T, .string { data := #[] }, .int .i64 0, .slice bd 0 bc, .slice ad 0 c]] w fun e w' => e = .returned (.agg #[.int .i64 5, .string T, .slice none 0 0]) ∧ Below w.heap.size w w' := by
  have H1 := Lib.hid (cnumber_2 T bd bc ad c)
  have H2 := Lib.hid (ctext_2 T bd bc ad c)
  go_enter Tryz.func106, Tryz.ntmps106
  go_wp2_with fail
  with_reducible refine (H1.out _).mono ?_
  rintro e w1 ⟨rfl, hb1⟩
  obtain ⟨c1_0, f1_0⟩ := cf hb1 w.heap.size 0 (.int .i64 2)
  obtain ⟨c1_1, f1_1⟩ := cf hb1 w.heap.size 1 (.int .u64 0)
  obtain ⟨c1_2, f1_2⟩ := cf hb1 w.heap.size 2 (.int .u64 0)
  obtain ⟨c1_3, f1_3⟩ := cf hb1 w.heap.size 3 (.int .u64 0)
  obtain ⟨c1_4, f1_4⟩ := cf hb1 w.heap.size 4 (.string T)
  obtain ⟨c1_5, f1_5⟩ := cf hb1 w.heap.size 5 (.string { data := #[] })
  obtain ⟨c1_6, f1_6⟩ := cf hb1 w.heap.size 6 (.int .i64 0)
  obtain ⟨c1_7, f1_7⟩ := cf hb1 w.heap.size 7 (.slice bd 0 bc)
  obtain ⟨c1_8, f1_8⟩ := cf hb1 w.heap.size 8 (.slice ad 0 c)
  obtain ⟨c1_9, f1_9⟩ := cf hb1 (w.heap.size + 1) 0 (.int .i64 0)
  obtain ⟨c1_10, f1_10⟩ := cf hb1 (w.heap.size + 1) 1 (.string { data := #[] })
  obtain ⟨c1_11, f1_11⟩ := cf hb1 (w.heap.size + 1) 2 (.slice none 0 0)
  have hl1_0 := ltB hb1 w.heap.size
  have hl1_1 := ltB hb1 (w.heap.size + 1)
  have hw1 := bwB hb1 w.heap.size w
  have hz1 := hw1.size
  clear hb1
  go_wp2_with fail
  with_reducible refine (H2.out _).mono ?_
  rintro e w2 ⟨rfl, hb2⟩
  obtain ⟨c2_0, f2_0⟩ := cf hb2 w.heap.size 0 (.int .i64 2)
  obtain ⟨c2_1, f2_1⟩ := cf hb2 w.heap.size 1 (.int .u64 0)
  obtain ⟨c2_2, f2_2⟩ := cf hb2 w.heap.size 2 (.int .u64 0)
  obtain ⟨c2_3, f2_3⟩ := cf hb2 w.heap.size 3 (.int .u64 0)
  obtain ⟨c2_4, f2_4⟩ := cf hb2 w.heap.size 4 (.string T)
  obtain ⟨c2_5, f2_5⟩ := cf hb2 w.heap.size 5 (.string { data := #[] })
  obtain ⟨c2_6, f2_6⟩ := cf hb2 w.heap.size 6 (.int .i64 0)
  obtain ⟨c2_7, f2_7⟩ := cf hb2 w.heap.size 7 (.slice bd 0 bc)
  obtain ⟨c2_8, f2_8⟩ := cf hb2 w.heap.size 8 (.slice ad 0 c)
  obtain ⟨c2_9, f2_9⟩ := cf hb2 (w.heap.size + 1) 0 (.int .i64 0)
  obtain ⟨c2_10, f2_10⟩ := cf hb2 (w.heap.size + 1) 1 (.string { data := #[] })
  obtain ⟨c2_11, f2_11⟩ := cf hb2 (w.heap.size + 1) 2 (.slice none 0 0)
  have hl2_0 := ltB hb2 w.heap.size
  have hl2_1 := ltB hb2 (w.heap.size + 1)
  have hw2 := bwB hb2 w.heap.size w
  have hz2 := hw2.size
  clear hb2
  go_wp2_with fail
  refine bodyPost_ret (v := .agg #[.int .i64 5, .string T, .slice none 0 0]) (by simp (maxDischargeDepth := 3) [results, Tryz.results106, go_sem, c2_9, c2_10, c2_11, f2_9, f2_10, f2_11]) rfl ?_
  exact ⟨rfl, bel⟩
end
end Go.Proofs.YtihnfhhopldllaaGreatDoor
