/- Parts of the proof of TopLooks: U67. No condition. -/
import Derived.Test.YtihnfhhopldllaaGreatDoorJ1
import Derived.Test.YtihnfhhopldllaaGreatDoorJ12
import Derived.Test.YtihnfhhopldllaaGreatDoorJ18
namespace Go.Proofs.YtihnfhhopldllaaGreatDoor
set_option linter.unusedSimpArgs false
set_option linter.unusedVariables false
set_option maxHeartbeats 6400000
set_option maxRecDepth 100000
section
open Go.RowKit
def RcV (B k : Nat) (nm : List UInt8) (t : Ro) : Prop := ∀ (Q : Nat → Prop) (n : Nat) (w : World) (v p : Value), Is .V Q w k t v → Pa w B 3 p n → B ≤ w.heap.size → n + k ≤ 900 → Calls Tryz.prog 37 #[v, .string (bs nm), p] w fun e w' => (∃ qa qn qc, e = .returned (.tuple #[.slice qa qn qc, .int .i64 (if okT k nm t = true then 0 else 4)])) ∧ Below w.heap.size w w'
theorem rck_lv (k : Nat) (l : KL) (hl : l.length ≤ 20) (O1 O2 O3 O4 O7 : Int) (O5 O6 : ByteArray) (O8 : Nat) (bd ad : Option Addr) (bc m c : Nat) (hm : l.length = m) (Q : Nat → Prop) (w : World) (hk : Kd .V Q w (k + 1) l (.slice ad m c)) (B : Nat) (p : Value) (n : Nat) (hn : n ≤ 900) (hn2 : m = 0 ∨ n + (k + 1) ≤ 900) (hp : Pa w B 3 p n) (hB : B ≤ w.heap.size) (nm : List UInt8) (hnm : nm.length ≤ 200) (b0 : Bool)
    (hO : ∀ w, Calls Tryz.prog 65 #[.agg #[.int .i64 O1, .int .u64 O2, .int .u64 O3, .int .u64 O4, .string O5, .string O6, .int .i64 O7, .slice bd O8 bc, .slice ad m c]] w fun e w' => e = .returned (.int .i64 (if b0 = true then 0 else 4)) ∧ Below w.heap.size w w') (ih : ∀ x ∈ l, RcV B k x.1 x.2) :
    Calls Tryz.prog 37 #[.agg #[.int .i64 O1, .int .u64 O2, .int .u64 O3, .int .u64 O4, .string O5, .string O6, .int .i64 O7, .slice bd O8 bc, .slice ad m c], .string (bs nm), p] w fun e w' => (∃ qa qn qc, e = .returned (.tuple #[.slice qa qn qc, .int .i64 (if (b0 && decide (Nm nm) && l.all fun x => okT k x.1 x.2) = true then 0 else 4)])) ∧ Below w.heap.size w w' := by
  have HK := Lib.hid hk
  have HM := Lib.hid hm
  have HP := Lib.hid hp
  have HL := Lib.hid (fun (w' : World) (z : Int) (h : Pa w' B 3 p n) (hB : B ≤ w'.heap.size) => longer_any p n B z w' h hB (by omega))
  have HI : Hid (∀ x ∈ l, ∀ (Q : Nat → Prop) (n : Nat) (w : World) (v p : Value), Is .V Q w k x.2 v → Pa w B 3 p n → B ≤ w.heap.size → n + k ≤ 900 → Calls Tryz.prog 37 #[v, .string (bs x.1), p] w fun e w' => (∃ qa qn qc, e = .returned (.tuple #[.slice qa qn qc, .int .i64 (if okT k x.1 x.2 = true then 0 else 4)])) ∧ Below w.heap.size w w') := Lib.hid ih
  have hm20 : m ≤ 20 := by omega
  obtain ⟨pa, pc, rfl⟩ := hp.form
  have HN : ∀ w, Calls Tryz.prog 66 #[.string (bs nm)] w fun e w' => e = .returned (.bool (decide (Nm nm))) ∧ Below w.heap.size w w' := fun w => named_any (bs nm) (by rw [bs_size]; omega) w
  obtain ⟨N, hN⟩ : ∃ N, bs nm = N := ⟨_, rfl⟩
  rw [hN] at HN ⊢
  obtain ⟨R, hR⟩ : ∃ R, (l.all fun x => okT k x.1 x.2) = R := ⟨_, rfl⟩
  rw [hR]
  have HR := Lib.hid hR
  clear hk hm hl hR hp ih hN
  cases b0
  · have HO : Hid (∀ w, Calls Tryz.prog 65 #[.agg #[.int .i64 O1, .int .u64 O2, .int .u64 O3, .int .u64 O4, .string O5, .string O6, .int .i64 O7, .slice bd O8 bc, .slice ad m c]] w fun e w' => e = .returned (.int .i64 4) ∧ Below w.heap.size w w') := Lib.hid hO
    show Calls _ _ _ _ (fun e w' => (∃ qa qn qc, e = .returned (.tuple #[.slice qa qn qc, .int .i64 4])) ∧ Below w.heap.size w w')
    clear hO HN
    go_enter Tryz.func37, Tryz.ntmps37
    go_wp2_with fail
    with_reducible refine (HO.out _).mono ?_
    rintro e w1 ⟨rfl, hb1⟩
    have c1_0 := cB hb1 w.heap.size 8 (.slice ad m c)
    have hl1_0 := ltB hb1 w.heap.size
    have hw1 := bwB hb1 w.heap.size w
    have hz1 := hw1.size
    clear hb1
    go_wp2_with fail
    go_ret2
    exact ⟨⟨_, _, _, rfl⟩, bel⟩
  · have HO : Hid (∀ w, Calls Tryz.prog 65 #[.agg #[.int .i64 O1, .int .u64 O2, .int .u64 O3, .int .u64 O4, .string O5, .string O6, .int .i64 O7, .slice bd O8 bc, .slice ad m c]] w fun e w' => e = .returned (.int .i64 0) ∧ Below w.heap.size w w') := Lib.hid hO
    clear hO
    cases h2 : decide (Nm nm)
    · rw [h2] at HN
      have HN := Lib.hid HN
      show Calls _ _ _ _ (fun e w' => (∃ qa qn qc, e = .returned (.tuple #[.slice qa qn qc, .int .i64 4])) ∧ Below w.heap.size w w')
      clear h2
      go_enter Tryz.func37, Tryz.ntmps37
      go_wp2_with fail
      with_reducible refine (HO.out _).mono ?_
      rintro e w1 ⟨rfl, hb1⟩
      have c1_0 := cB hb1 w.heap.size 8 (.slice ad m c)
      have hl1_0 := ltB hb1 w.heap.size
      have hw1 := bwB hb1 w.heap.size w
      have hz1 := hw1.size
      clear hb1
      go_wp2_with fail
      with_reducible refine (HN.out _).mono ?_
      rintro e w2 ⟨rfl, hb2⟩
      have c2_0 := cB hb2 w.heap.size 8 (.slice ad m c)
      have hl2_0 := ltB hb2 w.heap.size
      have hw2 := bwB hb2 w.heap.size w
      have hz2 := hw2.size
      clear hb2
      go_wp2_with fail
      go_ret2
      exact ⟨⟨_, _, _, rfl⟩, bel⟩
    · rw [h2] at HN
      have HN := Lib.hid HN
      show Calls _ _ _ _ (fun e w' => (∃ qa qn qc, e = .returned (.tuple #[.slice qa qn qc, .int .i64 (if R = true then 0 else 4)])) ∧ Below w.heap.size w w')
      clear h2
      go_enter Tryz.func37, Tryz.ntmps37
      go_wp2_with fail
      with_reducible refine (HO.out _).mono ?_
      rintro e w1 ⟨rfl, hb1⟩
      have c1_0 := cB hb1 w.heap.size 8 (.slice ad m c)
      have hl1_0 := ltB hb1 w.heap.size
      have hw1 := bwB hb1 w.heap.size w
      have hz1 := hw1.size
      clear hb1
      go_wp2_with fail
      with_reducible refine (HN.out _).mono ?_
      rintro e w2 ⟨rfl, hb2⟩
      have c2_0 := cB hb2 w.heap.size 8 (.slice ad m c)
      have hl2_0 := ltB hb2 w.heap.size
      have hw2 := bwB hb2 w.heap.size w
      have hz2 := hw2.size
      clear hb2
      go_wp2_with fail
      go_loopw [9] (fun x wr => ∃ K : Nat, K ≤ m ∧ x = .int .i64 K ∧ wr.cell? ⟨w.heap.size, 8, none⟩ = some (.slice ad m c) ∧ w.heap.size < wr.heap.size ∧ Hid (∀ i, i < K → ∀ x, l[i]? = some x → okT k x.1 x.2 = true) ∧ Hid (Below w.heap.size w wr)) (fun x _ => m - (intOf x).toNat)
      case atStart => exact ⟨0, by omega, rfl, c2_0, hl2_0, Lib.hid (fun i hi => by omega), Lib.hid hw2⟩
      case round =>
        obtain ⟨K, hK, rfl, hc8, hz1', HV, HW⟩ := hrel
        have hzw := HW.out.size
        by_cases hKm : K < m
        · obtain ⟨⟨kn, kx⟩, hkx⟩ : ∃ x, l[K]? = some x := ⟨_, List.getElem?_eq_getElem (by have := HM.out; omega)⟩
          obtain ⟨b, o, bv, s, rfl, hqb, hbl, hra, hby, hkd⟩ := HK.out.at hkx
          have hblk : wr.heap[b]? = w.heap[b]? := HW.out.block b hbl
          obtain ⟨sd, sc, rfl⟩ := hkd.slice
          have hby2 := Lib.hid hby
          obtain ⟨bd2, bc2, rfl, hbb⟩ := hby
          obtain ⟨r0, r1, r2, r3, r4, r5, r6, r7, r8, r9⟩ := rowV (rangeAt_block hblk hra)
          have KQ : Hid (∀ w6 : World, Below wr.heap.size wr w6 → Is .V Q w6 k kx (.agg #[.int .i64 kx.o.kind, .int .u64 kx.o.bits, .int .u64 kx.o.high, .int .u64 kx.o.low, .string (bs kx.o.text), .string (bs kx.o.more), .int .i64 kx.o.sub, .slice bd2 kx.o.bytes.length bc2, .slice sd kx.kids.length sc])) := Lib.hid (fun w6 h6 => Is.beyond (w := w) ⟨_, _, rfl, hby2.out, hkd⟩ (HW.out.trans (h6.mono HW.out.size)))
          have HMEM := Lib.hid (List.mem_of_getElem? hkx)
          have HKX := Lib.hid hkx
          have HIx := HI.out _ HMEM.out Q (n + 1)
          obtain ⟨V0, hV0⟩ : ∃ x, bs kn = x := ⟨_, rfl⟩
          obtain ⟨V1, hV1⟩ : ∃ x, kx.o.kind = x := ⟨_, rfl⟩
          obtain ⟨V2, hV2⟩ : ∃ x, kx.o.bits = x := ⟨_, rfl⟩
          obtain ⟨V3, hV3⟩ : ∃ x, kx.o.high = x := ⟨_, rfl⟩
          obtain ⟨V4, hV4⟩ : ∃ x, kx.o.low = x := ⟨_, rfl⟩
          obtain ⟨V5, hV5⟩ : ∃ x, bs kx.o.text = x := ⟨_, rfl⟩
          obtain ⟨V6, hV6⟩ : ∃ x, bs kx.o.more = x := ⟨_, rfl⟩
          obtain ⟨V7, hV7⟩ : ∃ x, kx.o.sub = x := ⟨_, rfl⟩
          obtain ⟨V8, hV8⟩ : ∃ x, kx.o.bytes.length = x := ⟨_, rfl⟩
          obtain ⟨V9, hV9⟩ : ∃ x, kx.kids.length = x := ⟨_, rfl⟩
          rw [hV0] at r0
          rw [hV1] at r1 KQ
          rw [hV2] at r2 KQ
          rw [hV3] at r3 KQ
          rw [hV4] at r4 KQ
          rw [hV5] at r5 KQ
          rw [hV6] at r6 KQ
          rw [hV7] at r7 KQ
          rw [hV8] at r8 KQ
          rw [hV9] at r9 KQ
          clear hra hkd hby2 hbb hblk hkx
          rw [hV0] at HIx
          have HIx := Lib.hid HIx
          clear hV0 hV1 hV2 hV3 hV4 hV5 hV6 hV7 hV8 hV9
          have hb1 : b < wr.heap.size := by omega
          have hn9 : n + (k + 1) ≤ 900 := by omega
          obtain ⟨ro, hro⟩ : ∃ r, okT k kn kx = r := ⟨_, rfl⟩
          simp only [hro] at HIx
          cases ro
          · have hfa : R = false := by
              rw [← HR.out, Bool.eq_false_iff]
              intro h
              rw [List.all_eq_true.1 h _ HMEM.out] at hro
              cases hro
            subst hfa
            replace HIx : Hid (∀ (w : World) (v p : Value), Is .V Q w k kx v → Pa w B 3 p (n + 1) → B ≤ w.heap.size → n + 1 + k ≤ 900 → Calls Tryz.prog 37 #[v, .string V0, p] w fun e w' => (∃ qa qn qc, e = .returned (.tuple #[.slice qa qn qc, .int .i64 4])) ∧ Below w.heap.size w w') := Lib.hid (fun w v p a b c d => HIx.out w v p a b c d)
            clear hro
            go_upto_region 9 with fail
            go_region_held_law (fun W => W.cell? ⟨w.heap.size, 8, none⟩ = some (.slice (some ⟨b, o, none⟩) m c) ∧ W.cell? ⟨b, o + K * 10, none⟩ = some (.string V0) ∧ W.cell? ⟨b, o + K * 10 + 1, none⟩ = some (.int .i64 V1) ∧ W.cell? ⟨b, o + K * 10 + 2, none⟩ = some (.int .u64 V2) ∧ W.cell? ⟨b, o + K * 10 + 3, none⟩ = some (.int .u64 V3) ∧ W.cell? ⟨b, o + K * 10 + 4, none⟩ = some (.int .u64 V4) ∧ W.cell? ⟨b, o + K * 10 + 5, none⟩ = some (.string V5) ∧ W.cell? ⟨b, o + K * 10 + 6, none⟩ = some (.string V6) ∧ W.cell? ⟨b, o + K * 10 + 7, none⟩ = some (.int .i64 V7) ∧ W.cell? ⟨b, o + K * 10 + 8, none⟩ = some (.slice bd2 V8 bc2) ∧ W.cell? ⟨b, o + K * 10 + 9, none⟩ = some (.slice sd V9 sc)) ((refine ⟨?_, ?_, ?_, ?_, ?_, ?_, ?_, ?_, ?_, ?_, ?_⟩; all_goals first | assumption)) (first | (go_at_call 67; go_loud (refine (HL.out _ K ?a1 ?a2).mono ?_; (case a1 => exact HP.out.beyond (by have := HW.out; exact bel)); (case a2 => first | omega | (simp; omega)); rintro e w6 ⟨⟨pv, rfl, hpv⟩, hb6⟩); have HPV := Lib.hid hpv; clear hpv; have hw6 : Below wr.heap.size wr w6 := Below.trans bel (hb6.mono (by first | (simp; done) | (simp; omega))); have hz6 := hw6.size; have y6_0 : w6.cell? ⟨w.heap.size, 8, none⟩ = some (.slice (some ⟨b, o, none⟩) m c) := (hb6.cell (p := ⟨w.heap.size, 8, none⟩) (by first | omega | (simp; omega))).trans (by assumption); have y6_1 : w6.cell? ⟨b, o + K * 10, none⟩ = some (.string V0) := (hb6.cell (p := ⟨b, o + K * 10, none⟩) (by first | omega | (simp; omega))).trans (by assumption); have y6_2 : w6.cell? ⟨b, o + K * 10 + 1, none⟩ = some (.int .i64 V1) := (hb6.cell (p := ⟨b, o + K * 10 + 1, none⟩) (by first | omega | (simp; omega))).trans (by assumption); have y6_3 : w6.cell? ⟨b, o + K * 10 + 2, none⟩ = some (.int .u64 V2) := (hb6.cell (p := ⟨b, o + K * 10 + 2, none⟩) (by first | omega | (simp; omega))).trans (by assumption); have y6_4 : w6.cell? ⟨b, o + K * 10 + 3, none⟩ = some (.int .u64 V3) := (hb6.cell (p := ⟨b, o + K * 10 + 3, none⟩) (by first | omega | (simp; omega))).trans (by assumption); have y6_5 : w6.cell? ⟨b, o + K * 10 + 4, none⟩ = some (.int .u64 V4) := (hb6.cell (p := ⟨b, o + K * 10 + 4, none⟩) (by first | omega | (simp; omega))).trans (by assumption); have y6_6 : w6.cell? ⟨b, o + K * 10 + 5, none⟩ = some (.string V5) := (hb6.cell (p := ⟨b, o + K * 10 + 5, none⟩) (by first | omega | (simp; omega))).trans (by assumption); have y6_7 : w6.cell? ⟨b, o + K * 10 + 6, none⟩ = some (.string V6) := (hb6.cell (p := ⟨b, o + K * 10 + 6, none⟩) (by first | omega | (simp; omega))).trans (by assumption); have y6_8 : w6.cell? ⟨b, o + K * 10 + 7, none⟩ = some (.int .i64 V7) := (hb6.cell (p := ⟨b, o + K * 10 + 7, none⟩) (by first | omega | (simp; omega))).trans (by assumption); have y6_9 : w6.cell? ⟨b, o + K * 10 + 8, none⟩ = some (.slice bd2 V8 bc2) := (hb6.cell (p := ⟨b, o + K * 10 + 8, none⟩) (by first | omega | (simp; omega))).trans (by assumption); have y6_10 : w6.cell? ⟨b, o + K * 10 + 9, none⟩ = some (.slice sd V9 sc) := (hb6.cell (p := ⟨b, o + K * 10 + 9, none⟩) (by first | omega | (simp; omega))).trans (by assumption)) | (go_at_call 37; go_loud (refine (HIx.out _ _ _ (KQ.out _ bel) (HPV.out.beyond bel) ?a3 (by omega)).mono ?_; (case a3 => first | omega | (simp; omega)); rintro e w7 ⟨⟨qa, qn, qc, rfl⟩, hb7⟩); have hw7 : Below wr.heap.size wr w7 := Below.trans bel (hb7.mono (by first | omega | (simp; omega))); have y7_0 : w7.cell? ⟨w.heap.size, 8, none⟩ = some (.slice (some ⟨b, o, none⟩) m c) := (hb7.cell (p := ⟨w.heap.size, 8, none⟩) (by first | omega | (simp; omega))).trans (by assumption); have y7_1 : w7.cell? ⟨b, o + K * 10, none⟩ = some (.string V0) := (hb7.cell (p := ⟨b, o + K * 10, none⟩) (by first | omega | (simp; omega))).trans (by assumption); have y7_2 : w7.cell? ⟨b, o + K * 10 + 1, none⟩ = some (.int .i64 V1) := (hb7.cell (p := ⟨b, o + K * 10 + 1, none⟩) (by first | omega | (simp; omega))).trans (by assumption); have y7_3 : w7.cell? ⟨b, o + K * 10 + 2, none⟩ = some (.int .u64 V2) := (hb7.cell (p := ⟨b, o + K * 10 + 2, none⟩) (by first | omega | (simp; omega))).trans (by assumption); have y7_4 : w7.cell? ⟨b, o + K * 10 + 3, none⟩ = some (.int .u64 V3) := (hb7.cell (p := ⟨b, o + K * 10 + 3, none⟩) (by first | omega | (simp; omega))).trans (by assumption); have y7_5 : w7.cell? ⟨b, o + K * 10 + 4, none⟩ = some (.int .u64 V4) := (hb7.cell (p := ⟨b, o + K * 10 + 4, none⟩) (by first | omega | (simp; omega))).trans (by assumption); have y7_6 : w7.cell? ⟨b, o + K * 10 + 5, none⟩ = some (.string V5) := (hb7.cell (p := ⟨b, o + K * 10 + 5, none⟩) (by first | omega | (simp; omega))).trans (by assumption); have y7_7 : w7.cell? ⟨b, o + K * 10 + 6, none⟩ = some (.string V6) := (hb7.cell (p := ⟨b, o + K * 10 + 6, none⟩) (by first | omega | (simp; omega))).trans (by assumption); have y7_8 : w7.cell? ⟨b, o + K * 10 + 7, none⟩ = some (.int .i64 V7) := (hb7.cell (p := ⟨b, o + K * 10 + 7, none⟩) (by first | omega | (simp; omega))).trans (by assumption); have y7_9 : w7.cell? ⟨b, o + K * 10 + 8, none⟩ = some (.slice bd2 V8 bc2) := (hb7.cell (p := ⟨b, o + K * 10 + 8, none⟩) (by first | omega | (simp; omega))).trans (by assumption); have y7_10 : w7.cell? ⟨b, o + K * 10 + 9, none⟩ = some (.slice sd V9 sc) := (hb7.cell (p := ⟨b, o + K * 10 + 9, none⟩) (by first | omega | (simp; omega))).trans (by assumption)))
            go_wp2_with fail
            go_ret2
            exact ⟨⟨_, _, _, rfl⟩, HW.out.trans (hw7.mono hzw)⟩
          · have HV2 : Hid (∀ i, i < K + 1 → ∀ x, l[i]? = some x → okT k x.1 x.2 = true) := Lib.hid (fun i hi x hx => by
              rcases Nat.lt_or_eq_of_le (Nat.le_of_lt_succ hi) with h | h
              · exact HV.out i h x hx
              · subst h
                rw [HKX.out] at hx
                injection hx with hx
                subst hx
                exact hro)
            replace HIx : Hid (∀ (w : World) (v p : Value), Is .V Q w k kx v → Pa w B 3 p (n + 1) → B ≤ w.heap.size → n + 1 + k ≤ 900 → Calls Tryz.prog 37 #[v, .string V0, p] w fun e w' => (∃ qa qn qc, e = .returned (.tuple #[.slice qa qn qc, .int .i64 0])) ∧ Below w.heap.size w w') := Lib.hid (fun w v p a b c d => HIx.out w v p a b c d)
            clear hro
            go_upto_region 9 with fail
            go_region_held_law (fun W => W.cell? ⟨w.heap.size, 8, none⟩ = some (.slice (some ⟨b, o, none⟩) m c) ∧ W.cell? ⟨b, o + K * 10, none⟩ = some (.string V0) ∧ W.cell? ⟨b, o + K * 10 + 1, none⟩ = some (.int .i64 V1) ∧ W.cell? ⟨b, o + K * 10 + 2, none⟩ = some (.int .u64 V2) ∧ W.cell? ⟨b, o + K * 10 + 3, none⟩ = some (.int .u64 V3) ∧ W.cell? ⟨b, o + K * 10 + 4, none⟩ = some (.int .u64 V4) ∧ W.cell? ⟨b, o + K * 10 + 5, none⟩ = some (.string V5) ∧ W.cell? ⟨b, o + K * 10 + 6, none⟩ = some (.string V6) ∧ W.cell? ⟨b, o + K * 10 + 7, none⟩ = some (.int .i64 V7) ∧ W.cell? ⟨b, o + K * 10 + 8, none⟩ = some (.slice bd2 V8 bc2) ∧ W.cell? ⟨b, o + K * 10 + 9, none⟩ = some (.slice sd V9 sc)) ((refine ⟨?_, ?_, ?_, ?_, ?_, ?_, ?_, ?_, ?_, ?_, ?_⟩; all_goals first | assumption)) (first | (go_at_call 67; go_loud (refine (HL.out _ K ?a1 ?a2).mono ?_; (case a1 => exact HP.out.beyond (by have := HW.out; exact bel)); (case a2 => first | omega | (simp; omega)); rintro e w6 ⟨⟨pv, rfl, hpv⟩, hb6⟩); have HPV := Lib.hid hpv; clear hpv; have hw6 : Below wr.heap.size wr w6 := Below.trans bel (hb6.mono (by first | (simp; done) | (simp; omega))); have hz6 := hw6.size; have y6_0 : w6.cell? ⟨w.heap.size, 8, none⟩ = some (.slice (some ⟨b, o, none⟩) m c) := (hb6.cell (p := ⟨w.heap.size, 8, none⟩) (by first | omega | (simp; omega))).trans (by assumption); have y6_1 : w6.cell? ⟨b, o + K * 10, none⟩ = some (.string V0) := (hb6.cell (p := ⟨b, o + K * 10, none⟩) (by first | omega | (simp; omega))).trans (by assumption); have y6_2 : w6.cell? ⟨b, o + K * 10 + 1, none⟩ = some (.int .i64 V1) := (hb6.cell (p := ⟨b, o + K * 10 + 1, none⟩) (by first | omega | (simp; omega))).trans (by assumption); have y6_3 : w6.cell? ⟨b, o + K * 10 + 2, none⟩ = some (.int .u64 V2) := (hb6.cell (p := ⟨b, o + K * 10 + 2, none⟩) (by first | omega | (simp; omega))).trans (by assumption); have y6_4 : w6.cell? ⟨b, o + K * 10 + 3, none⟩ = some (.int .u64 V3) := (hb6.cell (p := ⟨b, o + K * 10 + 3, none⟩) (by first | omega | (simp; omega))).trans (by assumption); have y6_5 : w6.cell? ⟨b, o + K * 10 + 4, none⟩ = some (.int .u64 V4) := (hb6.cell (p := ⟨b, o + K * 10 + 4, none⟩) (by first | omega | (simp; omega))).trans (by assumption); have y6_6 : w6.cell? ⟨b, o + K * 10 + 5, none⟩ = some (.string V5) := (hb6.cell (p := ⟨b, o + K * 10 + 5, none⟩) (by first | omega | (simp; omega))).trans (by assumption); have y6_7 : w6.cell? ⟨b, o + K * 10 + 6, none⟩ = some (.string V6) := (hb6.cell (p := ⟨b, o + K * 10 + 6, none⟩) (by first | omega | (simp; omega))).trans (by assumption); have y6_8 : w6.cell? ⟨b, o + K * 10 + 7, none⟩ = some (.int .i64 V7) := (hb6.cell (p := ⟨b, o + K * 10 + 7, none⟩) (by first | omega | (simp; omega))).trans (by assumption); have y6_9 : w6.cell? ⟨b, o + K * 10 + 8, none⟩ = some (.slice bd2 V8 bc2) := (hb6.cell (p := ⟨b, o + K * 10 + 8, none⟩) (by first | omega | (simp; omega))).trans (by assumption); have y6_10 : w6.cell? ⟨b, o + K * 10 + 9, none⟩ = some (.slice sd V9 sc) := (hb6.cell (p := ⟨b, o + K * 10 + 9, none⟩) (by first | omega | (simp; omega))).trans (by assumption)) | (go_at_call 37; go_loud (refine (HIx.out _ _ _ (KQ.out _ bel) (HPV.out.beyond bel) ?a3 (by omega)).mono ?_; (case a3 => first | omega | (simp; omega)); rintro e w7 ⟨⟨qa, qn, qc, rfl⟩, hb7⟩); have hw7 : Below wr.heap.size wr w7 := Below.trans bel (hb7.mono (by first | omega | (simp; omega))); have y7_0 : w7.cell? ⟨w.heap.size, 8, none⟩ = some (.slice (some ⟨b, o, none⟩) m c) := (hb7.cell (p := ⟨w.heap.size, 8, none⟩) (by first | omega | (simp; omega))).trans (by assumption); have y7_1 : w7.cell? ⟨b, o + K * 10, none⟩ = some (.string V0) := (hb7.cell (p := ⟨b, o + K * 10, none⟩) (by first | omega | (simp; omega))).trans (by assumption); have y7_2 : w7.cell? ⟨b, o + K * 10 + 1, none⟩ = some (.int .i64 V1) := (hb7.cell (p := ⟨b, o + K * 10 + 1, none⟩) (by first | omega | (simp; omega))).trans (by assumption); have y7_3 : w7.cell? ⟨b, o + K * 10 + 2, none⟩ = some (.int .u64 V2) := (hb7.cell (p := ⟨b, o + K * 10 + 2, none⟩) (by first | omega | (simp; omega))).trans (by assumption); have y7_4 : w7.cell? ⟨b, o + K * 10 + 3, none⟩ = some (.int .u64 V3) := (hb7.cell (p := ⟨b, o + K * 10 + 3, none⟩) (by first | omega | (simp; omega))).trans (by assumption); have y7_5 : w7.cell? ⟨b, o + K * 10 + 4, none⟩ = some (.int .u64 V4) := (hb7.cell (p := ⟨b, o + K * 10 + 4, none⟩) (by first | omega | (simp; omega))).trans (by assumption); have y7_6 : w7.cell? ⟨b, o + K * 10 + 5, none⟩ = some (.string V5) := (hb7.cell (p := ⟨b, o + K * 10 + 5, none⟩) (by first | omega | (simp; omega))).trans (by assumption); have y7_7 : w7.cell? ⟨b, o + K * 10 + 6, none⟩ = some (.string V6) := (hb7.cell (p := ⟨b, o + K * 10 + 6, none⟩) (by first | omega | (simp; omega))).trans (by assumption); have y7_8 : w7.cell? ⟨b, o + K * 10 + 7, none⟩ = some (.int .i64 V7) := (hb7.cell (p := ⟨b, o + K * 10 + 7, none⟩) (by first | omega | (simp; omega))).trans (by assumption); have y7_9 : w7.cell? ⟨b, o + K * 10 + 8, none⟩ = some (.slice bd2 V8 bc2) := (hb7.cell (p := ⟨b, o + K * 10 + 8, none⟩) (by first | omega | (simp; omega))).trans (by assumption); have y7_10 : w7.cell? ⟨b, o + K * 10 + 9, none⟩ = some (.slice sd V9 sc) := (hb7.cell (p := ⟨b, o + K * 10 + 9, none⟩) (by first | omega | (simp; omega))).trans (by assumption)))
            go_wp2_with fail
            go_roundw
            case rel => exact ⟨K + 1, by omega, by go_num, y7_0, by have := hw7.size; omega, HV2, Lib.hid (HW.out.trans (hw7.mono hzw))⟩
            case measure => simp [intOf]; omega
        · have hKe : K = m := by omega
          subst hKe
          have hall : R = true := HR.out.symm.trans (List.all_eq_true.2 (fun x hx => by
            obtain ⟨i, hi⟩ := List.mem_iff_getElem?.1 hx
            have hl := (List.getElem?_eq_some_iff.1 hi).1
            exact HV.out i (by have := HM.out; omega) x hi))
          subst hall
          go_wp2_with fail
          go_ret2
          exact ⟨⟨_, _, _, rfl⟩, HW.out⟩
end
end Go.Proofs.YtihnfhhopldllaaGreatDoor
