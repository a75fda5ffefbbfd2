/- Parts of the proof of TopLooks: U8, U9. No condition. -/
import Derived.Test.YtihnfhhopldllaaGreatDoorJ1
import Derived.Test.YtihnfhhopldllaaGreatDoorJ5
import Derived.Test.YtihnfhhopldllaaGreatDoorJ6
namespace Go.Proofs.YtihnfhhopldllaaGreatDoor
set_option linter.unusedSimpArgs false
set_option linter.unusedVariables false
set_option maxHeartbeats 6400000
set_option maxRecDepth 100000
section
open Go.RowKit
theorem rowV {w : World} {b o K : Nat} {nm : List UInt8} {t : Own} {bv s : Value} (h : w.rangeAt b (o + Lay.wid .V * K) (Lay.row .V nm t bv s)) :
    w.cell? ⟨b, o + K * 10, none⟩ = some (.string (bs nm)) ∧ w.cell? ⟨b, o + K * 10 + 1, none⟩ = some (.int .i64 t.kind) ∧ w.cell? ⟨b, o + K * 10 + 2, none⟩ = some (.int .u64 t.bits) ∧ w.cell? ⟨b, o + K * 10 + 3, none⟩ = some (.int .u64 t.high) ∧ w.cell? ⟨b, o + K * 10 + 4, none⟩ = some (.int .u64 t.low) ∧
    w.cell? ⟨b, o + K * 10 + 5, none⟩ = some (.string (bs t.text)) ∧ w.cell? ⟨b, o + K * 10 + 6, none⟩ = some (.string (bs t.more)) ∧ w.cell? ⟨b, o + K * 10 + 7, none⟩ = some (.int .i64 t.sub) ∧ w.cell? ⟨b, o + K * 10 + 8, none⟩ = some bv ∧ w.cell? ⟨b, o + K * 10 + 9, none⟩ = some s := by
  have e : o + Lay.wid .V * K = o + K * 10 := by show o + 10 * K = _; omega
  rw [e] at h
  exact ⟨h 0 _ rfl, h 1 _ rfl, h 2 _ rfl, h 3 _ rfl, h 4 _ rfl, h 5 _ rfl, h 6 _ rfl, h 7 _ rfl, h 8 _ rfl, h 9 _ rfl⟩
theorem row10 {W : World} {b : Nat} {T : TypeId} {v0 v1 v2 v3 v4 v5 v6 v7 v8 v9 : Value} (h : W.heap[b]? = some (.cells #[v0, v1, v2, v3, v4, v5, v6, v7, v8, v9] T (0, 0))) :
    (W.cell? ⟨b, 0, none⟩ = some v0 ∧ W.cell? ⟨b, 1, none⟩ = some v1 ∧ W.cell? ⟨b, 2, none⟩ = some v2 ∧ W.cell? ⟨b, 3, none⟩ = some v3 ∧ W.cell? ⟨b, 4, none⟩ = some v4 ∧ W.cell? ⟨b, 5, none⟩ = some v5 ∧ W.cell? ⟨b, 6, none⟩ = some v6 ∧ W.cell? ⟨b, 7, none⟩ = some v7 ∧ W.cell? ⟨b, 8, none⟩ = some v8 ∧ W.cell? ⟨b, 9, none⟩ = some v9) ∧ W.heap[b]? = some (.cells #[v0, v1, v2, v3, v4, v5, v6, v7, v8, v9] T (0, 0)) := by
  refine ⟨⟨?_, ?_, ?_, ?_, ?_, ?_, ?_, ?_, ?_, ?_⟩, h⟩
  all_goals (rw [cell_of_row _ b _ _ _ _ h]; rfl)
theorem check_3 (k : Nat) (l : KL) (hl : l.length ≤ 20) (Q : Nat → Prop) (nm : List UInt8) (hnm : nm.length ≤ 200) (bd : Option Addr) (bc : Nat) (ad : Option Addr) (m c : Nat) (hm : l.length = m) (p : Value) (n B : Nat) (hn : n + (k + 1) ≤ 900) (w : World) (hp : Pa w B 3 p n) (hB : B ≤ w.heap.size) (hQ : ∀ b, Q b → b < w.heap.size → p.ownBlock ≠ some b)
    (hk : Kd .V Q w (k + 1) l (.slice ad m c))
    (ih : ∀ x ∈ l, ∀ (Q : Nat → Prop) (w : World) (v p : Value) (n : Nat), Is .V Q w k x.2 v → Pa w B 3 p n → n + k ≤ 900 → B ≤ w.heap.size → (∀ b, Q b → b < w.heap.size → p.ownBlock ≠ some b) →
      Calls Tryz.prog 105 #[v, .string (bs x.1), p] w fun e w' => (∃ qa qn qc, e = .returned (.tuple #[.slice qa qn qc, .int .i64 (if okT k x.1 x.2 = true then 0 else 4)])) ∧ w.grownBy w' p.ownBlock ∧ Pa w' B 3 p n) :
    Calls Tryz.prog 105 #[.agg #[.int .i64 3, .int .u64 0, .int .u64 0, .int .u64 0, .string { data := #[] }, .string { data := #[] }, .int .i64 0, .slice bd 0 bc, .slice ad m c], .string (bs nm), p] w fun e w' => (∃ qa qn qc, e = .returned (.tuple #[.slice qa qn qc, .int .i64 (if (decide (Nm nm) && l.all fun x => okT k x.1 x.2) = true then 0 else 4)])) ∧ w.grownBy w' p.ownBlock ∧ Pa w' B 3 p n := by
  have H1 := Lib.hid name_3
  have H2 := Lib.hid (fun w => fields_3 { data := #[] } bd bc ad m c w)
  have H4 := Lib.hid whole_e
  have H5 := whole_t nm (by omega)
  have HP := Lib.hid hp
  have HC := Lib.hid (fun w' (hb : Below w.heap.size w w') => clone_path w' B p n (by omega) (hp.beyond hb))
  have hlt := Lib.hid (fun w' (hb : Below w.heap.size w w') => grown_below hb p.ownBlock)
  have HK := Lib.hid hk
  have HQ := Lib.hid hQ
  have HI := Lib.hid ih
  have HM := Lib.hid hm
  have hm20 : m ≤ 20 := by omega
  obtain ⟨N, hN⟩ : ∃ N, bs nm = N := ⟨_, rfl⟩
  rw [hN] at H5 ⊢
  obtain ⟨R, hR⟩ : ∃ R, (l.all fun x => okT k x.1 x.2) = R := ⟨_, rfl⟩
  rw [hR]
  have HR := Lib.hid hR
  clear hN hp hk hQ ih hm hl hR
  cases h2 : decide (Nm nm)
  · rw [h2] at H5
    have H5 := Lib.hid H5
    clear h2
    go_enter Tryz.func105, Tryz.ntmps105
    go_wp2_with fail
    with_reducible refine (H1.out _).mono ?_
    rintro e w1 ⟨rfl, hb1⟩
    have c1_0 := cB hb1 w.heap.size 0 (.int .i64 3)
    have c1_1 := cB hb1 w.heap.size 1 (.int .u64 0)
    have c1_2 := cB hb1 w.heap.size 2 (.int .u64 0)
    have c1_3 := cB hb1 w.heap.size 3 (.int .u64 0)
    have c1_4 := cB hb1 w.heap.size 4 (.string { data := #[] })
    have c1_5 := cB hb1 w.heap.size 5 (.string { data := #[] })
    have c1_6 := cB hb1 w.heap.size 6 (.int .i64 0)
    have c1_7 := cB hb1 w.heap.size 7 (.slice bd 0 bc)
    have c1_8 := cB hb1 w.heap.size 8 (.slice ad m c)
    have hl1_0 := ltB hb1 w.heap.size
    have hw1 := bwB hb1 w.heap.size w
    have hz1 := hw1.size
    clear hb1
    go_wp2_with fail
    with_reducible refine (H2.out _).mono ?_
    rintro e w2 ⟨rfl, hb2⟩
    have c2_0 := cB hb2 w.heap.size 0 (.int .i64 3)
    have c2_1 := cB hb2 w.heap.size 1 (.int .u64 0)
    have c2_2 := cB hb2 w.heap.size 2 (.int .u64 0)
    have c2_3 := cB hb2 w.heap.size 3 (.int .u64 0)
    have c2_4 := cB hb2 w.heap.size 4 (.string { data := #[] })
    have c2_5 := cB hb2 w.heap.size 5 (.string { data := #[] })
    have c2_6 := cB hb2 w.heap.size 6 (.int .i64 0)
    have c2_7 := cB hb2 w.heap.size 7 (.slice bd 0 bc)
    have c2_8 := cB hb2 w.heap.size 8 (.slice ad m c)
    have hl2_0 := ltB hb2 w.heap.size
    have hw2 := bwB hb2 w.heap.size w
    have hz2 := hw2.size
    clear hb2
    go_wp2_with fail
    with_reducible refine (H4.out _).mono ?_
    rintro e w3 ⟨rfl, hb3⟩
    have c3_0 := cB hb3 w.heap.size 0 (.int .i64 3)
    have c3_1 := cB hb3 w.heap.size 1 (.int .u64 0)
    have c3_2 := cB hb3 w.heap.size 2 (.int .u64 0)
    have c3_3 := cB hb3 w.heap.size 3 (.int .u64 0)
    have c3_4 := cB hb3 w.heap.size 4 (.string { data := #[] })
    have c3_5 := cB hb3 w.heap.size 5 (.string { data := #[] })
    have c3_6 := cB hb3 w.heap.size 6 (.int .i64 0)
    have c3_7 := cB hb3 w.heap.size 7 (.slice bd 0 bc)
    have c3_8 := cB hb3 w.heap.size 8 (.slice ad m c)
    have hl3_0 := ltB hb3 w.heap.size
    have hw3 := bwB hb3 w.heap.size w
    have hz3 := hw3.size
    clear hb3
    go_wp2_with fail
    with_reducible refine (H4.out _).mono ?_
    rintro e w4 ⟨rfl, hb4⟩
    have c4_0 := cB hb4 w.heap.size 0 (.int .i64 3)
    have c4_1 := cB hb4 w.heap.size 1 (.int .u64 0)
    have c4_2 := cB hb4 w.heap.size 2 (.int .u64 0)
    have c4_3 := cB hb4 w.heap.size 3 (.int .u64 0)
    have c4_4 := cB hb4 w.heap.size 4 (.string { data := #[] })
    have c4_5 := cB hb4 w.heap.size 5 (.string { data := #[] })
    have c4_6 := cB hb4 w.heap.size 6 (.int .i64 0)
    have c4_7 := cB hb4 w.heap.size 7 (.slice bd 0 bc)
    have c4_8 := cB hb4 w.heap.size 8 (.slice ad m c)
    have hl4_0 := ltB hb4 w.heap.size
    have hw4 := bwB hb4 w.heap.size w
    have hz4 := hw4.size
    clear hb4
    go_wp2_with fail
    with_reducible refine (H5.out _).mono ?_
    rintro e w5 ⟨rfl, hb5⟩
    have c5_0 := cB hb5 w.heap.size 0 (.int .i64 3)
    have c5_1 := cB hb5 w.heap.size 1 (.int .u64 0)
    have c5_2 := cB hb5 w.heap.size 2 (.int .u64 0)
    have c5_3 := cB hb5 w.heap.size 3 (.int .u64 0)
    have c5_4 := cB hb5 w.heap.size 4 (.string { data := #[] })
    have c5_5 := cB hb5 w.heap.size 5 (.string { data := #[] })
    have c5_6 := cB hb5 w.heap.size 6 (.int .i64 0)
    have c5_7 := cB hb5 w.heap.size 7 (.slice bd 0 bc)
    have c5_8 := cB hb5 w.heap.size 8 (.slice ad m c)
    have hl5_0 := ltB hb5 w.heap.size
    have hw5 := bwB hb5 w.heap.size w
    have hz5 := hw5.size
    clear hb5
    go_wp2_with fail
    with_reducible refine (HC.out _ hw5).mono ?_
    rintro e w9 ⟨⟨qa, qn, qc, rfl⟩, hb9⟩
    have hw9 : Below w.heap.size w w9 := Below.trans hw5 (hb9.mono (by first | exact hw5.size | omega))
    clear hb9
    go_wp2_with fail
    go_ret2
    exact ⟨⟨_, _, _, rfl⟩, hlt.out _ hw9, HP.out.beyond hw9⟩
  · rw [h2] at H5
    have H5 := Lib.hid H5
    clear h2
    go_enter Tryz.func105, Tryz.ntmps105
    go_wp2_with fail
    with_reducible refine (H1.out _).mono ?_
    rintro e w1 ⟨rfl, hb1⟩
    have c1_0 := cB hb1 w.heap.size 0 (.int .i64 3)
    have c1_1 := cB hb1 w.heap.size 1 (.int .u64 0)
    have c1_2 := cB hb1 w.heap.size 2 (.int .u64 0)
    have c1_3 := cB hb1 w.heap.size 3 (.int .u64 0)
    have c1_4 := cB hb1 w.heap.size 4 (.string { data := #[] })
    have c1_5 := cB hb1 w.heap.size 5 (.string { data := #[] })
    have c1_6 := cB hb1 w.heap.size 6 (.int .i64 0)
    have c1_7 := cB hb1 w.heap.size 7 (.slice bd 0 bc)
    have c1_8 := cB hb1 w.heap.size 8 (.slice ad m c)
    have hl1_0 := ltB hb1 w.heap.size
    have hw1 := bwB hb1 w.heap.size w
    have hz1 := hw1.size
    clear hb1
    go_wp2_with fail
    with_reducible refine (H2.out _).mono ?_
    rintro e w2 ⟨rfl, hb2⟩
    have c2_0 := cB hb2 w.heap.size 0 (.int .i64 3)
    have c2_1 := cB hb2 w.heap.size 1 (.int .u64 0)
    have c2_2 := cB hb2 w.heap.size 2 (.int .u64 0)
    have c2_3 := cB hb2 w.heap.size 3 (.int .u64 0)
    have c2_4 := cB hb2 w.heap.size 4 (.string { data := #[] })
    have c2_5 := cB hb2 w.heap.size 5 (.string { data := #[] })
    have c2_6 := cB hb2 w.heap.size 6 (.int .i64 0)
    have c2_7 := cB hb2 w.heap.size 7 (.slice bd 0 bc)
    have c2_8 := cB hb2 w.heap.size 8 (.slice ad m c)
    have hl2_0 := ltB hb2 w.heap.size
    have hw2 := bwB hb2 w.heap.size w
    have hz2 := hw2.size
    clear hb2
    go_wp2_with fail
    with_reducible refine (H4.out _).mono ?_
    rintro e w3 ⟨rfl, hb3⟩
    have c3_0 := cB hb3 w.heap.size 0 (.int .i64 3)
    have c3_1 := cB hb3 w.heap.size 1 (.int .u64 0)
    have c3_2 := cB hb3 w.heap.size 2 (.int .u64 0)
    have c3_3 := cB hb3 w.heap.size 3 (.int .u64 0)
    have c3_4 := cB hb3 w.heap.size 4 (.string { data := #[] })
    have c3_5 := cB hb3 w.heap.size 5 (.string { data := #[] })
    have c3_6 := cB hb3 w.heap.size 6 (.int .i64 0)
    have c3_7 := cB hb3 w.heap.size 7 (.slice bd 0 bc)
    have c3_8 := cB hb3 w.heap.size 8 (.slice ad m c)
    have hl3_0 := ltB hb3 w.heap.size
    have hw3 := bwB hb3 w.heap.size w
    have hz3 := hw3.size
    clear hb3
    go_wp2_with fail
    with_reducible refine (H4.out _).mono ?_
    rintro e w4 ⟨rfl, hb4⟩
    have c4_0 := cB hb4 w.heap.size 0 (.int .i64 3)
    have c4_1 := cB hb4 w.heap.size 1 (.int .u64 0)
    have c4_2 := cB hb4 w.heap.size 2 (.int .u64 0)
    have c4_3 := cB hb4 w.heap.size 3 (.int .u64 0)
    have c4_4 := cB hb4 w.heap.size 4 (.string { data := #[] })
    have c4_5 := cB hb4 w.heap.size 5 (.string { data := #[] })
    have c4_6 := cB hb4 w.heap.size 6 (.int .i64 0)
    have c4_7 := cB hb4 w.heap.size 7 (.slice bd 0 bc)
    have c4_8 := cB hb4 w.heap.size 8 (.slice ad m c)
    have hl4_0 := ltB hb4 w.heap.size
    have hw4 := bwB hb4 w.heap.size w
    have hz4 := hw4.size
    clear hb4
    go_wp2_with fail
    with_reducible refine (H5.out _).mono ?_
    rintro e w5 ⟨rfl, hb5⟩
    have c5_0 := cB hb5 w.heap.size 0 (.int .i64 3)
    have c5_1 := cB hb5 w.heap.size 1 (.int .u64 0)
    have c5_2 := cB hb5 w.heap.size 2 (.int .u64 0)
    have c5_3 := cB hb5 w.heap.size 3 (.int .u64 0)
    have c5_4 := cB hb5 w.heap.size 4 (.string { data := #[] })
    have c5_5 := cB hb5 w.heap.size 5 (.string { data := #[] })
    have c5_6 := cB hb5 w.heap.size 6 (.int .i64 0)
    have c5_7 := cB hb5 w.heap.size 7 (.slice bd 0 bc)
    have c5_8 := cB hb5 w.heap.size 8 (.slice ad m c)
    have hl5_0 := ltB hb5 w.heap.size
    have hw5 := bwB hb5 w.heap.size w
    have hz5 := hw5.size
    clear hb5
    go_wp2_with fail
    go_loopw [52] (fun x wr => ∃ K, K ≤ m ∧ x = .int .i64 K ∧ Hid (∀ i, i < K → ∀ x, l[i]? = some x → okT k x.1 x.2 = true) ∧ Hid (w.grownBy wr p.ownBlock) ∧ Hid (Pa wr B 3 p n)) (fun x _ => m - (intOf x).toNat)
    case atStart => exact ⟨0, by omega, rfl, Lib.hid (fun i hi => by omega), Lib.hid (hlt.out _ hw5), Lib.hid (HP.out.beyond hw5)⟩
    case round =>
      obtain ⟨K, hK, rfl, HV, HG, HPr⟩ := hrel
      by_cases hKm : K < m
      · obtain ⟨⟨kn, kx⟩, hkx⟩ : ∃ x, l[K]? = some x := ⟨_, List.getElem?_eq_getElem (by have := HM.out; omega)⟩
        obtain ⟨b, o, bv, s, rfl, hqb, hbl, hra, hby, hkd⟩ := HK.out.at hkx
        have hnb := HQ.out b hqb hbl
        have hblk : wr.heap[b]? = w.heap[b]? := HG.out.block b hbl (fun e => hnb e.symm)
        obtain ⟨sd, sc, rfl⟩ := hkd.slice
        have hby2 := Lib.hid hby
        obtain ⟨bd2, bc2, rfl, hbb⟩ := hby
        clear hbb
        obtain ⟨r0, r1, r2, r3, r4, r5, r6, r7, r8, r9⟩ := rowV (rangeAt_block hblk hra)
        clear hra hblk
        have hpl := HPr.out.lt
        have hzr := HG.out.size
        have hmem := List.mem_of_getElem? hkx
        obtain ⟨i0, hi, iz0, iz1, iz2⟩ := hi_int
        have HIx := HI.out _ hmem
        have KQ : Hid (∀ w6 : World, wr.grownBy w6 p.ownBlock → Is .V (fun b => Q b ∧ b < w.heap.size) w6 k kx (.agg #[.int .i64 kx.o.kind, .int .u64 kx.o.bits, .int .u64 kx.o.high, .int .u64 kx.o.low, .string (bs kx.o.text), .string (bs kx.o.more), .int .i64 kx.o.sub, .slice bd2 kx.o.bytes.length bc2, .slice sd kx.kids.length sc])) := Lib.hid (fun w6 h6 => by
          have h1 : Is .V Q w k kx (.agg #[.int .i64 kx.o.kind, .int .u64 kx.o.bits, .int .u64 kx.o.high, .int .u64 kx.o.low, .string (bs kx.o.text), .string (bs kx.o.more), .int .i64 kx.o.sub, .slice bd2 kx.o.bytes.length bc2, .slice sd kx.kids.length sc]) := ⟨_, _, rfl, hby2.out, hkd⟩
          exact (h1.mono (fun b hb hl => ⟨hb, hl⟩)).keeps (keeps_grown (grown_trans HG.out h6) (fun b hb _ => HQ.out b hb.1 hb.2)))
        have HMEM := Lib.hid hmem
        have HKX := Lib.hid hkx
        obtain ⟨V0, hV0⟩ : ∃ x, bs kn = x := ⟨_, rfl⟩
        rw [hV0] at r0 HIx
        obtain ⟨V1, hV1⟩ : ∃ x, kx.o.kind = x := ⟨_, rfl⟩
        obtain ⟨V2, hV2⟩ : ∃ x, kx.o.bits = x := ⟨_, rfl⟩
        obtain ⟨V3, hV3⟩ : ∃ x, kx.o.high = x := ⟨_, rfl⟩
        obtain ⟨V4, hV4⟩ : ∃ x, kx.o.low = x := ⟨_, rfl⟩
        obtain ⟨V5, hV5⟩ : ∃ x, bs kx.o.text = x := ⟨_, rfl⟩
        obtain ⟨V6, hV6⟩ : ∃ x, bs kx.o.more = x := ⟨_, rfl⟩
        obtain ⟨V7, hV7⟩ : ∃ x, kx.o.sub = x := ⟨_, rfl⟩
        obtain ⟨V8, hV8⟩ : ∃ x, kx.o.bytes.length = x := ⟨_, rfl⟩
        obtain ⟨V9, hV9⟩ : ∃ x, kx.kids.length = x := ⟨_, rfl⟩
        rw [hV1] at r1 KQ
        rw [hV2] at r2 KQ
        rw [hV3] at r3 KQ
        rw [hV4] at r4 KQ
        rw [hV5] at r5 KQ
        rw [hV6] at r6 KQ
        rw [hV7] at r7 KQ
        rw [hV8] at r8 KQ
        rw [hV9] at r9 KQ
        have HIx := Lib.hid HIx
        clear hV0 hV1 hV2 hV3 hV4 hV5 hV6 hV7 hV8 hV9 hmem hkx hkd hby2
        cases ho : okT k kn kx
        · rw [ho] at HIx
          have hfa : R = false := by
            rw [← HR.out, Bool.eq_false_iff]
            intro h
            rw [List.all_eq_true.1 h _ HMEM.out] at ho
            cases ho
          subst hfa
          go_upto_region 11 with fail
          clear r0 r1 r2 r3 r4 r5 r6 r7 r8 r9
          go_region_held_law (fun W => (W.cell? ⟨wr.heap.size, 0, none⟩ = some (.string V0) ∧ W.cell? ⟨wr.heap.size, 1, none⟩ = some (.int .i64 V1) ∧ W.cell? ⟨wr.heap.size, 2, none⟩ = some (.int .u64 V2) ∧ W.cell? ⟨wr.heap.size, 3, none⟩ = some (.int .u64 V3) ∧ W.cell? ⟨wr.heap.size, 4, none⟩ = some (.int .u64 V4) ∧ W.cell? ⟨wr.heap.size, 5, none⟩ = some (.string V5) ∧ W.cell? ⟨wr.heap.size, 6, none⟩ = some (.string V6) ∧ W.cell? ⟨wr.heap.size, 7, none⟩ = some (.int .i64 V7) ∧ W.cell? ⟨wr.heap.size, 8, none⟩ = some (.slice bd2 V8 bc2) ∧ W.cell? ⟨wr.heap.size, 9, none⟩ = some (.slice sd V9 sc)) ∧ W.heap[wr.heap.size]? = some (.cells #[.string V0, .int .i64 V1, .int .u64 V2, .int .u64 V3, .int .u64 V4, .string V5, .string V6, .int .i64 V7, .slice bd2 V8 bc2, .slice sd V9 sc] 51 (0, 0))) ((refine row10 ?_; first | assumption | exact heap_alloc_last wr _ | exact (Below.heap_alloc _ _ _ (by simp)).trans (heap_alloc_last wr _))) (first | (refine step_append_path _ rfl _ _ _ rfl B 3 i0 (.int .i64 0) Tryz.underlying31 hi iz0 iz1 iz2 rfl p n (by simp [Act.eval, Act.put]) ?c1 ⟨wr.heap.size + 1, 0, none⟩ 1 (.int .i64 K) (by simp [Act.eval, Act.put]) ?c2 rfl (by omega) ?c3 ?_; (case c1 => exact HPr.out.beyond bel); (case c2 => (simp [go_sem]; done)); (case c3 => (simp; omega)); intro g6 cap6 w6 h6; have hb6 : wr.grownBy w6 p.ownBlock := grown_trans (grown_below bel _) h6.grown; have hs6 := h6.grown.size; (simp at hs6); have hlt6 := h6.lt; have hd3 : ∀ b, Q b → b < w.heap.size → some g6 ≠ some b := (fun b h1 h2 e => by injection e with e; subst e; rcases h6.at' with h | h <;> first | (exact HQ.out _ h1 h2 h) | (simp at h; omega)); have hS6 := (h6.grown.block wr.heap.size (by simp; omega) (fun e => by have := hpl _ e.symm; omega)).trans ((Below.heap_alloc _ _ _ (by simp)).trans (heap_alloc_last wr _)); have hn6 : some wr.heap.size ≠ some g6 := (fun e => by injection e with e; rcases h6.at' with h | h <;> first | (have := hpl _ h; omega) | (simp at h; omega))) | (go_at_call 105; go_loud (refine (HIx.out (fun b => Q b ∧ b < w.heap.size) w6 _ (.slice (some ⟨g6, 0, none⟩) (n + 1) cap6) (n + 1) ?d1 h6.new (by omega) ?d2 ?d3).mono ?_; (case d1 => exact KQ.out w6 hb6); (case d2 => omega); (case d3 => exact fun b hb _ e => hd3 b hb.1 hb.2 e); rintro e w7 ⟨⟨qa, qn, qc, rfl⟩, hg7, hp7⟩); have pk := pk_child h6 hg7 hp7; have hG7 : w.grownBy w7 p.ownBlock := grown_trans HG.out (grown_trans (grown_below bel _) pk.1); have hP7 := pk.2; have hS7 := (hg7.block wr.heap.size ?d4 hn6).trans hS6; (case d4 => omega)))
          clear hS6 hS7 h6 hg7 hp7 pk hb6 hs6 hlt6 hd3 hn6
          replace hG7 := Lib.hid hG7
          replace hP7 := Lib.hid hP7
          go_wp2_with fail
          go_ret2
          exact ⟨⟨_, _, _, rfl⟩, hG7.out, hP7.out⟩
        · rw [ho] at HIx
          have HV2 : Hid (∀ i, i < K + 1 → ∀ x, l[i]? = some x → okT k x.1 x.2 = true) := Lib.hid (fun i hi x hx => by
            rcases Nat.lt_or_eq_of_le (Nat.le_of_lt_succ hi) with h | h
            · exact HV.out i h x hx
            · subst h
              rw [HKX.out] at hx
              injection hx with hx
              subst hx
              exact ho)
          go_upto_region 11 with fail
          clear r0 r1 r2 r3 r4 r5 r6 r7 r8 r9
          go_region_held_law (fun W => (W.cell? ⟨wr.heap.size, 0, none⟩ = some (.string V0) ∧ W.cell? ⟨wr.heap.size, 1, none⟩ = some (.int .i64 V1) ∧ W.cell? ⟨wr.heap.size, 2, none⟩ = some (.int .u64 V2) ∧ W.cell? ⟨wr.heap.size, 3, none⟩ = some (.int .u64 V3) ∧ W.cell? ⟨wr.heap.size, 4, none⟩ = some (.int .u64 V4) ∧ W.cell? ⟨wr.heap.size, 5, none⟩ = some (.string V5) ∧ W.cell? ⟨wr.heap.size, 6, none⟩ = some (.string V6) ∧ W.cell? ⟨wr.heap.size, 7, none⟩ = some (.int .i64 V7) ∧ W.cell? ⟨wr.heap.size, 8, none⟩ = some (.slice bd2 V8 bc2) ∧ W.cell? ⟨wr.heap.size, 9, none⟩ = some (.slice sd V9 sc)) ∧ W.heap[wr.heap.size]? = some (.cells #[.string V0, .int .i64 V1, .int .u64 V2, .int .u64 V3, .int .u64 V4, .string V5, .string V6, .int .i64 V7, .slice bd2 V8 bc2, .slice sd V9 sc] 51 (0, 0))) ((refine row10 ?_; first | assumption | exact heap_alloc_last wr _ | exact (Below.heap_alloc _ _ _ (by simp)).trans (heap_alloc_last wr _))) (first | (refine step_append_path _ rfl _ _ _ rfl B 3 i0 (.int .i64 0) Tryz.underlying31 hi iz0 iz1 iz2 rfl p n (by simp [Act.eval, Act.put]) ?c1 ⟨wr.heap.size + 1, 0, none⟩ 1 (.int .i64 K) (by simp [Act.eval, Act.put]) ?c2 rfl (by omega) ?c3 ?_; (case c1 => exact HPr.out.beyond bel); (case c2 => (simp [go_sem]; done)); (case c3 => (simp; omega)); intro g6 cap6 w6 h6; have hb6 : wr.grownBy w6 p.ownBlock := grown_trans (grown_below bel _) h6.grown; have hs6 := h6.grown.size; (simp at hs6); have hlt6 := h6.lt; have hd3 : ∀ b, Q b → b < w.heap.size → some g6 ≠ some b := (fun b h1 h2 e => by injection e with e; subst e; rcases h6.at' with h | h <;> first | (exact HQ.out _ h1 h2 h) | (simp at h; omega)); have hS6 := (h6.grown.block wr.heap.size (by simp; omega) (fun e => by have := hpl _ e.symm; omega)).trans ((Below.heap_alloc _ _ _ (by simp)).trans (heap_alloc_last wr _)); have hn6 : some wr.heap.size ≠ some g6 := (fun e => by injection e with e; rcases h6.at' with h | h <;> first | (have := hpl _ h; omega) | (simp at h; omega))) | (go_at_call 105; go_loud (refine (HIx.out (fun b => Q b ∧ b < w.heap.size) w6 _ (.slice (some ⟨g6, 0, none⟩) (n + 1) cap6) (n + 1) ?d1 h6.new (by omega) ?d2 ?d3).mono ?_; (case d1 => exact KQ.out w6 hb6); (case d2 => omega); (case d3 => exact fun b hb _ e => hd3 b hb.1 hb.2 e); rintro e w7 ⟨⟨qa, qn, qc, rfl⟩, hg7, hp7⟩); have pk := pk_child h6 hg7 hp7; have hG7 : w.grownBy w7 p.ownBlock := grown_trans HG.out (grown_trans (grown_below bel _) pk.1); have hP7 := pk.2; have hS7 := (hg7.block wr.heap.size ?d4 hn6).trans hS6; (case d4 => omega)))
          clear hS6 hS7 h6 hg7 hp7 pk hb6 hs6 hlt6 hd3 hn6
          replace hG7 := Lib.hid hG7
          replace hP7 := Lib.hid hP7
          go_wp2_with fail
          go_roundw
          case rel => exact ⟨K + 1, by omega, by go_num, HV2, hG7, hP7⟩
          case measure => simp [intOf]; omega
      · have hKe : K = m := by omega
        subst hKe
        have hall : R = true := HR.out.symm.trans (List.all_eq_true.2 (fun x hx => by
          obtain ⟨i, hi⟩ := List.mem_iff_getElem?.1 hx
          have hl := (List.getElem?_eq_some_iff.1 hi).1
          exact HV.out i (by have := HM.out; omega) x hi))
        subst hall
        go_wp2_with fail
        go_ret2
        exact ⟨⟨_, _, _, rfl⟩, HG.out, HPr.out⟩
theorem check_4 (k : Nat) (l : KL) (hl : l.length ≤ 20) (Q : Nat → Prop) (nm : List UInt8) (hnm : nm.length ≤ 200) (bd : Option Addr) (bc : Nat) (ad : Option Addr) (m c : Nat) (hm : l.length = m) (p : Value) (n B : Nat) (hn : n + (k + 1) ≤ 900) (w : World) (hp : Pa w B 3 p n) (hB : B ≤ w.heap.size) (hQ : ∀ b, Q b → b < w.heap.size → p.ownBlock ≠ some b)
    (hk : Kd .V Q w (k + 1) l (.slice ad m c))
    (ih : ∀ x ∈ l, ∀ (Q : Nat → Prop) (w : World) (v p : Value) (n : Nat), Is .V Q w k x.2 v → Pa w B 3 p n → n + k ≤ 900 → B ≤ w.heap.size → (∀ b, Q b → b < w.heap.size → p.ownBlock ≠ some b) →
      Calls Tryz.prog 105 #[v, .string (bs x.1), p] w fun e w' => (∃ qa qn qc, e = .returned (.tuple #[.slice qa qn qc, .int .i64 (if okT k x.1 x.2 = true then 0 else 4)])) ∧ w.grownBy w' p.ownBlock ∧ Pa w' B 3 p n) :
    Calls Tryz.prog 105 #[.agg #[.int .i64 4, .int .u64 0, .int .u64 0, .int .u64 0, .string { data := #[] }, .string { data := #[] }, .int .i64 0, .slice bd 0 bc, .slice ad m c], .string (bs nm), p] w fun e w' => (∃ qa qn qc, e = .returned (.tuple #[.slice qa qn qc, .int .i64 (if (decide (Nm nm) && l.all fun x => okT k x.1 x.2) = true then 0 else 4)])) ∧ w.grownBy w' p.ownBlock ∧ Pa w' B 3 p n := by
  have H1 := Lib.hid name_4
  have H2 := Lib.hid (fun w => fields_4 { data := #[] } bd bc ad m c w)
  have H4 := Lib.hid whole_e
  have H5 := whole_t nm (by omega)
  have HP := Lib.hid hp
  have HC := Lib.hid (fun w' (hb : Below w.heap.size w w') => clone_path w' B p n (by omega) (hp.beyond hb))
  have hlt := Lib.hid (fun w' (hb : Below w.heap.size w w') => grown_below hb p.ownBlock)
  have HK := Lib.hid hk
  have HQ := Lib.hid hQ
  have HI := Lib.hid ih
  have HM := Lib.hid hm
  have hm20 : m ≤ 20 := by omega
  obtain ⟨N, hN⟩ : ∃ N, bs nm = N := ⟨_, rfl⟩
  rw [hN] at H5 ⊢
  obtain ⟨R, hR⟩ : ∃ R, (l.all fun x => okT k x.1 x.2) = R := ⟨_, rfl⟩
  rw [hR]
  have HR := Lib.hid hR
  clear hN hp hk hQ ih hm hl hR
  cases h2 : decide (Nm nm)
  · rw [h2] at H5
    have H5 := Lib.hid H5
    clear h2
    go_enter Tryz.func105, Tryz.ntmps105
    go_wp2_with fail
    with_reducible refine (H1.out _).mono ?_
    rintro e w1 ⟨rfl, hb1⟩
    have c1_0 := cB hb1 w.heap.size 0 (.int .i64 4)
    have c1_1 := cB hb1 w.heap.size 1 (.int .u64 0)
    have c1_2 := cB hb1 w.heap.size 2 (.int .u64 0)
    have c1_3 := cB hb1 w.heap.size 3 (.int .u64 0)
    have c1_4 := cB hb1 w.heap.size 4 (.string { data := #[] })
    have c1_5 := cB hb1 w.heap.size 5 (.string { data := #[] })
    have c1_6 := cB hb1 w.heap.size 6 (.int .i64 0)
    have c1_7 := cB hb1 w.heap.size 7 (.slice bd 0 bc)
    have c1_8 := cB hb1 w.heap.size 8 (.slice ad m c)
    have hl1_0 := ltB hb1 w.heap.size
    have hw1 := bwB hb1 w.heap.size w
    have hz1 := hw1.size
    clear hb1
    go_wp2_with fail
    with_reducible refine (H2.out _).mono ?_
    rintro e w2 ⟨rfl, hb2⟩
    have c2_0 := cB hb2 w.heap.size 0 (.int .i64 4)
    have c2_1 := cB hb2 w.heap.size 1 (.int .u64 0)
    have c2_2 := cB hb2 w.heap.size 2 (.int .u64 0)
    have c2_3 := cB hb2 w.heap.size 3 (.int .u64 0)
    have c2_4 := cB hb2 w.heap.size 4 (.string { data := #[] })
    have c2_5 := cB hb2 w.heap.size 5 (.string { data := #[] })
    have c2_6 := cB hb2 w.heap.size 6 (.int .i64 0)
    have c2_7 := cB hb2 w.heap.size 7 (.slice bd 0 bc)
    have c2_8 := cB hb2 w.heap.size 8 (.slice ad m c)
    have hl2_0 := ltB hb2 w.heap.size
    have hw2 := bwB hb2 w.heap.size w
    have hz2 := hw2.size
    clear hb2
    go_wp2_with fail
    with_reducible refine (H4.out _).mono ?_
    rintro e w3 ⟨rfl, hb3⟩
    have c3_0 := cB hb3 w.heap.size 0 (.int .i64 4)
    have c3_1 := cB hb3 w.heap.size 1 (.int .u64 0)
    have c3_2 := cB hb3 w.heap.size 2 (.int .u64 0)
    have c3_3 := cB hb3 w.heap.size 3 (.int .u64 0)
    have c3_4 := cB hb3 w.heap.size 4 (.string { data := #[] })
    have c3_5 := cB hb3 w.heap.size 5 (.string { data := #[] })
    have c3_6 := cB hb3 w.heap.size 6 (.int .i64 0)
    have c3_7 := cB hb3 w.heap.size 7 (.slice bd 0 bc)
    have c3_8 := cB hb3 w.heap.size 8 (.slice ad m c)
    have hl3_0 := ltB hb3 w.heap.size
    have hw3 := bwB hb3 w.heap.size w
    have hz3 := hw3.size
    clear hb3
    go_wp2_with fail
    with_reducible refine (H4.out _).mono ?_
    rintro e w4 ⟨rfl, hb4⟩
    have c4_0 := cB hb4 w.heap.size 0 (.int .i64 4)
    have c4_1 := cB hb4 w.heap.size 1 (.int .u64 0)
    have c4_2 := cB hb4 w.heap.size 2 (.int .u64 0)
    have c4_3 := cB hb4 w.heap.size 3 (.int .u64 0)
    have c4_4 := cB hb4 w.heap.size 4 (.string { data := #[] })
    have c4_5 := cB hb4 w.heap.size 5 (.string { data := #[] })
    have c4_6 := cB hb4 w.heap.size 6 (.int .i64 0)
    have c4_7 := cB hb4 w.heap.size 7 (.slice bd 0 bc)
    have c4_8 := cB hb4 w.heap.size 8 (.slice ad m c)
    have hl4_0 := ltB hb4 w.heap.size
    have hw4 := bwB hb4 w.heap.size w
    have hz4 := hw4.size
    clear hb4
    go_wp2_with fail
    with_reducible refine (H5.out _).mono ?_
    rintro e w5 ⟨rfl, hb5⟩
    have c5_0 := cB hb5 w.heap.size 0 (.int .i64 4)
    have c5_1 := cB hb5 w.heap.size 1 (.int .u64 0)
    have c5_2 := cB hb5 w.heap.size 2 (.int .u64 0)
    have c5_3 := cB hb5 w.heap.size 3 (.int .u64 0)
    have c5_4 := cB hb5 w.heap.size 4 (.string { data := #[] })
    have c5_5 := cB hb5 w.heap.size 5 (.string { data := #[] })
    have c5_6 := cB hb5 w.heap.size 6 (.int .i64 0)
    have c5_7 := cB hb5 w.heap.size 7 (.slice bd 0 bc)
    have c5_8 := cB hb5 w.heap.size 8 (.slice ad m c)
    have hl5_0 := ltB hb5 w.heap.size
    have hw5 := bwB hb5 w.heap.size w
    have hz5 := hw5.size
    clear hb5
    go_wp2_with fail
    with_reducible refine (HC.out _ hw5).mono ?_
    rintro e w9 ⟨⟨qa, qn, qc, rfl⟩, hb9⟩
    have hw9 : Below w.heap.size w w9 := Below.trans hw5 (hb9.mono (by first | exact hw5.size | omega))
    clear hb9
    go_wp2_with fail
    go_ret2
    exact ⟨⟨_, _, _, rfl⟩, hlt.out _ hw9, HP.out.beyond hw9⟩
  · rw [h2] at H5
    have H5 := Lib.hid H5
    clear h2
    go_enter Tryz.func105, Tryz.ntmps105
    go_wp2_with fail
    with_reducible refine (H1.out _).mono ?_
    rintro e w1 ⟨rfl, hb1⟩
    have c1_0 := cB hb1 w.heap.size 0 (.int .i64 4)
    have c1_1 := cB hb1 w.heap.size 1 (.int .u64 0)
    have c1_2 := cB hb1 w.heap.size 2 (.int .u64 0)
    have c1_3 := cB hb1 w.heap.size 3 (.int .u64 0)
    have c1_4 := cB hb1 w.heap.size 4 (.string { data := #[] })
    have c1_5 := cB hb1 w.heap.size 5 (.string { data := #[] })
    have c1_6 := cB hb1 w.heap.size 6 (.int .i64 0)
    have c1_7 := cB hb1 w.heap.size 7 (.slice bd 0 bc)
    have c1_8 := cB hb1 w.heap.size 8 (.slice ad m c)
    have hl1_0 := ltB hb1 w.heap.size
    have hw1 := bwB hb1 w.heap.size w
    have hz1 := hw1.size
    clear hb1
    go_wp2_with fail
    with_reducible refine (H2.out _).mono ?_
    rintro e w2 ⟨rfl, hb2⟩
    have c2_0 := cB hb2 w.heap.size 0 (.int .i64 4)
    have c2_1 := cB hb2 w.heap.size 1 (.int .u64 0)
    have c2_2 := cB hb2 w.heap.size 2 (.int .u64 0)
    have c2_3 := cB hb2 w.heap.size 3 (.int .u64 0)
    have c2_4 := cB hb2 w.heap.size 4 (.string { data := #[] })
    have c2_5 := cB hb2 w.heap.size 5 (.string { data := #[] })
    have c2_6 := cB hb2 w.heap.size 6 (.int .i64 0)
    have c2_7 := cB hb2 w.heap.size 7 (.slice bd 0 bc)
    have c2_8 := cB hb2 w.heap.size 8 (.slice ad m c)
    have hl2_0 := ltB hb2 w.heap.size
    have hw2 := bwB hb2 w.heap.size w
    have hz2 := hw2.size
    clear hb2
    go_wp2_with fail
    with_reducible refine (H4.out _).mono ?_
    rintro e w3 ⟨rfl, hb3⟩
    have c3_0 := cB hb3 w.heap.size 0 (.int .i64 4)
    have c3_1 := cB hb3 w.heap.size 1 (.int .u64 0)
    have c3_2 := cB hb3 w.heap.size 2 (.int .u64 0)
    have c3_3 := cB hb3 w.heap.size 3 (.int .u64 0)
    have c3_4 := cB hb3 w.heap.size 4 (.string { data := #[] })
    have c3_5 := cB hb3 w.heap.size 5 (.string { data := #[] })
    have c3_6 := cB hb3 w.heap.size 6 (.int .i64 0)
    have c3_7 := cB hb3 w.heap.size 7 (.slice bd 0 bc)
    have c3_8 := cB hb3 w.heap.size 8 (.slice ad m c)
    have hl3_0 := ltB hb3 w.heap.size
    have hw3 := bwB hb3 w.heap.size w
    have hz3 := hw3.size
    clear hb3
    go_wp2_with fail
    with_reducible refine (H4.out _).mono ?_
    rintro e w4 ⟨rfl, hb4⟩
    have c4_0 := cB hb4 w.heap.size 0 (.int .i64 4)
    have c4_1 := cB hb4 w.heap.size 1 (.int .u64 0)
    have c4_2 := cB hb4 w.heap.size 2 (.int .u64 0)
    have c4_3 := cB hb4 w.heap.size 3 (.int .u64 0)
    have c4_4 := cB hb4 w.heap.size 4 (.string { data := #[] })
    have c4_5 := cB hb4 w.heap.size 5 (.string { data := #[] })
    have c4_6 := cB hb4 w.heap.size 6 (.int .i64 0)
    have c4_7 := cB hb4 w.heap.size 7 (.slice bd 0 bc)
    have c4_8 := cB hb4 w.heap.size 8 (.slice ad m c)
    have hl4_0 := ltB hb4 w.heap.size
    have hw4 := bwB hb4 w.heap.size w
    have hz4 := hw4.size
    clear hb4
    go_wp2_with fail
    with_reducible refine (H5.out _).mono ?_
    rintro e w5 ⟨rfl, hb5⟩
    have c5_0 := cB hb5 w.heap.size 0 (.int .i64 4)
    have c5_1 := cB hb5 w.heap.size 1 (.int .u64 0)
    have c5_2 := cB hb5 w.heap.size 2 (.int .u64 0)
    have c5_3 := cB hb5 w.heap.size 3 (.int .u64 0)
    have c5_4 := cB hb5 w.heap.size 4 (.string { data := #[] })
    have c5_5 := cB hb5 w.heap.size 5 (.string { data := #[] })
    have c5_6 := cB hb5 w.heap.size 6 (.int .i64 0)
    have c5_7 := cB hb5 w.heap.size 7 (.slice bd 0 bc)
    have c5_8 := cB hb5 w.heap.size 8 (.slice ad m c)
    have hl5_0 := ltB hb5 w.heap.size
    have hw5 := bwB hb5 w.heap.size w
    have hz5 := hw5.size
    clear hb5
    go_wp2_with fail
    go_loopw [52] (fun x wr => ∃ K, K ≤ m ∧ x = .int .i64 K ∧ Hid (∀ i, i < K → ∀ x, l[i]? = some x → okT k x.1 x.2 = true) ∧ Hid (w.grownBy wr p.ownBlock) ∧ Hid (Pa wr B 3 p n)) (fun x _ => m - (intOf x).toNat)
    case atStart => exact ⟨0, by omega, rfl, Lib.hid (fun i hi => by omega), Lib.hid (hlt.out _ hw5), Lib.hid (HP.out.beyond hw5)⟩
    case round =>
      obtain ⟨K, hK, rfl, HV, HG, HPr⟩ := hrel
      by_cases hKm : K < m
      · obtain ⟨⟨kn, kx⟩, hkx⟩ : ∃ x, l[K]? = some x := ⟨_, List.getElem?_eq_getElem (by have := HM.out; omega)⟩
        obtain ⟨b, o, bv, s, rfl, hqb, hbl, hra, hby, hkd⟩ := HK.out.at hkx
        have hnb := HQ.out b hqb hbl
        have hblk : wr.heap[b]? = w.heap[b]? := HG.out.block b hbl (fun e => hnb e.symm)
        obtain ⟨sd, sc, rfl⟩ := hkd.slice
        have hby2 := Lib.hid hby
        obtain ⟨bd2, bc2, rfl, hbb⟩ := hby
        clear hbb
        obtain ⟨r0, r1, r2, r3, r4, r5, r6, r7, r8, r9⟩ := rowV (rangeAt_block hblk hra)
        clear hra hblk
        have hpl := HPr.out.lt
        have hzr := HG.out.size
        have hmem := List.mem_of_getElem? hkx
        obtain ⟨i0, hi, iz0, iz1, iz2⟩ := hi_int
        have HIx := HI.out _ hmem
        have KQ : Hid (∀ w6 : World, wr.grownBy w6 p.ownBlock → Is .V (fun b => Q b ∧ b < w.heap.size) w6 k kx (.agg #[.int .i64 kx.o.kind, .int .u64 kx.o.bits, .int .u64 kx.o.high, .int .u64 kx.o.low, .string (bs kx.o.text), .string (bs kx.o.more), .int .i64 kx.o.sub, .slice bd2 kx.o.bytes.length bc2, .slice sd kx.kids.length sc])) := Lib.hid (fun w6 h6 => by
          have h1 : Is .V Q w k kx (.agg #[.int .i64 kx.o.kind, .int .u64 kx.o.bits, .int .u64 kx.o.high, .int .u64 kx.o.low, .string (bs kx.o.text), .string (bs kx.o.more), .int .i64 kx.o.sub, .slice bd2 kx.o.bytes.length bc2, .slice sd kx.kids.length sc]) := ⟨_, _, rfl, hby2.out, hkd⟩
          exact (h1.mono (fun b hb hl => ⟨hb, hl⟩)).keeps (keeps_grown (grown_trans HG.out h6) (fun b hb _ => HQ.out b hb.1 hb.2)))
        have HMEM := Lib.hid hmem
        have HKX := Lib.hid hkx
        obtain ⟨V0, hV0⟩ : ∃ x, bs kn = x := ⟨_, rfl⟩
        rw [hV0] at r0 HIx
        obtain ⟨V1, hV1⟩ : ∃ x, kx.o.kind = x := ⟨_, rfl⟩
        obtain ⟨V2, hV2⟩ : ∃ x, kx.o.bits = x := ⟨_, rfl⟩
        obtain ⟨V3, hV3⟩ : ∃ x, kx.o.high = x := ⟨_, rfl⟩
        obtain ⟨V4, hV4⟩ : ∃ x, kx.o.low = x := ⟨_, rfl⟩
        obtain ⟨V5, hV5⟩ : ∃ x, bs kx.o.text = x := ⟨_, rfl⟩
        obtain ⟨V6, hV6⟩ : ∃ x, bs kx.o.more = x := ⟨_, rfl⟩
        obtain ⟨V7, hV7⟩ : ∃ x, kx.o.sub = x := ⟨_, rfl⟩
        obtain ⟨V8, hV8⟩ : ∃ x, kx.o.bytes.length = x := ⟨_, rfl⟩
        obtain ⟨V9, hV9⟩ : ∃ x, kx.kids.length = x := ⟨_, rfl⟩
        rw [hV1] at r1 KQ
        rw [hV2] at r2 KQ
        rw [hV3] at r3 KQ
        rw [hV4] at r4 KQ
        rw [hV5] at r5 KQ
        rw [hV6] at r6 KQ
        rw [hV7] at r7 KQ
        rw [hV8] at r8 KQ
        rw [hV9] at r9 KQ
        have HIx := Lib.hid HIx
        clear hV0 hV1 hV2 hV3 hV4 hV5 hV6 hV7 hV8 hV9 hmem hkx hkd hby2
        cases ho : okT k kn kx
        · rw [ho] at HIx
          have hfa : R = false := by
            rw [← HR.out, Bool.eq_false_iff]
            intro h
            rw [List.all_eq_true.1 h _ HMEM.out] at ho
            cases ho
          subst hfa
          go_upto_region 11 with fail
          clear r0 r1 r2 r3 r4 r5 r6 r7 r8 r9
          go_region_held_law (fun W => (W.cell? ⟨wr.heap.size, 0, none⟩ = some (.string V0) ∧ W.cell? ⟨wr.heap.size, 1, none⟩ = some (.int .i64 V1) ∧ W.cell? ⟨wr.heap.size, 2, none⟩ = some (.int .u64 V2) ∧ W.cell? ⟨wr.heap.size, 3, none⟩ = some (.int .u64 V3) ∧ W.cell? ⟨wr.heap.size, 4, none⟩ = some (.int .u64 V4) ∧ W.cell? ⟨wr.heap.size, 5, none⟩ = some (.string V5) ∧ W.cell? ⟨wr.heap.size, 6, none⟩ = some (.string V6) ∧ W.cell? ⟨wr.heap.size, 7, none⟩ = some (.int .i64 V7) ∧ W.cell? ⟨wr.heap.size, 8, none⟩ = some (.slice bd2 V8 bc2) ∧ W.cell? ⟨wr.heap.size, 9, none⟩ = some (.slice sd V9 sc)) ∧ W.heap[wr.heap.size]? = some (.cells #[.string V0, .int .i64 V1, .int .u64 V2, .int .u64 V3, .int .u64 V4, .string V5, .string V6, .int .i64 V7, .slice bd2 V8 bc2, .slice sd V9 sc] 51 (0, 0))) ((refine row10 ?_; first | assumption | exact heap_alloc_last wr _ | exact (Below.heap_alloc _ _ _ (by simp)).trans (heap_alloc_last wr _))) (first | (refine step_append_path _ rfl _ _ _ rfl B 3 i0 (.int .i64 0) Tryz.underlying31 hi iz0 iz1 iz2 rfl p n (by simp [Act.eval, Act.put]) ?c1 ⟨wr.heap.size + 1, 0, none⟩ 1 (.int .i64 K) (by simp [Act.eval, Act.put]) ?c2 rfl (by omega) ?c3 ?_; (case c1 => exact HPr.out.beyond bel); (case c2 => (simp [go_sem]; done)); (case c3 => (simp; omega)); intro g6 cap6 w6 h6; have hb6 : wr.grownBy w6 p.ownBlock := grown_trans (grown_below bel _) h6.grown; have hs6 := h6.grown.size; (simp at hs6); have hlt6 := h6.lt; have hd3 : ∀ b, Q b → b < w.heap.size → some g6 ≠ some b := (fun b h1 h2 e => by injection e with e; subst e; rcases h6.at' with h | h <;> first | (exact HQ.out _ h1 h2 h) | (simp at h; omega)); have hS6 := (h6.grown.block wr.heap.size (by simp; omega) (fun e => by have := hpl _ e.symm; omega)).trans ((Below.heap_alloc _ _ _ (by simp)).trans (heap_alloc_last wr _)); have hn6 : some wr.heap.size ≠ some g6 := (fun e => by injection e with e; rcases h6.at' with h | h <;> first | (have := hpl _ h; omega) | (simp at h; omega))) | (go_at_call 105; go_loud (refine (HIx.out (fun b => Q b ∧ b < w.heap.size) w6 _ (.slice (some ⟨g6, 0, none⟩) (n + 1) cap6) (n + 1) ?d1 h6.new (by omega) ?d2 ?d3).mono ?_; (case d1 => exact KQ.out w6 hb6); (case d2 => omega); (case d3 => exact fun b hb _ e => hd3 b hb.1 hb.2 e); rintro e w7 ⟨⟨qa, qn, qc, rfl⟩, hg7, hp7⟩); have pk := pk_child h6 hg7 hp7; have hG7 : w.grownBy w7 p.ownBlock := grown_trans HG.out (grown_trans (grown_below bel _) pk.1); have hP7 := pk.2; have hS7 := (hg7.block wr.heap.size ?d4 hn6).trans hS6; (case d4 => omega)))
          clear hS6 hS7 h6 hg7 hp7 pk hb6 hs6 hlt6 hd3 hn6
          replace hG7 := Lib.hid hG7
          replace hP7 := Lib.hid hP7
          go_wp2_with fail
          go_ret2
          exact ⟨⟨_, _, _, rfl⟩, hG7.out, hP7.out⟩
        · rw [ho] at HIx
          have HV2 : Hid (∀ i, i < K + 1 → ∀ x, l[i]? = some x → okT k x.1 x.2 = true) := Lib.hid (fun i hi x hx => by
            rcases Nat.lt_or_eq_of_le (Nat.le_of_lt_succ hi) with h | h
            · exact HV.out i h x hx
            · subst h
              rw [HKX.out] at hx
              injection hx with hx
              subst hx
              exact ho)
          go_upto_region 11 with fail
          clear r0 r1 r2 r3 r4 r5 r6 r7 r8 r9
          go_region_held_law (fun W => (W.cell? ⟨wr.heap.size, 0, none⟩ = some (.string V0) ∧ W.cell? ⟨wr.heap.size, 1, none⟩ = some (.int .i64 V1) ∧ W.cell? ⟨wr.heap.size, 2, none⟩ = some (.int .u64 V2) ∧ W.cell? ⟨wr.heap.size, 3, none⟩ = some (.int .u64 V3) ∧ W.cell? ⟨wr.heap.size, 4, none⟩ = some (.int .u64 V4) ∧ W.cell? ⟨wr.heap.size, 5, none⟩ = some (.string V5) ∧ W.cell? ⟨wr.heap.size, 6, none⟩ = some (.string V6) ∧ W.cell? ⟨wr.heap.size, 7, none⟩ = some (.int .i64 V7) ∧ W.cell? ⟨wr.heap.size, 8, none⟩ = some (.slice bd2 V8 bc2) ∧ W.cell? ⟨wr.heap.size, 9, none⟩ = some (.slice sd V9 sc)) ∧ W.heap[wr.heap.size]? = some (.cells #[.string V0, .int .i64 V1, .int .u64 V2, .int .u64 V3, .int .u64 V4, .string V5, .string V6, .int .i64 V7, .slice bd2 V8 bc2, .slice sd V9 sc] 51 (0, 0))) ((refine row10 ?_; first | assumption | exact heap_alloc_last wr _ | exact (Below.heap_alloc _ _ _ (by simp)).trans (heap_alloc_last wr _))) (first | (refine step_append_path _ rfl _ _ _ rfl B 3 i0 (.int .i64 0) Tryz.underlying31 hi iz0 iz1 iz2 rfl p n (by simp [Act.eval, Act.put]) ?c1 ⟨wr.heap.size + 1, 0, none⟩ 1 (.int .i64 K) (by simp [Act.eval, Act.put]) ?c2 rfl (by omega) ?c3 ?_; (case c1 => exact HPr.out.beyond bel); (case c2 => (simp [go_sem]; done)); (case c3 => (simp; omega)); intro g6 cap6 w6 h6; have hb6 : wr.grownBy w6 p.ownBlock := grown_trans (grown_below bel _) h6.grown; have hs6 := h6.grown.size; (simp at hs6); have hlt6 := h6.lt; have hd3 : ∀ b, Q b → b < w.heap.size → some g6 ≠ some b := (fun b h1 h2 e => by injection e with e; subst e; rcases h6.at' with h | h <;> first | (exact HQ.out _ h1 h2 h) | (simp at h; omega)); have hS6 := (h6.grown.block wr.heap.size (by simp; omega) (fun e => by have := hpl _ e.symm; omega)).trans ((Below.heap_alloc _ _ _ (by simp)).trans (heap_alloc_last wr _)); have hn6 : some wr.heap.size ≠ some g6 := (fun e => by injection e with e; rcases h6.at' with h | h <;> first | (have := hpl _ h; omega) | (simp at h; omega))) | (go_at_call 105; go_loud (refine (HIx.out (fun b => Q b ∧ b < w.heap.size) w6 _ (.slice (some ⟨g6, 0, none⟩) (n + 1) cap6) (n + 1) ?d1 h6.new (by omega) ?d2 ?d3).mono ?_; (case d1 => exact KQ.out w6 hb6); (case d2 => omega); (case d3 => exact fun b hb _ e => hd3 b hb.1 hb.2 e); rintro e w7 ⟨⟨qa, qn, qc, rfl⟩, hg7, hp7⟩); have pk := pk_child h6 hg7 hp7; have hG7 : w.grownBy w7 p.ownBlock := grown_trans HG.out (grown_trans (grown_below bel _) pk.1); have hP7 := pk.2; have hS7 := (hg7.block wr.heap.size ?d4 hn6).trans hS6; (case d4 => omega)))
          clear hS6 hS7 h6 hg7 hp7 pk hb6 hs6 hlt6 hd3 hn6
          replace hG7 := Lib.hid hG7
          replace hP7 := Lib.hid hP7
          go_wp2_with fail
          go_roundw
          case rel => exact ⟨K + 1, by omega, by go_num, HV2, hG7, hP7⟩
          case measure => simp [intOf]; omega
      · have hKe : K = m := by omega
        subst hKe
        have hall : R = true := HR.out.symm.trans (List.all_eq_true.2 (fun x hx => by
          obtain ⟨i, hi⟩ := List.mem_iff_getElem?.1 hx
          have hl := (List.getElem?_eq_some_iff.1 hi).1
          exact HV.out i (by have := HM.out; omega) x hi))
        subst hall
        go_wp2_with fail
        go_ret2
        exact ⟨⟨_, _, _, rfl⟩, HG.out, HPr.out⟩
theorem tcheck_any : ∀ (k : Nat) (t : Ro) (nm : List UInt8) (Q : Nat → Prop) (w : World) (v p : Value) (n B : Nat), Dk k t → nm.length ≤ 200 → Is .V Q w k t v → Pa w B 3 p n → n + k ≤ 900 → B ≤ w.heap.size → (∀ b, Q b → b < w.heap.size → p.ownBlock ≠ some b) →
    Calls Tryz.prog 105 #[v, .string (bs nm), p] w fun e w' => (∃ qa qn qc, e = .returned (.tuple #[.slice qa qn qc, .int .i64 (if okT k nm t = true then 0 else 4)])) ∧ w.grownBy w' p.ownBlock ∧ Pa w' B 3 p n := by
  have leaf : ∀ (k : Nat) (t : Ro) (nm : List UInt8) (Q : Nat → Prop) (w : World) (v p : Value) (n B : Nat), Leaf t → nm.length ≤ 200 → Is .V Q w k t v → Pa w B 3 p n → n + k ≤ 900 →
      Calls Tryz.prog 105 #[v, .string (bs nm), p] w fun e w' => (∃ qa qn qc, e = .returned (.tuple #[.slice qa qn qc, .int .i64 (if okT k nm t = true then 0 else 4)])) ∧ w.grownBy w' p.ownBlock ∧ Pa w' B 3 p n := by
    intro k t nm Q w v p n B hd hnm his hp hn
    obtain ⟨bv, s, rfl, ⟨bd, bc, rfl, _⟩, hk⟩ := his
    obtain ⟨ad, c, rfl⟩ := hk.slice
    rcases hd with ⟨x, hx, rfl⟩ | rfl
    · have h := check_2 x hx nm hnm bd bc ad c p n B (by omega) w hp
      rw [okT_vS]
      exact h
    · have h := check_16 nm hnm bd bc ad c p n B (by omega) w hp
      rw [okT_vI]
      exact h
  intro k
  induction k with
  | zero => exact fun t nm Q w v p n B hd hnm his hp hn hB hQ => leaf 0 t nm Q w v p n B hd hnm his hp hn
  | succ k ih =>
    intro t nm Q w v p n B hd hnm his hp hn hB hQ
    rcases hd with hd | ⟨l, ht, hl, hd⟩
    · exact leaf (k + 1) t nm Q w v p n B hd hnm his hp hn
    · obtain ⟨bv, s, rfl, hby, hk⟩ := his
      have h0 : decide (Wh ([] : List UInt8)) = true := by decide
      rcases ht with rfl | rfl
      · obtain ⟨bd, bc, rfl, _⟩ := hby
        obtain ⟨ad, c, rfl⟩ := hk.slice
        rw [okT_v k nm l (.inl rfl)]
        exact check_3 k l hl Q nm hnm bd bc ad l.length c rfl p n B (by omega) w hp hB hQ hk (fun x hx Q w v p n his hp hn hB hQ => ih x.2 x.1 Q w v p n B (hd x hx).2 (hd x hx).1 his hp hn hB hQ)
      · obtain ⟨bd, bc, rfl, _⟩ := hby
        obtain ⟨ad, c, rfl⟩ := hk.slice
        rw [okT_v k nm l (.inr rfl)]
        exact check_4 k l hl Q nm hnm bd bc ad l.length c rfl p n B (by omega) w hp hB hQ hk (fun x hx Q w v p n his hp hn hB hQ => ih x.2 x.1 Q w v p n B (hd x hx).2 (hd x hx).1 his hp hn hB hQ)
end
section
open Go.RowKit
theorem Is.form {Q : Nat → Prop} {w : World} {k : Nat} {t : Ro} {v : Value} (h : Is .V Q w k t v) : ∃ bd bc ad c, v = .agg #[.int .i64 t.o.kind, .int .u64 t.o.bits, .int .u64 t.o.high, .int .u64 t.o.low, .string (bs t.o.text), .string (bs t.o.more), .int .i64 t.o.sub, .slice bd t.o.bytes.length bc, .slice ad t.kids.length c] := by
  obtain ⟨bv, s, rfl, ⟨bd, bc, rfl, _⟩, hk⟩ := h
  obtain ⟨ad, c, rfl⟩ := hk.slice
  exact ⟨bd, bc, ad, c, rfl⟩
theorem tCheck_any (k : Nat) (t : Ro) (Q : Nat → Prop) (w : World) (v : Value) (hd : Dk k t) (hk : k ≤ 800) (h : Is .V Q w k t v) :
    Calls Tryz.prog 60 #[v] w fun e w' => (∃ qa qn qc, e = .returned (.tuple #[.slice qa qn qc, .int .i64 (if okT k [] t = true then 0 else 4)])) ∧ Below w.heap.size w w' := by
  have H := Lib.hid (fun w' (hb : Below w.heap.size w w') => tcheck_any k t [] Q w' v (.slice none 0 0) 0 0 hd (by simp) ((h.mono (fun b hb _ => hb)).beyond hb) (Pa.nil _ _ _) (by omega) (by omega) (fun b _ _ e => by cases e))
  obtain ⟨bd, bc, ad, c, rfl⟩ := h.form
  clear h
  generalize okT k [] t = R at *
  generalize t.o.kind = V1 at *
  generalize t.o.bits = V2 at *
  generalize t.o.high = V3 at *
  generalize t.o.low = V4 at *
  generalize bs t.o.text = V5 at *
  generalize bs t.o.more = V6 at *
  generalize t.o.sub = V7 at *
  generalize t.o.bytes.length = V8 at *
  generalize t.kids.length = V9 at *
  have HH : Hid (∀ w', Below w.heap.size w w' → Calls Tryz.prog 105 #[.agg #[.int .i64 V1, .int .u64 V2, .int .u64 V3, .int .u64 V4, .string V5, .string V6, .int .i64 V7, .slice bd V8 bc, .slice ad V9 c], .string { data := #[] }, .slice none 0 0] w' fun e w'' => (∃ qa qn qc, e = .returned (.tuple #[.slice qa qn qc, .int .i64 (if R = true then 0 else 4)])) ∧ Below w'.heap.size w' w'') := Lib.hid (fun w' hb => (H.out w' hb).mono (fun e w'' h => ⟨h.1, below_grown h.2.1⟩))
  clear H
  obtain ⟨E, hE⟩ : ∃ z : Int, (if R = true then (0 : Int) else 4) = z := ⟨_, rfl⟩
  rw [hE] at HH ⊢
  clear hE
  go_enter Tryz.func60, Tryz.ntmps60
  go_wp2_with fail
  with_reducible refine (HH.out _ bel).mono ?_
  rintro e w1 ⟨⟨qa, qn, qc, rfl⟩, hb1⟩
  have hw1 := bwB hb1 w.heap.size w
  clear hb1
  go_wp2_with fail
  go_ret2
  exact ⟨⟨_, _, _, rfl⟩, hw1⟩
end
end Go.Proofs.YtihnfhhopldllaaGreatDoor
