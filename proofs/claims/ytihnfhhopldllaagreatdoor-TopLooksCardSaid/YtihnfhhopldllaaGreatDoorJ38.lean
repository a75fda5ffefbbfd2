/- Parts of the proof of TopLooks: U65. No condition. -/
import Derived.Test.YtihnfhhopldllaaGreatDoorJ1
import Derived.Test.YtihnfhhopldllaaGreatDoorJ35
namespace Go.Proofs.YtihnfhhopldllaaGreatDoor
set_option linter.unusedSimpArgs false
set_option linter.unusedVariables false
set_option maxHeartbeats 6400000
set_option maxRecDepth 100000
section
open Go.RowKit
def DfV (B k : Nat) (t : Ro) : Prop := ∀ (Q Q2 : Nat → Prop) (w : World) (v v2 p : Value) (n : Nat), Is .V Q w k t v → Is .V Q2 w k t v2 → Pa w B 3 p n → n + k ≤ 900 → B ≤ w.heap.size → (∀ b, Q b → b < w.heap.size → p.ownBlock ≠ some b) → (∀ b, Q2 b → b < w.heap.size → p.ownBlock ≠ some b) → Calls Tryz.prog 71 #[.slice none 0 0, v, v2, p] w fun e w' => e = .returned (.tuple #[.slice none 0 0, .bool true]) ∧ w.grownBy w' p.ownBlock ∧ Pa w' B 3 p n
theorem differ_lv (k : Nat) (l : KL) (hl : l.length ≤ 20) (V1 V2 V3 V4 V7 : Int) (V5 V6 : ByteArray) (bd0 bd1 ad ad2 : Option Addr) (bc0 bc1 m c c2 : Nat) (hm : l.length = m) (Q Q2 : Nat → Prop) (w : World) (hk : Kd .V Q w (k + 1) l (.slice ad m c)) (hk2 : Kd .V Q2 w (k + 1) l (.slice ad2 m c2)) (B : Nat) (p : Value) (n : Nat) (hn : m = 0 ∨ n + (k + 1) ≤ 900) (hp : Pa w B 3 p n) (hB : B ≤ w.heap.size) (hQ : ∀ b, Q b → b < w.heap.size → p.ownBlock ≠ some b) (hQ2 : ∀ b, Q2 b → b < w.heap.size → p.ownBlock ≠ some b) (ih : ∀ x ∈ l, DfV B k x.2) :
    Calls Tryz.prog 71 #[.slice none 0 0, .agg #[.int .i64 V1, .int .u64 V2, .int .u64 V3, .int .u64 V4, .string V5, .string V6, .int .i64 V7, .slice bd0 0 bc0, .slice ad m c], .agg #[.int .i64 V1, .int .u64 V2, .int .u64 V3, .int .u64 V4, .string V5, .string V6, .int .i64 V7, .slice bd1 0 bc1, .slice ad2 m c2], p] w fun e w' => e = .returned (.tuple #[.slice none 0 0, .bool true]) ∧ w.grownBy w' p.ownBlock ∧ Pa w' B 3 p n := by
  have HA := Lib.hid (fun w => alike_any V1 V2 V3 V4 V7 V5 V6 bd0 bd1 ad ad2 bc0 bc1 m c c2 w)
  have HK := Lib.hid hk
  have HK2 := Lib.hid hk2
  have HI : Hid (∀ x ∈ l, ∀ (Q Q2 : Nat → Prop) (w : World) (v v2 p : Value) (n : Nat), Is .V Q w k x.2 v → Is .V Q2 w k x.2 v2 → Pa w B 3 p n → n + k ≤ 900 → B ≤ w.heap.size → (∀ b, Q b → b < w.heap.size → p.ownBlock ≠ some b) → (∀ b, Q2 b → b < w.heap.size → p.ownBlock ≠ some b) → Calls Tryz.prog 71 #[.slice none 0 0, v, v2, p] w fun e w' => e = .returned (.tuple #[.slice none 0 0, .bool true]) ∧ w.grownBy w' p.ownBlock ∧ Pa w' B 3 p n) := Lib.hid ih
  have HM := Lib.hid hm
  have HP := Lib.hid hp
  have HQ := Lib.hid hQ
  have HQ2 := Lib.hid hQ2
  have hpl0 := hp.lt
  have hlt := Lib.hid (fun w' (hb : Below w.heap.size w w') => grown_below hb p.ownBlock)
  have hm20 : m ≤ 20 := by omega
  clear hk hk2 hm hl ih hp hQ hQ2
  go_enter Tryz.func71, Tryz.ntmps71
  go_wp2_with fail
  with_reducible refine (HA.out _).mono ?_
  rintro e w1 ⟨rfl, hb1⟩
  have c1_0 := cB hb1 w.heap.size 8 (.slice ad m c)
  have c1_1 := cB hb1 (w.heap.size + 1) 8 (.slice ad2 m c2)
  have hl1_0 := ltB hb1 w.heap.size
  have hl1_1 := ltB hb1 (w.heap.size + 1)
  have hw1 := bwB hb1 w.heap.size w
  have hz1 := hw1.size
  clear hb1
  go_wp2_with fail
  go_loopw [0, 32] (fun o x wr => ∃ K : Nat, K ≤ m ∧ o = .slice none 0 0 ∧ x = .int .i64 K ∧ wr.cell? ⟨w.heap.size + 1, 8, none⟩ = some (.slice ad2 m c2) ∧ w.heap.size + 1 < wr.heap.size ∧ Hid (w.grownBy wr p.ownBlock) ∧ Hid (Pa wr B 3 p n)) (fun _ x _ => m - (intOf x).toNat)
  case atStart => exact ⟨0, by omega, rfl, rfl, c1_1, hl1_1, Lib.hid (hlt.out _ hw1), Lib.hid (HP.out.beyond hw1)⟩
  case round =>
    obtain ⟨K, hK, rfl, rfl, hc8, hz1', HG, HPr⟩ := hrel
    have hzr := HG.out.size
    by_cases hKm : K < m
    · obtain ⟨⟨kn, kx⟩, hkx⟩ : ∃ x, l[K]? = some x := ⟨_, List.getElem?_eq_getElem (by have := HM.out; omega)⟩
      obtain ⟨b, o, bv, s, rfl, hqb, hbl, hra, hby, hkd⟩ := HK.out.at hkx
      have hnb := HQ.out b hqb hbl
      have hblk : wr.heap[b]? = w.heap[b]? := HG.out.block b hbl (fun e => hnb e.symm)
      obtain ⟨sd, sc, rfl⟩ := hkd.slice
      have hby2 := Lib.hid hby
      obtain ⟨bd2, bc2, rfl, hbb⟩ := hby
      obtain ⟨r0, r1, r2, r3, r4, r5, r6, r7, r8, r9⟩ := rowV (rangeAt_block hblk hra)
      have KQ : Hid (∀ w6 : World, wr.grownBy w6 p.ownBlock → Is .V (fun b => Q b ∧ b < w.heap.size) w6 k kx (.agg #[.int .i64 kx.o.kind, .int .u64 kx.o.bits, .int .u64 kx.o.high, .int .u64 kx.o.low, .string (bs kx.o.text), .string (bs kx.o.more), .int .i64 kx.o.sub, .slice bd2 kx.o.bytes.length bc2, .slice sd kx.kids.length sc])) := Lib.hid (fun w6 h6 => by
        have h1 : Is .V Q w k kx (.agg #[.int .i64 kx.o.kind, .int .u64 kx.o.bits, .int .u64 kx.o.high, .int .u64 kx.o.low, .string (bs kx.o.text), .string (bs kx.o.more), .int .i64 kx.o.sub, .slice bd2 kx.o.bytes.length bc2, .slice sd kx.kids.length sc]) := ⟨_, _, rfl, hby2.out, hkd⟩
        exact (h1.mono (fun b hb hl => ⟨hb, hl⟩)).keeps (keeps_grown (grown_trans HG.out h6) (fun b hb _ => HQ.out b hb.1 hb.2)))
      obtain ⟨b', o', bv', s', rfl, hqb', hbl', hra', hby', hkd'⟩ := HK2.out.at hkx
      have hnb' := HQ2.out b' hqb' hbl'
      have hblk' : wr.heap[b']? = w.heap[b']? := HG.out.block b' hbl' (fun e => hnb' e.symm)
      obtain ⟨se, sf, rfl⟩ := hkd'.slice
      have hby2' := Lib.hid hby'
      obtain ⟨bd3, bc3, rfl, hbb'⟩ := hby'
      obtain ⟨q0, q1, q2, q3, q4, q5, q6, q7, q8, q9⟩ := rowV (rangeAt_block hblk' hra')
      have KQ2 : Hid (∀ w6 : World, wr.grownBy w6 p.ownBlock → Is .V (fun b => Q2 b ∧ b < w.heap.size) w6 k kx (.agg #[.int .i64 kx.o.kind, .int .u64 kx.o.bits, .int .u64 kx.o.high, .int .u64 kx.o.low, .string (bs kx.o.text), .string (bs kx.o.more), .int .i64 kx.o.sub, .slice bd3 kx.o.bytes.length bc3, .slice se kx.kids.length sf])) := Lib.hid (fun w6 h6 => by
        have h1 : Is .V Q2 w k kx (.agg #[.int .i64 kx.o.kind, .int .u64 kx.o.bits, .int .u64 kx.o.high, .int .u64 kx.o.low, .string (bs kx.o.text), .string (bs kx.o.more), .int .i64 kx.o.sub, .slice bd3 kx.o.bytes.length bc3, .slice se kx.kids.length sf]) := ⟨_, _, rfl, hby2'.out, hkd'⟩
        exact (h1.mono (fun b hb hl => ⟨hb, hl⟩)).keeps (keeps_grown (grown_trans HG.out h6) (fun b hb _ => HQ2.out b hb.1 hb.2)))
      have HMEM := Lib.hid (List.mem_of_getElem? hkx)
      have HKX := Lib.hid hkx
      obtain ⟨V0, hV0⟩ : ∃ x, bs kn = x := ⟨_, rfl⟩
      obtain ⟨V1, hV1⟩ : ∃ x, kx.o.kind = x := ⟨_, rfl⟩
      obtain ⟨V2, hV2⟩ : ∃ x, kx.o.bits = x := ⟨_, rfl⟩
      obtain ⟨V3, hV3⟩ : ∃ x, kx.o.high = x := ⟨_, rfl⟩
      obtain ⟨V4, hV4⟩ : ∃ x, kx.o.low = x := ⟨_, rfl⟩
      obtain ⟨V5, hV5⟩ : ∃ x, bs kx.o.text = x := ⟨_, rfl⟩
      obtain ⟨V6, hV6⟩ : ∃ x, bs kx.o.more = x := ⟨_, rfl⟩
      obtain ⟨V7, hV7⟩ : ∃ x, kx.o.sub = x := ⟨_, rfl⟩
      obtain ⟨V8, hV8⟩ : ∃ x, kx.o.bytes.length = x := ⟨_, rfl⟩
      obtain ⟨V9, hV9⟩ : ∃ x, kx.kids.length = x := ⟨_, rfl⟩
      rw [hV0] at r0
      rw [hV1] at r1 KQ
      rw [hV2] at r2 KQ
      rw [hV3] at r3 KQ
      rw [hV4] at r4 KQ
      rw [hV5] at r5 KQ
      rw [hV6] at r6 KQ
      rw [hV7] at r7 KQ
      rw [hV8] at r8 KQ
      rw [hV9] at r9 KQ
      rw [hV0] at q0
      rw [hV1] at q1 KQ2
      rw [hV2] at q2 KQ2
      rw [hV3] at q3 KQ2
      rw [hV4] at q4 KQ2
      rw [hV5] at q5 KQ2
      rw [hV6] at q6 KQ2
      rw [hV7] at q7 KQ2
      rw [hV8] at q8 KQ2
      rw [hV9] at q9 KQ2
      clear hra' hkd' hby2' hbb' hblk' hra hkd hby2 hbb hblk hkx
      have hpl := HPr.out.lt
      have hn9 : n + (k + 1) ≤ 900 := by omega
      obtain ⟨i0, hi, iz0, iz1, iz2⟩ := hi_int
      have HIx := Lib.hid (HI.out _ HMEM.out)
      clear hV0 hV1 hV2 hV3 hV4 hV5 hV6 hV7 hV8 hV9
      have hb1 : b < wr.heap.size := by omega
      have hb2 : b' < wr.heap.size := by omega
      go_upto_region 8 with fail
      clear r0 r1 r2 r3 r4 r5 r6 r7 r8 r9
      go_region
      go_upto_region 11 with fail
      go_region_held_law (fun W => ((W.cell? ⟨wr.heap.size, 0, none⟩ = some (.string V0) ∧ W.cell? ⟨wr.heap.size, 1, none⟩ = some (.int .i64 V1) ∧ W.cell? ⟨wr.heap.size, 2, none⟩ = some (.int .u64 V2) ∧ W.cell? ⟨wr.heap.size, 3, none⟩ = some (.int .u64 V3) ∧ W.cell? ⟨wr.heap.size, 4, none⟩ = some (.int .u64 V4) ∧ W.cell? ⟨wr.heap.size, 5, none⟩ = some (.string V5) ∧ W.cell? ⟨wr.heap.size, 6, none⟩ = some (.string V6) ∧ W.cell? ⟨wr.heap.size, 7, none⟩ = some (.int .i64 V7) ∧ W.cell? ⟨wr.heap.size, 8, none⟩ = some (.slice bd2 V8 bc2) ∧ W.cell? ⟨wr.heap.size, 9, none⟩ = some (.slice sd V9 sc)) ∧ W.heap[wr.heap.size]? = some (.cells #[.string V0, .int .i64 V1, .int .u64 V2, .int .u64 V3, .int .u64 V4, .string V5, .string V6, .int .i64 V7, .slice bd2 V8 bc2, .slice sd V9 sc] 51 (0, 0))) ∧ (W.cell? ⟨w.heap.size + 1, 8, none⟩ = some (.slice (some ⟨b', o', none⟩) m c2) ∧ W.cell? ⟨b', o' + K * 10, none⟩ = some (.string V0) ∧ W.cell? ⟨b', o' + K * 10 + 1, none⟩ = some (.int .i64 V1) ∧ W.cell? ⟨b', o' + K * 10 + 2, none⟩ = some (.int .u64 V2) ∧ W.cell? ⟨b', o' + K * 10 + 3, none⟩ = some (.int .u64 V3) ∧ W.cell? ⟨b', o' + K * 10 + 4, none⟩ = some (.int .u64 V4) ∧ W.cell? ⟨b', o' + K * 10 + 5, none⟩ = some (.string V5) ∧ W.cell? ⟨b', o' + K * 10 + 6, none⟩ = some (.string V6) ∧ W.cell? ⟨b', o' + K * 10 + 7, none⟩ = some (.int .i64 V7) ∧ W.cell? ⟨b', o' + K * 10 + 8, none⟩ = some (.slice bd3 V8 bc3) ∧ W.cell? ⟨b', o' + K * 10 + 9, none⟩ = some (.slice se V9 sf))) ((refine ⟨row10 ?_, ?_, ?_, ?_, ?_, ?_, ?_, ?_, ?_, ?_, ?_, ?_⟩; (first | assumption | exact heap_alloc_last wr _ | exact (Below.heap_alloc _ _ _ (by simp)).trans (heap_alloc_last wr _)); all_goals first | assumption | (exact Lib.cell?_alloc_some _ (by assumption)) | (exact Lib.cell?_alloc_some _ (Lib.cell?_alloc_some _ (by assumption))))) (first | (refine step_append_path _ rfl _ _ _ rfl B 3 i0 (.int .i64 0) Tryz.underlying31 hi iz0 iz1 iz2 rfl p n (by simp [Act.eval, Act.put]) ?c1 ⟨wr.heap.size + 1, 0, none⟩ 1 (.int .i64 K) (by simp [Act.eval, Act.put]) ?c2 rfl (by omega) ?c3 ?_; (case c1 => exact HPr.out.beyond bel); (case c2 => (simp [go_sem]; done)); (case c3 => (simp; omega)); intro g6 cap6 w6 h6; have hb6 : wr.grownBy w6 p.ownBlock := grown_trans (grown_below bel _) h6.grown; have hs6 := h6.grown.size; (simp at hs6); have hlt6 := h6.lt; have hd3 : ∀ b, Q b → b < w.heap.size → some g6 ≠ some b := (fun b h1 h2 e => by injection e with e; subst e; rcases h6.at' with h | h <;> first | (exact HQ.out _ h1 h2 h) | (simp at h; omega)); have hd4 : ∀ b, Q2 b → b < w.heap.size → some g6 ≠ some b := (fun b h1 h2 e => by injection e with e; subst e; rcases h6.at' with h | h <;> first | (exact HQ2.out _ h1 h2 h) | (simp at h; omega)); have hS6 := (h6.grown.block wr.heap.size (by simp; omega) (fun e => by have := hpl _ e.symm; omega)).trans ((Below.heap_alloc _ _ _ (by simp)).trans (heap_alloc_last wr _)); have hn6 : some wr.heap.size ≠ some g6 := (fun e => by injection e with e; rcases h6.at' with h | h <;> first | (have := hpl _ h; omega) | (simp at h; omega)); have y6_0 : w6.cell? ⟨w.heap.size + 1, 8, none⟩ = some (.slice (some ⟨b', o', none⟩) m c2) := (row_cell hb6 (b := w.heap.size + 1) (i := 8) (by omega) (fun e => by have := hpl0 _ e; omega)).trans (by assumption); have y6_1 : w6.cell? ⟨b', o' + K * 10, none⟩ = some (.string V0) := (row_cell hb6 (b := b') (i := o' + K * 10) (by omega) (hnb')).trans (by assumption); have y6_2 : w6.cell? ⟨b', o' + K * 10 + 1, none⟩ = some (.int .i64 V1) := (row_cell hb6 (b := b') (i := o' + K * 10 + 1) (by omega) (hnb')).trans (by assumption); have y6_3 : w6.cell? ⟨b', o' + K * 10 + 2, none⟩ = some (.int .u64 V2) := (row_cell hb6 (b := b') (i := o' + K * 10 + 2) (by omega) (hnb')).trans (by assumption); have y6_4 : w6.cell? ⟨b', o' + K * 10 + 3, none⟩ = some (.int .u64 V3) := (row_cell hb6 (b := b') (i := o' + K * 10 + 3) (by omega) (hnb')).trans (by assumption); have y6_5 : w6.cell? ⟨b', o' + K * 10 + 4, none⟩ = some (.int .u64 V4) := (row_cell hb6 (b := b') (i := o' + K * 10 + 4) (by omega) (hnb')).trans (by assumption); have y6_6 : w6.cell? ⟨b', o' + K * 10 + 5, none⟩ = some (.string V5) := (row_cell hb6 (b := b') (i := o' + K * 10 + 5) (by omega) (hnb')).trans (by assumption); have y6_7 : w6.cell? ⟨b', o' + K * 10 + 6, none⟩ = some (.string V6) := (row_cell hb6 (b := b') (i := o' + K * 10 + 6) (by omega) (hnb')).trans (by assumption); have y6_8 : w6.cell? ⟨b', o' + K * 10 + 7, none⟩ = some (.int .i64 V7) := (row_cell hb6 (b := b') (i := o' + K * 10 + 7) (by omega) (hnb')).trans (by assumption); have y6_9 : w6.cell? ⟨b', o' + K * 10 + 8, none⟩ = some (.slice bd3 V8 bc3) := (row_cell hb6 (b := b') (i := o' + K * 10 + 8) (by omega) (hnb')).trans (by assumption); have y6_10 : w6.cell? ⟨b', o' + K * 10 + 9, none⟩ = some (.slice se V9 sf) := (row_cell hb6 (b := b') (i := o' + K * 10 + 9) (by omega) (hnb')).trans (by assumption)) | (go_at_call 71; go_loud (refine (HIx.out (fun b => Q b ∧ b < w.heap.size) (fun b => Q2 b ∧ b < w.heap.size) w6 _ _ (.slice (some ⟨g6, 0, none⟩) (n + 1) cap6) (n + 1) ?d1 ?d0 h6.new (by omega) ?d2 ?d3 ?d5).mono ?_; (case d1 => exact KQ.out w6 hb6); (case d0 => exact KQ2.out w6 hb6); (case d2 => omega); (case d3 => exact fun b hb _ e => hd3 b hb.1 hb.2 e); (case d5 => exact fun b hb _ e => hd4 b hb.1 hb.2 e); rintro e w7 ⟨rfl, hg7, hp7⟩); have pk := pk_child h6 hg7 hp7; have hW7 : wr.grownBy w7 p.ownBlock := grown_trans (grown_below bel _) pk.1; have hG7 : w.grownBy w7 p.ownBlock := grown_trans HG.out hW7; have hP7 := pk.2; have hS7 := (hg7.block wr.heap.size ?d4 hn6).trans hS6; (case d4 => omega); have y7_0 : w7.cell? ⟨w.heap.size + 1, 8, none⟩ = some (.slice (some ⟨b', o', none⟩) m c2) := (row_cell hW7 (b := w.heap.size + 1) (i := 8) (by omega) (fun e => by have := hpl0 _ e; omega)).trans (by assumption); have y7_1 : w7.cell? ⟨b', o' + K * 10, none⟩ = some (.string V0) := (row_cell hW7 (b := b') (i := o' + K * 10) (by omega) (hnb')).trans (by assumption); have y7_2 : w7.cell? ⟨b', o' + K * 10 + 1, none⟩ = some (.int .i64 V1) := (row_cell hW7 (b := b') (i := o' + K * 10 + 1) (by omega) (hnb')).trans (by assumption); have y7_3 : w7.cell? ⟨b', o' + K * 10 + 2, none⟩ = some (.int .u64 V2) := (row_cell hW7 (b := b') (i := o' + K * 10 + 2) (by omega) (hnb')).trans (by assumption); have y7_4 : w7.cell? ⟨b', o' + K * 10 + 3, none⟩ = some (.int .u64 V3) := (row_cell hW7 (b := b') (i := o' + K * 10 + 3) (by omega) (hnb')).trans (by assumption); have y7_5 : w7.cell? ⟨b', o' + K * 10 + 4, none⟩ = some (.int .u64 V4) := (row_cell hW7 (b := b') (i := o' + K * 10 + 4) (by omega) (hnb')).trans (by assumption); have y7_6 : w7.cell? ⟨b', o' + K * 10 + 5, none⟩ = some (.string V5) := (row_cell hW7 (b := b') (i := o' + K * 10 + 5) (by omega) (hnb')).trans (by assumption); have y7_7 : w7.cell? ⟨b', o' + K * 10 + 6, none⟩ = some (.string V6) := (row_cell hW7 (b := b') (i := o' + K * 10 + 6) (by omega) (hnb')).trans (by assumption); have y7_8 : w7.cell? ⟨b', o' + K * 10 + 7, none⟩ = some (.int .i64 V7) := (row_cell hW7 (b := b') (i := o' + K * 10 + 7) (by omega) (hnb')).trans (by assumption); have y7_9 : w7.cell? ⟨b', o' + K * 10 + 8, none⟩ = some (.slice bd3 V8 bc3) := (row_cell hW7 (b := b') (i := o' + K * 10 + 8) (by omega) (hnb')).trans (by assumption); have y7_10 : w7.cell? ⟨b', o' + K * 10 + 9, none⟩ = some (.slice se V9 sf) := (row_cell hW7 (b := b') (i := o' + K * 10 + 9) (by omega) (hnb')).trans (by assumption)))
      clear hS6 hS7 h6 hg7 hp7 pk hb6 hs6 hlt6 hd3 hd4 hn6 y6_0 y6_1 y6_2 y6_3 y6_4 y6_5 y6_6 y6_7 y6_8 y6_9 y6_10
      have hz7 := hW7.size
      replace hG7 := Lib.hid hG7
      replace hP7 := Lib.hid hP7
      clear hW7
      go_wp2_with fail
      go_roundw
      case rel => exact ⟨K + 1, by omega, rfl, by go_num, y7_0, by omega, hG7, hP7⟩
      case measure => simp [intOf]; omega
    · have hKe : K = m := by omega
      subst hKe
      go_wp2_with fail
      go_ret2
      exact ⟨rfl, HG.out, HPr.out⟩
theorem df_any : ∀ (k : Nat) (t : Ro) (B : Nat), Dk k t → DfV B k t := by
  have leaf : ∀ (k : Nat) (t : Ro) (B : Nat), Leaf t → DfV B k t := by
    intro k t B hd Q Q2 w v v2 p n h h2 hp hn hB hQ hQ2
    obtain ⟨bv, s, rfl, ⟨bd, bc, rfl, _⟩, hk⟩ := h
    obtain ⟨bv2, s2, rfl, ⟨bd2, bc2, rfl, _⟩, hk2⟩ := h2
    obtain ⟨ad, c, rfl⟩ := hk.slice
    obtain ⟨ad2, c2, rfl⟩ := hk2.slice
    rcases hd with ⟨x, hx, rfl⟩ | rfl
    · exact differ_lv 0 [] (by simp) 2 0 0 0 0 (bs x) (bs []) bd bd2 ad ad2 bc bc2 0 c c2 rfl Q Q2 w hk.none hk2.none B p n (.inl rfl) hp hB hQ hQ2 (fun x hx => by cases hx)
    · exact differ_lv 0 [] (by simp) 16 1 0 0 0 (bs []) (bs []) bd bd2 ad ad2 bc bc2 0 c c2 rfl Q Q2 w hk.none hk2.none B p n (.inl rfl) hp hB hQ hQ2 (fun x hx => by cases hx)
  intro k
  induction k with
  | zero => exact fun t B hd => leaf 0 t B hd
  | succ k ih =>
    intro t B hd
    rcases hd with hd | ⟨l, ht, hl, hd⟩
    · exact leaf (k + 1) t B hd
    · intro Q Q2 w v v2 p n h h2 hp hn hB hQ hQ2
      obtain ⟨bv, s, rfl, hby, hk⟩ := h
      obtain ⟨bv2, s2, rfl, hby2, hk2⟩ := h2
      rcases ht with rfl | rfl
      · obtain ⟨bd, bc, rfl, _⟩ := hby
        obtain ⟨bd2, bc2, rfl, _⟩ := hby2
        obtain ⟨ad, c, rfl⟩ := hk.slice
        obtain ⟨ad2, c2, rfl⟩ := hk2.slice
        exact differ_lv k l hl 3 0 0 0 0 (bs []) (bs []) bd bd2 ad ad2 bc bc2 l.length c c2 rfl Q Q2 w hk hk2 B p n (.inr (by omega)) hp hB hQ hQ2 (fun x hx => ih x.2 B (hd x hx).2)
      · obtain ⟨bd, bc, rfl, _⟩ := hby
        obtain ⟨bd2, bc2, rfl, _⟩ := hby2
        obtain ⟨ad, c, rfl⟩ := hk.slice
        obtain ⟨ad2, c2, rfl⟩ := hk2.slice
        exact differ_lv k l hl 4 0 0 0 0 (bs []) (bs []) bd bd2 ad ad2 bc bc2 l.length c c2 rfl Q Q2 w hk hk2 B p n (.inr (by omega)) hp hB hQ hQ2 (fun x hx => ih x.2 B (hd x hx).2)
end
end Go.Proofs.YtihnfhhopldllaaGreatDoor
