/- Parts of the proof of TopLooks: U60. No condition. -/
import Derived.Test.YtihnfhhopldllaaGreatDoorJ1
import Derived.Test.YtihnfhhopldllaaGreatDoorJ14
import Derived.Test.YtihnfhhopldllaaGreatDoorJ27
namespace Go.Proofs.YtihnfhhopldllaaGreatDoor
set_option linter.unusedSimpArgs false
set_option linter.unusedVariables false
set_option maxHeartbeats 6400000
set_option maxRecDepth 100000
section
open Go.RowKit
theorem eql_nil (w : World) (a : Option Addr) (n c n' c' : Nat) : (binOp .eql 24 (.slice a n c) (.slice none n' c')).run Tryz.prog w = .ok (.bool a.isNone) w := Lib.run_eql_slice_nil w _ _ a n c n' c' Tryz.underlying24
theorem clone_b (b off n c : Nat) (news : List Value) (w : World) (hl : news.length = n) (hn : n ≤ 1000000000) (hc : ∀ j u, news[j]? = some u → w.cell? ⟨b, off + j, none⟩ = some u) (h1 : ∀ u ∈ news, u.oneCell' = true) :
    Calls Tryz.prog 30 #[.slice (some ⟨b, off, none⟩) n c] w fun e w' => ∃ v', e = .returned v' ∧ w'.ownsRow w.heap.size 5 1 v' n news ∧ v' ≠ .slice none 0 0 ∧ Below w.heap.size w w' := by
  have q22 := eql_nil
  have A := Lib.hid hc
  obtain ⟨i0, hi, iz0, iz1, iz2⟩ := hi_u8
  clear hc
  go_enter Tryz.func30, Tryz.ntmps30
  go_wp2_with (at_builtin; refine wpList_append_own _ rfl _ _ 24 rfl w.heap.size 5 i0 (.int .u8 0) 1 1 Tryz.underlying24 hi iz0 iz1 iz2 rfl (by decide) _ _ _ rfl (World.ownsRow_made w #[] 0 (Nat.le_refl _) (Nat.zero_le _) (by simp)) ⟨b, off, none⟩ n c news rfl ?qc1 ?qc2 ?qc3 ?qc4 ?qc5 ?qc6 ?_)
  case qc1 => rw [Nat.mul_one]; exact hl
  case qc2 =>
    intro j u hj
    rw [Addr.add_lit]
    exact Lib.cell?_alloc_some _ (A.out j u hj)
  case qc3 => exact h1
  case qc4 => (unfold maxLen; omega)
  case qc5 => omega
  case qc6 => simp
  intro v' w1 hown hgrow hnil
  go_wp2_with fail
  go_ret
  refine ⟨v', rfl, by simpa using hown, ?_, ?_⟩
  · exact hnil
  · exact ((Below.refl _ w).alloc (Nat.le_refl _) _).grown hgrow (by simp) (by intro k hk; simp [Value.ownBlock] at hk; omega)
theorem clone_bn (n c : Nat) (w : World) : Calls Tryz.prog 30 #[.slice none n c] w fun e w' => e = .returned (.slice none 0 0) ∧ w = w' := by
  have q22 := eql_nil
  go_enter Tryz.func30, Tryz.ntmps30
  go_wp2_with fail
  go_ret
  exact ⟨rfl, rfl⟩
theorem clone_b0' (a : Addr) (c : Nat) (w : World) : Calls Tryz.prog 30 #[.slice (some a) 0 c] w fun e w' => (∃ qa qc, e = .returned (.slice qa 0 qc)) ∧ Below w.heap.size w w' := by
  have q22 := eql_nil
  obtain ⟨i0, hi, iz0, iz1, iz2⟩ := hi_u8
  go_enter Tryz.func30, Tryz.ntmps30
  go_wp2_with (at_builtin; refine wpList_append_own _ rfl _ _ 24 rfl w.heap.size 5 i0 (.int .u8 0) 1 1 Tryz.underlying24 hi iz0 iz1 iz2 rfl (by decide) _ _ _ rfl (World.ownsRow_made w #[] 0 (Nat.le_refl _) (Nat.zero_le _) (by simp)) a 0 c [] rfl rfl (by intro j u hj; simp at hj) (by intro u hu; cases hu) (by unfold maxLen; omega) (by omega) (by simp) ?_)
  intro v' w1 hown hgrow hnil
  go_wp2_with fail
  go_ret
  refine ⟨?_, ((Below.refl _ w).alloc (Nat.le_refl _) _).grown hgrow (by simp) (by intro k hk; simp [Value.ownBlock] at hk; omega)⟩
  have hown : w1.ownsRow w.heap.size 5 1 v' 0 [] := by simpa using hown
  rcases hown.2 with ⟨rfl, _⟩ | ⟨g, cap, cur, rfl, _⟩
  · exact ⟨_, _, rfl⟩
  · exact ⟨_, _, rfl⟩
theorem clone_b0 (a : Option Addr) (c : Nat) (w : World) : Calls Tryz.prog 30 #[.slice a 0 c] w fun e w' => (∃ qa qc, e = .returned (.slice qa 0 qc)) ∧ Below w.heap.size w w' := by
  cases a with
  | none =>
    refine (clone_bn 0 c w).mono ?_
    rintro e w' ⟨rfl, rfl⟩
    exact ⟨⟨_, _, rfl⟩, Below.refl _ _⟩
  | some a => exact clone_b0' a c w
def TuV (k : Nat) (t : Ro) : Prop := ∀ (Q : Nat → Prop) (w : World) (v : Value), Is .V Q w k t v → Calls Tryz.prog 14 #[v] w fun e w' => (∃ x, e = .returned x ∧ Is .V (fun b => w.heap.size ≤ b) w' k t x) ∧ Below w.heap.size w w'
theorem turn_lv (k : Nat) (l : KL) (hl : l.length ≤ 20) (O1 O2 O3 O4 O7 : Int) (O5 O6 : ByteArray) (hO : (O1 == 1) = false) (hO' : (O1 == 18) = false) (bd bd' : Option Addr) (bc : Nat) (ad : Option Addr) (m c : Nat) (hm : l.length = m) (Q : Nat → Prop) (w : World) (hk : Kd .V Q w (k + 1) l (.slice ad m c)) (ih : ∀ x ∈ l, TuV k x.2) :
    Calls Tryz.prog 14 #[.agg #[.int .i64 O1, .int .u64 O2, .int .u64 O3, .int .u64 O4, .string O5, .string O6, .int .i64 O7, .slice bd 0 bc, .slice ad m c]] w fun e w' => (∃ qa qc s, e = .returned (.agg #[.int .i64 O1, .int .u64 O2, .int .u64 O3, .int .u64 O4, .string O5, .string O6, .int .i64 O7, .slice qa 0 qc, s]) ∧ Kd .V (fun b => w.heap.size ≤ b) w' (k + 1) l s) ∧ Below w.heap.size w w' := by
  have HC := Lib.hid (fun w => clone_b0 bd bc w)
  have HK := Lib.hid hk
  have HI : Hid (∀ x ∈ l, ∀ (Q : Nat → Prop) (w : World) (v : Value), Is .V Q w k x.2 v → Calls Tryz.prog 14 #[v] w fun e w' => (∃ y, e = .returned y ∧ Is .V (fun b => w.heap.size ≤ b) w' k x.2 y) ∧ Below w.heap.size w w') := Lib.hid ih
  have HM := Lib.hid hm
  have hm20 : m ≤ 20 := by omega
  obtain ⟨i0, hi, iz0, iz1, iz2⟩ := hi_field
  clear hk hm hl ih
  go_enter Tryz.func14, Tryz.ntmps14
  go_wp2_with fail
  with_reducible refine (HC.out _).mono ?_
  rintro e w1 ⟨⟨qa, qc, rfl⟩, hb1⟩
  obtain ⟨c1_0, f1_0⟩ := cf hb1 w.heap.size 0 (.int .i64 O1)
  obtain ⟨c1_1, f1_1⟩ := cf hb1 w.heap.size 1 (.int .u64 O2)
  obtain ⟨c1_2, f1_2⟩ := cf hb1 w.heap.size 2 (.int .u64 O3)
  obtain ⟨c1_3, f1_3⟩ := cf hb1 w.heap.size 3 (.int .u64 O4)
  obtain ⟨c1_4, f1_4⟩ := cf hb1 w.heap.size 4 (.string O5)
  obtain ⟨c1_5, f1_5⟩ := cf hb1 w.heap.size 5 (.string O6)
  obtain ⟨c1_6, f1_6⟩ := cf hb1 w.heap.size 6 (.int .i64 O7)
  obtain ⟨c1_7, f1_7⟩ := cf hb1 w.heap.size 7 (.slice bd 0 bc)
  obtain ⟨c1_8, f1_8⟩ := cf hb1 w.heap.size 8 (.slice ad m c)
  obtain ⟨c1_9, f1_9⟩ := cf hb1 (w.heap.size + 1) 0 (.int .i64 0)
  obtain ⟨c1_10, f1_10⟩ := cf hb1 (w.heap.size + 1) 1 (.int .u64 0)
  obtain ⟨c1_11, f1_11⟩ := cf hb1 (w.heap.size + 1) 2 (.int .u64 0)
  obtain ⟨c1_12, f1_12⟩ := cf hb1 (w.heap.size + 1) 3 (.int .u64 0)
  obtain ⟨c1_13, f1_13⟩ := cf hb1 (w.heap.size + 1) 4 (.string { data := #[] })
  obtain ⟨c1_14, f1_14⟩ := cf hb1 (w.heap.size + 1) 5 (.string { data := #[] })
  obtain ⟨c1_15, f1_15⟩ := cf hb1 (w.heap.size + 1) 6 (.int .i64 0)
  obtain ⟨c1_16, f1_16⟩ := cf hb1 (w.heap.size + 1) 7 (.slice none 0 0)
  obtain ⟨c1_17, f1_17⟩ := cf hb1 (w.heap.size + 1) 8 (.slice none 0 0)
  have hl1_0 := ltB hb1 w.heap.size
  have hl1_1 := ltB hb1 (w.heap.size + 1)
  have hw1 := bwB hb1 w.heap.size w
  have hz1 := hw1.size
  clear hb1
  obtain ⟨B, hB⟩ : ∃ B, B = w1.heap.size := ⟨_, rfl⟩
  have HB0 := Lib.hid hB
  have hB1 : w.heap.size ≤ B := by omega
  have hB2 : w.heap.size < B := by omega
  have hB3 : w.heap.size + 1 < B := by omega
  clear hB
  go_wp2_with fail
  go_loopw [19] (fun x wr => ∃ K V, K ≤ m ∧ x = .int .i64 K ∧ B ≤ wr.heap.size ∧ (wr.cell? ⟨w.heap.size, 0, none⟩ = some (.int .i64 O1) ∧ wr.cell? ⟨w.heap.size, 1, none⟩ = some (.int .u64 O2) ∧ wr.cell? ⟨w.heap.size, 2, none⟩ = some (.int .u64 O3) ∧ wr.cell? ⟨w.heap.size, 3, none⟩ = some (.int .u64 O4) ∧ wr.cell? ⟨w.heap.size, 4, none⟩ = some (.string O5) ∧ wr.cell? ⟨w.heap.size, 5, none⟩ = some (.string O6) ∧ wr.cell? ⟨w.heap.size, 6, none⟩ = some (.int .i64 O7) ∧ wr.cell? ⟨w.heap.size, 7, none⟩ = some (.slice qa 0 qc) ∧ wr.cell? ⟨w.heap.size, 8, none⟩ = some V ∧ wr.frozen? ⟨w.heap.size, 8, none⟩ = false ∧ wr.cell? ⟨w.heap.size + 1, 0, none⟩ = some (.int .i64 0) ∧ wr.cell? ⟨w.heap.size + 1, 1, none⟩ = some (.int .u64 0) ∧ wr.cell? ⟨w.heap.size + 1, 2, none⟩ = some (.int .u64 0) ∧ wr.cell? ⟨w.heap.size + 1, 3, none⟩ = some (.int .u64 0) ∧ wr.cell? ⟨w.heap.size + 1, 4, none⟩ = some (.string { data := #[] }) ∧ wr.cell? ⟨w.heap.size + 1, 5, none⟩ = some (.string { data := #[] }) ∧ wr.cell? ⟨w.heap.size + 1, 6, none⟩ = some (.int .i64 0) ∧ wr.cell? ⟨w.heap.size + 1, 7, none⟩ = some (.slice none 0 0) ∧ wr.cell? ⟨w.heap.size + 1, 8, none⟩ = some (.slice none 0 0) ∧ wr.frozen? ⟨w.heap.size + 1, 0, none⟩ = false ∧ wr.frozen? ⟨w.heap.size + 1, 1, none⟩ = false ∧ wr.frozen? ⟨w.heap.size + 1, 2, none⟩ = false ∧ wr.frozen? ⟨w.heap.size + 1, 3, none⟩ = false ∧ wr.frozen? ⟨w.heap.size + 1, 4, none⟩ = false ∧ wr.frozen? ⟨w.heap.size + 1, 5, none⟩ = false ∧ wr.frozen? ⟨w.heap.size + 1, 6, none⟩ = false ∧ wr.frozen? ⟨w.heap.size + 1, 7, none⟩ = false ∧ wr.frozen? ⟨w.heap.size + 1, 8, none⟩ = false) ∧ Hid (Bd .V 51 wr B k (l.take K) V) ∧ Hid (Below w.heap.size w wr)) (fun x _ => m - (intOf x).toNat)
  case atStart =>
    refine ⟨0, .slice none 0 0, Nat.zero_le _, rfl, ?hq, ⟨?_, ?_, ?_, ?_, ?_, ?_, ?_, ?_, ?_, ?_, ?_, ?_, ?_, ?_, ?_, ?_, ?_, ?_, ?_, ?_, ?_, ?_, ?_, ?_, ?_, ?_, ?_, ?_⟩, Lib.hid (Bd.nil _ _ _ _ _), Lib.hid ?hb⟩
    case hq => (have := HB0.out; simp; omega)
    case hb => exact bel
    all_goals first | (simp [go_sem, *]; done) | (simp [go_sem]; done)
  case round =>
    obtain ⟨K, V, hK, rfl, hzr, ⟨a0, a1, a2, a3, a4, a5, a6, a7, j2, jf, z0, z1, z2, z3, z4, z5, z6, z7, z8, y0, y1, y2, y3, y4, y5, y6, y7, y8⟩, HD, HW⟩ := hrel
    have hz0 : w.heap.size < wr.heap.size := by omega
    have hz1 : w.heap.size + 1 < wr.heap.size := by omega
    have hne0 : wr.heap.size ≠ w.heap.size := by omega
    have hne1 : wr.heap.size ≠ w.heap.size + 1 := by omega
    by_cases hKm : K < m
    · obtain ⟨⟨kn, kx⟩, hkx⟩ : ∃ x, l[K]? = some x := ⟨_, List.getElem?_eq_getElem (by have := HM.out; omega)⟩
      obtain ⟨b, o, bv, s, rfl, hqb, hbl, hra, hby, hkd⟩ := HK.out.at hkx
      have hblk : wr.heap[b]? = w.heap[b]? := HW.out.block b hbl
      obtain ⟨sd, sc, rfl⟩ := hkd.slice
      have hby2 := Lib.hid hby
      obtain ⟨bd2, bc2, rfl, hbb⟩ := hby
      obtain ⟨r0, r1, r2, r3, r4, r5, r6, r7, r8, r9⟩ := rowV (rangeAt_block hblk hra)
      have KQ : Hid (∀ w6 : World, Below wr.heap.size wr w6 → Is .V Q w6 k kx (.agg #[.int .i64 kx.o.kind, .int .u64 kx.o.bits, .int .u64 kx.o.high, .int .u64 kx.o.low, .string (bs kx.o.text), .string (bs kx.o.more), .int .i64 kx.o.sub, .slice bd2 kx.o.bytes.length bc2, .slice sd kx.kids.length sc])) := Lib.hid (fun w6 h6 => Is.beyond (w := w) ⟨_, _, rfl, hby2.out, hkd⟩ (HW.out.trans (h6.mono HW.out.size)))
      have HMEM := Lib.hid (List.mem_of_getElem? hkx)
      have HKX := Lib.hid hkx
      have HIx := Lib.hid (HI.out _ HMEM.out Q)
      have HKL : Hid (l.take (K + 1) = l.take K ++ [(kn, kx)]) := Lib.hid (by rw [List.take_add_one, hkx]; rfl)
      have hVg := HD.out.lt
      obtain ⟨V0, hV0⟩ : ∃ x, bs kn = x := ⟨_, rfl⟩
      obtain ⟨V1, hV1⟩ : ∃ x, kx.o.kind = x := ⟨_, rfl⟩
      obtain ⟨V2, hV2⟩ : ∃ x, kx.o.bits = x := ⟨_, rfl⟩
      obtain ⟨V3, hV3⟩ : ∃ x, kx.o.high = x := ⟨_, rfl⟩
      obtain ⟨V4, hV4⟩ : ∃ x, kx.o.low = x := ⟨_, rfl⟩
      obtain ⟨V5, hV5⟩ : ∃ x, bs kx.o.text = x := ⟨_, rfl⟩
      obtain ⟨V6, hV6⟩ : ∃ x, bs kx.o.more = x := ⟨_, rfl⟩
      obtain ⟨V7, hV7⟩ : ∃ x, kx.o.sub = x := ⟨_, rfl⟩
      obtain ⟨V8, hV8⟩ : ∃ x, kx.o.bytes.length = x := ⟨_, rfl⟩
      obtain ⟨V9, hV9⟩ : ∃ x, kx.kids.length = x := ⟨_, rfl⟩
      rw [hV0] at r0
      rw [hV1] at r1 KQ
      rw [hV2] at r2 KQ
      rw [hV3] at r3 KQ
      rw [hV4] at r4 KQ
      rw [hV5] at r5 KQ
      rw [hV6] at r6 KQ
      rw [hV7] at r7 KQ
      rw [hV8] at r8 KQ
      rw [hV9] at r9 KQ
      clear hra hkd hby2 hbb hblk hkx
      have HLn : Hid ((l.take K).length = K) := Lib.hid (by rw [List.length_take]; have := HM.out; omega)
      have HV0 := Lib.hid hV0
      have HT := Lib.hid (And.intro hV1 (And.intro hV2 (And.intro hV3 (And.intro hV4 (And.intro hV5 (And.intro hV6 (And.intro hV7 (And.intro hV8 hV9))))))))
      clear hV0 hV1 hV2 hV3 hV4 hV5 hV6 hV7 hV8 hV9
      go_upto_region 6 with fail
      clear r0 r1 r2 r3 r4 r5 r6 r7 r8 r9
      go_region_law (first
        | (go_simp; go_at_call 14; (refine (HIx.out _ _ (KQ.out _ bel)).mono ?_); rintro e w6 ⟨⟨y, rfl, hy⟩, hb6⟩; obtain ⟨bv4, s4, rfl, hby4, hkd4⟩ := hy; have HBY4 := Lib.hid hby4; obtain ⟨sg, sh, rfl⟩ := hkd4.slice; obtain ⟨bd4, bc4, rfl, hbb4⟩ := hby4; clear hbb4; have HKD4 := Lib.hid hkd4; clear hkd4; (simp only [Lay.cells, HT.out.1, HT.out.2.1, HT.out.2.2.1, HT.out.2.2.2.1, HT.out.2.2.2.2.1, HT.out.2.2.2.2.2.1, HT.out.2.2.2.2.2.2.1, HT.out.2.2.2.2.2.2.2.1, HT.out.2.2.2.2.2.2.2.2]); have j2' : w6.cell? ⟨w.heap.size, 8, none⟩ = some V := (hb6.cell (p := ⟨w.heap.size, 8, none⟩) (by simp; omega)).trans (by simp [go_sem, *]); have jf' := fB hb6 w.heap.size 8; have hs6 : wr.heap.size + 1 ≤ w6.heap.size := (by have := hb6.size; simp at this; omega); have hz6 : w.heap.size < w6.heap.size := (by omega); have hz6b : w.heap.size + 1 < w6.heap.size := (by omega); have hS6 := (hb6.block wr.heap.size (by simp)).trans (heap_alloc_last wr _); obtain ⟨⟨s0, s1, s2, s3, s4, s5, s6, s7, s8, s9⟩, hS6b⟩ := row10 hS6; have hbw6 := bwB hb6 wr.heap.size wr; have HD6 := HD.out.beyond hbw6; obtain ⟨ss, hs1, hs2, hs3⟩ := HD6)
        | (refine step_append_lies _ rfl _ _ _ rfl B 51 i0 _ 10 136 Tryz.underlying37 hi iz0 iz1 iz2 rfl (by decide) V K (flat .V (l.take K) ss) evl ?c0 ⟨w6.heap.size, 0, none⟩ 1 1 [.string V0, .int .i64 V1, .int .u64 V2, .int .u64 V3, .int .u64 V4, .string V5, .string V6, .int .i64 V7, .slice bd4 V8 bc4, .slice sg V9 sh] evl rfl ?c1 ?c2 (by decide) ?c3 ?c4 ?c5 _ rfl ?_; (case c0 => (rw [HLn.out] at hs2; exact hs2.alloc _)); (case c1 => exact World.news_of_block (cs := #[.string V0, .int .i64 V1, .int .u64 V2, .int .u64 V3, .int .u64 V4, .string V5, .string V6, .int .i64 V7, .slice bd4 V8 bc4, .slice sg V9 sh]) (heap_alloc_last w6 _)); (case c2 => exact mem10_one); (case c3 => (unfold maxLen; omega)); (case c4 => omega); (case c5 => (have := hb6.size; simp at this; simp; omega)); intro g7 cap7 w7 hown7 hgrow7 hat7 hlt7; have hS7 := (hgrow7.block wr.heap.size (by have := hb6.size; simp at this; simp; omega) (fun e => by have := hVg _ e.symm; omega)).trans ((Below.heap_alloc _ _ _ (by have := hb6.size; simp at this; omega)).trans hS6); have hb7 : Below B wr w7 := Below.grown ((hbw6.mono hzr).alloc (by omega) _) hgrow7 (by simp; omega) (fun k hk => (hVg k hk).1); have k0 := (hb7.cell (p := ⟨w.heap.size, 0, none⟩) hB2).trans a0; have k1 := (hb7.cell (p := ⟨w.heap.size, 1, none⟩) hB2).trans a1; have k2 := (hb7.cell (p := ⟨w.heap.size, 2, none⟩) hB2).trans a2; have k3 := (hb7.cell (p := ⟨w.heap.size, 3, none⟩) hB2).trans a3; have k4 := (hb7.cell (p := ⟨w.heap.size, 4, none⟩) hB2).trans a4; have k5 := (hb7.cell (p := ⟨w.heap.size, 5, none⟩) hB2).trans a5; have k6 := (hb7.cell (p := ⟨w.heap.size, 6, none⟩) hB2).trans a6; have k7 := (hb7.cell (p := ⟨w.heap.size, 7, none⟩) hB2).trans a7; have k8 := (hb7.cell (p := ⟨w.heap.size, 8, none⟩) hB2).trans j2; have k9 := (hb7.frozen (p := ⟨w.heap.size, 8, none⟩) hB2).trans jf; have x0 := (hb7.cell (p := ⟨w.heap.size + 1, 0, none⟩) hB3).trans z0; have x1 := (hb7.cell (p := ⟨w.heap.size + 1, 1, none⟩) hB3).trans z1; have x2 := (hb7.cell (p := ⟨w.heap.size + 1, 2, none⟩) hB3).trans z2; have x3 := (hb7.cell (p := ⟨w.heap.size + 1, 3, none⟩) hB3).trans z3; have x4 := (hb7.cell (p := ⟨w.heap.size + 1, 4, none⟩) hB3).trans z4; have x5 := (hb7.cell (p := ⟨w.heap.size + 1, 5, none⟩) hB3).trans z5; have x6 := (hb7.cell (p := ⟨w.heap.size + 1, 6, none⟩) hB3).trans z6; have x7 := (hb7.cell (p := ⟨w.heap.size + 1, 7, none⟩) hB3).trans z7; have x8 := (hb7.cell (p := ⟨w.heap.size + 1, 8, none⟩) hB3).trans z8; have t0 := (hb7.frozen (p := ⟨w.heap.size + 1, 0, none⟩) hB3).trans y0; have t1 := (hb7.frozen (p := ⟨w.heap.size + 1, 1, none⟩) hB3).trans y1; have t2 := (hb7.frozen (p := ⟨w.heap.size + 1, 2, none⟩) hB3).trans y2; have t3 := (hb7.frozen (p := ⟨w.heap.size + 1, 3, none⟩) hB3).trans y3; have t4 := (hb7.frozen (p := ⟨w.heap.size + 1, 4, none⟩) hB3).trans y4; have t5 := (hb7.frozen (p := ⟨w.heap.size + 1, 5, none⟩) hB3).trans y5; have t6 := (hb7.frozen (p := ⟨w.heap.size + 1, 6, none⟩) hB3).trans y6; have t7 := (hb7.frozen (p := ⟨w.heap.size + 1, 7, none⟩) hB3).trans y7; have t8 := (hb7.frozen (p := ⟨w.heap.size + 1, 8, none⟩) hB3).trans y8; have hz7 := hb7.size; have HN : Hid (Bd .V 51 w7 B k (l.take (K + 1)) (.slice (some ⟨g7, 0, none⟩) (K + 1) cap7)) := Lib.hid (by rw [HKL.out]; have hby5 := HBY4.out; have hkd5 := HKD4.out; rw [HT.out.2.2.2.2.2.2.2.1] at hby5; rw [HT.out.2.2.2.2.2.2.2.2] at hkd5; refine bd_put (s := (.slice bd4 V8 bc4, .slice sg V9 sh)) hs1 hs3 (keeps_alloc (Keeps.refl _ _) _) (Lay.by'_keeps (L := .V) (Keeps.beyond bel) (Lay.by'_mono (L := .V) (fun b hb _ => ⟨by simp at hb; omega, fun e => by have := (hVg _ e).2; simp at hb; omega⟩) hby5)) ((hkd5.mono (fun b hb _ => ⟨by simp at hb; omega, fun e => by have := (hVg _ e).2; simp at hb; omega⟩)).beyond bel) (by rw [HLn.out]; show World.ownsRow w7 B _ 10 _ (K + 1) (_ ++ [.string (bs kn), .int .i64 kx.o.kind, .int .u64 kx.o.bits, .int .u64 kx.o.high, .int .u64 kx.o.low, .string (bs kx.o.text), .string (bs kx.o.more), .int .i64 kx.o.sub, .slice bd4 V8 bc4, .slice sg V9 sh]); obtain ⟨u1, u2, u3, u4, u5, u6, u7, u8, u9⟩ := HT.out; rw [HV0.out, u1, u2, u3, u4, u5, u6, u7]; exact hown7) hgrow7 (fun g hg => by have e : g7 = g := (by simpa [Value.ownBlock] using hg); subst e; exact hat7)); clear hown7 hgrow7 hat7 hlt7 hS7))
      all_goals
        have HWn : Hid (Below w.heap.size w w7) := Lib.hid (HW.out.trans (hb7.mono hB1))
        clear hb7 hs1 hs2 hs3 hbw6 hS6 hS6b s0 s1 s2 s3 s4 s5 s6 s7 s8 s9 j2' jf' hb6
        go_wp2_with fail
        go_roundw
        case rel =>
          refine ⟨K + 1, .slice (some ⟨g7, 0, none⟩) (K + 1) cap7, by omega, by go_num, ?hq, ⟨?_, ?_, ?_, ?_, ?_, ?_, ?_, ?_, ?_, ?_, ?_, ?_, ?_, ?_, ?_, ?_, ?_, ?_, ?_, ?_, ?_, ?_, ?_, ?_, ?_, ?_, ?_, ?_⟩, Lib.hid (HN.out.set (by dsimp only; omega) _), Lib.hid (HWn.out.setCell (by dsimp only; omega) _)⟩
          case hq => (simp; omega)
          all_goals first | (simp [go_sem, *]; done) | (simp; omega)
        case measure => simp [intOf]; omega
    · have hKe : K = m := by omega
      subst hKe
      have hwr := HW.out
      have HD2 : Hid (Bd .V 51 wr B k l V) := Lib.hid (by
        have h := HD.out
        rw [List.take_of_length_le (by have := HM.out; omega)] at h
        exact h)
      obtain ⟨vd, vn, vc, hV⟩ : ∃ ad n c, V = .slice ad n c := by
        obtain ⟨ad', c', hv⟩ := HD2.out.done.slice
        exact ⟨_, _, _, hv⟩
      subst hV
      have HKd : Hid (Kd .V (fun b => B ≤ b) wr (k + 1) l (.slice vd vn vc)) := Lib.hid HD2.out.done
      clear HD HD2
      go_upto_region 8 with fail
      go_region
      all_goals
        go_wp2_with fail
        refine bodyPost_ret (v := .agg #[.int .i64 O1, .int .u64 O2, .int .u64 O3, .int .u64 O4, .string O5, .string O6, .int .i64 O7, .slice qa 0 qc, .slice vd vn vc]) (by simp (maxDischargeDepth := 3) [results, Tryz.results14, go_sem, hz1, a0, a1, a2, a3, a4, a5, a6, a7, j2, jf, z0, z1, z2, z3, z4, z5, z6, z7, z8, y0, y1, y2, y3, y4, y5, y6, y7, y8]) rfl ?_
        refine ⟨⟨_, _, _, rfl, (HKd.out.keeps ?_).mono (fun b hb _ => by omega)⟩, by have := HW.out; exact bel⟩
        repeat' (first | (with_reducible exact Keeps.refl _ _) | (with_reducible refine keeps_set ?_ (by dsimp only; omega) _) | (with_reducible refine keeps_alloc ?_ _) | (with_reducible refine keeps_drew ?_))
end
end Go.Proofs.YtihnfhhopldllaaGreatDoor
