/- Parts of the proof of TopLooks: U58, U59, U62. No condition. -/
import Derived.Test.YtihnfhhopldllaaGreatDoorJ1
import Derived.Test.YtihnfhhopldllaaGreatDoorJ12
import Derived.Test.YtihnfhhopldllaaGreatDoorJ9
namespace Go.Proofs.YtihnfhhopldllaaGreatDoor
set_option linter.unusedSimpArgs false
set_option linter.unusedVariables false
set_option maxHeartbeats 6400000
set_option maxRecDepth 100000
section
open Go.RowKit
theorem of_S (tx : ByteArray) (bd : Option Addr) (bc : Nat) (ad : Option Addr) (c : Nat) (hx : tx.size ≤ 1000000) (w : World) : Calls Tryz.prog 22 #[.agg #[.int .i64 2, .int .u64 0, .int .u64 0, .int .u64 0, .string tx, .string { data := #[] }, .int .i64 0, .slice bd 0 bc, .slice ad 0 c]] w fun e w' => e = .returned (.int .i64 ((tx.size + 5 : Nat))) ∧ Below w.heap.size w w' := by
  go_enter Tryz.func22, Tryz.ntmps22
  go_wp2_with fail
  go_ret
  exact ⟨by go_num, bel⟩
theorem dp_S (tx : ByteArray) (bd : Option Addr) (bc : Nat) (ad : Option Addr) (c : Nat) (w : World) : Calls Tryz.prog 21 #[.agg #[.int .i64 2, .int .u64 0, .int .u64 0, .int .u64 0, .string tx, .string { data := #[] }, .int .i64 0, .slice bd 0 bc, .slice ad 0 c]] w fun e w' => e = .returned (.int .i64 0) ∧ Below w.heap.size w w' := by
  go_enter Tryz.func21, Tryz.ntmps21
  go_wp2_with fail
  go_ret
  exact ⟨rfl, bel⟩
theorem of_I (tx : ByteArray) (bd : Option Addr) (bc : Nat) (ad : Option Addr) (c : Nat)  (w : World) : Calls Tryz.prog 22 #[.agg #[.int .i64 16, .int .u64 1, .int .u64 0, .int .u64 0, .string { data := #[] }, .string { data := #[] }, .int .i64 0, .slice bd 0 bc, .slice ad 0 c]] w fun e w' => e = .returned (.int .i64 (4)) ∧ Below w.heap.size w w' := by
  go_enter Tryz.func22, Tryz.ntmps22
  go_wp2_with fail
  go_ret
  exact ⟨rfl, bel⟩
theorem dp_I (tx : ByteArray) (bd : Option Addr) (bc : Nat) (ad : Option Addr) (c : Nat) (w : World) : Calls Tryz.prog 21 #[.agg #[.int .i64 16, .int .u64 1, .int .u64 0, .int .u64 0, .string { data := #[] }, .string { data := #[] }, .int .i64 0, .slice bd 0 bc, .slice ad 0 c]] w fun e w' => e = .returned (.int .i64 0) ∧ Below w.heap.size w w' := by
  go_enter Tryz.func21, Tryz.ntmps21
  go_wp2_with fail
  go_ret
  exact ⟨rfl, bel⟩
theorem of_3 (bd : Option Addr) (bc : Nat) (ad : Option Addr) (m c : Nat) (R : Nat) (Q : Nat → Prop) (k : Nat) (l : KL) (w : World) (hk : Kd .V Q w (k + 1) l (.slice ad m c))
    (hp : ∀ w, Kd .V Q w (k + 1) l (.slice ad m c) → Calls Tryz.prog 42 #[.slice ad m c] w fun e w' => e = .returned (.int .i64 (R : Int)) ∧ Below w.heap.size w w') :
    Calls Tryz.prog 22 #[.agg #[.int .i64 3, .int .u64 0, .int .u64 0, .int .u64 0, .string { data := #[] }, .string { data := #[] }, .int .i64 0, .slice bd 0 bc, .slice ad m c]] w fun e w' => e = .returned (.int .i64 (R : Int)) ∧ Below w.heap.size w w' := by
  have HP := Lib.hid hp
  have HK := Lib.hid hk
  clear hp hk
  go_enter Tryz.func22, Tryz.ntmps22
  go_wp2_with fail
  with_reducible refine (HP.out _ ?h1).mono ?_
  case h1 => exact HK.out.beyond bel
  rintro e w1 ⟨rfl, hb1⟩
  have hw1 := bwB hb1 w.heap.size w
  clear hb1
  go_wp2_with fail
  go_ret
  exact ⟨rfl, bel⟩
theorem dp_3 (k : Nat) (l : KL) (hl : l.length ≤ 20) (hk7 : k ≤ 700) (Q : Nat → Prop) (bd : Option Addr) (bc : Nat) (ad : Option Addr) (m c : Nat) (hm : l.length = m) (w : World) (hk : Kd .V Q w (k + 1) l (.slice ad m c)) (ih : ∀ x ∈ l, DpV k x.2) :
    Calls Tryz.prog 21 #[.agg #[.int .i64 3, .int .u64 0, .int .u64 0, .int .u64 0, .string { data := #[] }, .string { data := #[] }, .int .i64 0, .slice bd 0 bc, .slice ad m c]] w fun e w' => e = .returned (.int .i64 ((1 + (l.map fun x => dpR k x.2).foldl max 0 : Nat) : Int)) ∧ Below w.heap.size w w' := by
  have HK := Lib.hid hk
  have HI : Hid (∀ x ∈ l, ∀ (Q : Nat → Prop) (w : World) (v : Value), Is .V Q w k x.2 v → Calls Tryz.prog 21 #[v] w fun e w' => e = .returned (.int .i64 (dpR k x.2 : Nat)) ∧ Below w.heap.size w w') := Lib.hid ih
  have HM := Lib.hid hm
  have hm20 : m ≤ 20 := by omega
  obtain ⟨R, hR⟩ : ∃ R, (l.map fun x => dpR k x.2).foldl max 0 = R := ⟨_, rfl⟩
  rw [hR]
  have HR := Lib.hid hR
  clear hk hm hl ih hR
  go_enter Tryz.func21, Tryz.ntmps21
  go_wp2_with fail
  go_loopw [3, 22] (fun s x wr => ∃ K S : Nat, K ≤ m ∧ s = .int .i64 S ∧ x = .int .i64 K ∧ S ≤ 700 ∧ Hid (((l.take K).map fun x => dpR k x.2).foldl max 0 = S) ∧ Hid (Below w.heap.size w wr)) (fun _ x _ => m - (intOf x).toNat)
  case atStart => exact ⟨0, 0, by omega, rfl, rfl, by omega, Lib.hid (by simp), Lib.hid bel⟩
  case round =>
    obtain ⟨K, S, hK, rfl, rfl, hS7, HV, HW⟩ := hrel
    have hzw := HW.out.size
    by_cases hKm : K < m
    · obtain ⟨⟨kn, kx⟩, hkx⟩ : ∃ x, l[K]? = some x := ⟨_, List.getElem?_eq_getElem (by have := HM.out; omega)⟩
      obtain ⟨b, o, bv, s, rfl, hqb, hbl, hra, hby, hkd⟩ := HK.out.at hkx
      have hblk : wr.heap[b]? = w.heap[b]? := HW.out.block b hbl
      obtain ⟨sd, sc, rfl⟩ := hkd.slice
      have hby2 := Lib.hid hby
      obtain ⟨bd2, bc2, rfl, hbb⟩ := hby
      obtain ⟨r0, r1, r2, r3, r4, r5, r6, r7, r8, r9⟩ := rowV (rangeAt_block hblk hra)
      have KQ : Hid (∀ w6 : World, Below wr.heap.size wr w6 → Is .V Q w6 k kx (.agg #[.int .i64 kx.o.kind, .int .u64 kx.o.bits, .int .u64 kx.o.high, .int .u64 kx.o.low, .string (bs kx.o.text), .string (bs kx.o.more), .int .i64 kx.o.sub, .slice bd2 kx.o.bytes.length bc2, .slice sd kx.kids.length sc])) := Lib.hid (fun w6 h6 => Is.beyond (w := w) ⟨_, _, rfl, hby2.out, hkd⟩ (HW.out.trans (h6.mono HW.out.size)))
      have HMEM := Lib.hid (List.mem_of_getElem? hkx)
      have HKX := Lib.hid hkx
      obtain ⟨V0, hV0⟩ : ∃ x, bs kn = x := ⟨_, rfl⟩
      obtain ⟨V1, hV1⟩ : ∃ x, kx.o.kind = x := ⟨_, rfl⟩
      obtain ⟨V2, hV2⟩ : ∃ x, kx.o.bits = x := ⟨_, rfl⟩
      obtain ⟨V3, hV3⟩ : ∃ x, kx.o.high = x := ⟨_, rfl⟩
      obtain ⟨V4, hV4⟩ : ∃ x, kx.o.low = x := ⟨_, rfl⟩
      obtain ⟨V5, hV5⟩ : ∃ x, bs kx.o.text = x := ⟨_, rfl⟩
      obtain ⟨V6, hV6⟩ : ∃ x, bs kx.o.more = x := ⟨_, rfl⟩
      obtain ⟨V7, hV7⟩ : ∃ x, kx.o.sub = x := ⟨_, rfl⟩
      obtain ⟨V8, hV8⟩ : ∃ x, kx.o.bytes.length = x := ⟨_, rfl⟩
      obtain ⟨V9, hV9⟩ : ∃ x, kx.kids.length = x := ⟨_, rfl⟩
      rw [hV0] at r0
      rw [hV1] at r1 KQ
      rw [hV2] at r2 KQ
      rw [hV3] at r3 KQ
      rw [hV4] at r4 KQ
      rw [hV5] at r5 KQ
      rw [hV6] at r6 KQ
      rw [hV7] at r7 KQ
      rw [hV8] at r8 KQ
      rw [hV9] at r9 KQ
      clear hra hkd hby2 hbb hblk hkx
      obtain ⟨Z, hZ⟩ : ∃ x, dpR k kx = x := ⟨_, rfl⟩
      have HIx := HI.out _ HMEM.out Q
      simp only [hZ] at HIx
      have HIx := Lib.hid HIx
      have ht := max_take (fun x : List UInt8 × Ro => dpR k x.2) HKX.out
      have hv := HV.out
      have hz7 : Z ≤ 700 := by have := dpR_le k kx; omega
      simp only [hZ] at ht
      rw [hv] at ht
      have HV2 := Lib.hid ht
      clear ht hv hZ
      clear hV0 hV1 hV2 hV3 hV4 hV5 hV6 hV7 hV8 hV9
      go_wp2_with fail
      with_reducible refine (HIx.out _ _ (KQ.out _ bel)).mono ?_
      rintro e w7 ⟨rfl, hb7⟩
      have hw7 := bwB hb7 wr.heap.size wr
      clear hb7
      go_wp2_with fail
      go_roundw
      case rel => exact ⟨K + 1, max S Z, by omega, by first | go_num | (simp [go_sem]; omega), by go_num, by omega, HV2, Lib.hid (HW.out.trans (hw7.mono hzw))⟩
      case measure => simp [intOf]; omega
    · have hKe : K = m := by omega
      subst hKe
      have he : S = R := by
        rw [← HV.out, ← HR.out, List.take_of_length_le (by have := HM.out; omega)]
      subst he
      go_wp2_with fail
      go_ret
      exact ⟨by go_num, HW.out⟩
theorem of_4 (bd : Option Addr) (bc : Nat) (ad : Option Addr) (m c : Nat) (R : Nat) (Q : Nat → Prop) (k : Nat) (l : KL) (w : World) (hk : Kd .V Q w (k + 1) l (.slice ad m c))
    (hp : ∀ w, Kd .V Q w (k + 1) l (.slice ad m c) → Calls Tryz.prog 42 #[.slice ad m c] w fun e w' => e = .returned (.int .i64 (R : Int)) ∧ Below w.heap.size w w') :
    Calls Tryz.prog 22 #[.agg #[.int .i64 4, .int .u64 0, .int .u64 0, .int .u64 0, .string { data := #[] }, .string { data := #[] }, .int .i64 0, .slice bd 0 bc, .slice ad m c]] w fun e w' => e = .returned (.int .i64 (R : Int)) ∧ Below w.heap.size w w' := by
  have HP := Lib.hid hp
  have HK := Lib.hid hk
  clear hp hk
  go_enter Tryz.func22, Tryz.ntmps22
  go_wp2_with fail
  with_reducible refine (HP.out _ ?h1).mono ?_
  case h1 => exact HK.out.beyond bel
  rintro e w1 ⟨rfl, hb1⟩
  have hw1 := bwB hb1 w.heap.size w
  clear hb1
  go_wp2_with fail
  go_ret
  exact ⟨rfl, bel⟩
theorem dp_4 (k : Nat) (l : KL) (hl : l.length ≤ 20) (hk7 : k ≤ 700) (Q : Nat → Prop) (bd : Option Addr) (bc : Nat) (ad : Option Addr) (m c : Nat) (hm : l.length = m) (w : World) (hk : Kd .V Q w (k + 1) l (.slice ad m c)) (ih : ∀ x ∈ l, DpV k x.2) :
    Calls Tryz.prog 21 #[.agg #[.int .i64 4, .int .u64 0, .int .u64 0, .int .u64 0, .string { data := #[] }, .string { data := #[] }, .int .i64 0, .slice bd 0 bc, .slice ad m c]] w fun e w' => e = .returned (.int .i64 ((1 + (l.map fun x => dpR k x.2).foldl max 0 : Nat) : Int)) ∧ Below w.heap.size w w' := by
  have HK := Lib.hid hk
  have HI : Hid (∀ x ∈ l, ∀ (Q : Nat → Prop) (w : World) (v : Value), Is .V Q w k x.2 v → Calls Tryz.prog 21 #[v] w fun e w' => e = .returned (.int .i64 (dpR k x.2 : Nat)) ∧ Below w.heap.size w w') := Lib.hid ih
  have HM := Lib.hid hm
  have hm20 : m ≤ 20 := by omega
  obtain ⟨R, hR⟩ : ∃ R, (l.map fun x => dpR k x.2).foldl max 0 = R := ⟨_, rfl⟩
  rw [hR]
  have HR := Lib.hid hR
  clear hk hm hl ih hR
  go_enter Tryz.func21, Tryz.ntmps21
  go_wp2_with fail
  go_loopw [3, 22] (fun s x wr => ∃ K S : Nat, K ≤ m ∧ s = .int .i64 S ∧ x = .int .i64 K ∧ S ≤ 700 ∧ Hid (((l.take K).map fun x => dpR k x.2).foldl max 0 = S) ∧ Hid (Below w.heap.size w wr)) (fun _ x _ => m - (intOf x).toNat)
  case atStart => exact ⟨0, 0, by omega, rfl, rfl, by omega, Lib.hid (by simp), Lib.hid bel⟩
  case round =>
    obtain ⟨K, S, hK, rfl, rfl, hS7, HV, HW⟩ := hrel
    have hzw := HW.out.size
    by_cases hKm : K < m
    · obtain ⟨⟨kn, kx⟩, hkx⟩ : ∃ x, l[K]? = some x := ⟨_, List.getElem?_eq_getElem (by have := HM.out; omega)⟩
      obtain ⟨b, o, bv, s, rfl, hqb, hbl, hra, hby, hkd⟩ := HK.out.at hkx
      have hblk : wr.heap[b]? = w.heap[b]? := HW.out.block b hbl
      obtain ⟨sd, sc, rfl⟩ := hkd.slice
      have hby2 := Lib.hid hby
      obtain ⟨bd2, bc2, rfl, hbb⟩ := hby
      obtain ⟨r0, r1, r2, r3, r4, r5, r6, r7, r8, r9⟩ := rowV (rangeAt_block hblk hra)
      have KQ : Hid (∀ w6 : World, Below wr.heap.size wr w6 → Is .V Q w6 k kx (.agg #[.int .i64 kx.o.kind, .int .u64 kx.o.bits, .int .u64 kx.o.high, .int .u64 kx.o.low, .string (bs kx.o.text), .string (bs kx.o.more), .int .i64 kx.o.sub, .slice bd2 kx.o.bytes.length bc2, .slice sd kx.kids.length sc])) := Lib.hid (fun w6 h6 => Is.beyond (w := w) ⟨_, _, rfl, hby2.out, hkd⟩ (HW.out.trans (h6.mono HW.out.size)))
      have HMEM := Lib.hid (List.mem_of_getElem? hkx)
      have HKX := Lib.hid hkx
      obtain ⟨V0, hV0⟩ : ∃ x, bs kn = x := ⟨_, rfl⟩
      obtain ⟨V1, hV1⟩ : ∃ x, kx.o.kind = x := ⟨_, rfl⟩
      obtain ⟨V2, hV2⟩ : ∃ x, kx.o.bits = x := ⟨_, rfl⟩
      obtain ⟨V3, hV3⟩ : ∃ x, kx.o.high = x := ⟨_, rfl⟩
      obtain ⟨V4, hV4⟩ : ∃ x, kx.o.low = x := ⟨_, rfl⟩
      obtain ⟨V5, hV5⟩ : ∃ x, bs kx.o.text = x := ⟨_, rfl⟩
      obtain ⟨V6, hV6⟩ : ∃ x, bs kx.o.more = x := ⟨_, rfl⟩
      obtain ⟨V7, hV7⟩ : ∃ x, kx.o.sub = x := ⟨_, rfl⟩
      obtain ⟨V8, hV8⟩ : ∃ x, kx.o.bytes.length = x := ⟨_, rfl⟩
      obtain ⟨V9, hV9⟩ : ∃ x, kx.kids.length = x := ⟨_, rfl⟩
      rw [hV0] at r0
      rw [hV1] at r1 KQ
      rw [hV2] at r2 KQ
      rw [hV3] at r3 KQ
      rw [hV4] at r4 KQ
      rw [hV5] at r5 KQ
      rw [hV6] at r6 KQ
      rw [hV7] at r7 KQ
      rw [hV8] at r8 KQ
      rw [hV9] at r9 KQ
      clear hra hkd hby2 hbb hblk hkx
      obtain ⟨Z, hZ⟩ : ∃ x, dpR k kx = x := ⟨_, rfl⟩
      have HIx := HI.out _ HMEM.out Q
      simp only [hZ] at HIx
      have HIx := Lib.hid HIx
      have ht := max_take (fun x : List UInt8 × Ro => dpR k x.2) HKX.out
      have hv := HV.out
      have hz7 : Z ≤ 700 := by have := dpR_le k kx; omega
      simp only [hZ] at ht
      rw [hv] at ht
      have HV2 := Lib.hid ht
      clear ht hv hZ
      clear hV0 hV1 hV2 hV3 hV4 hV5 hV6 hV7 hV8 hV9
      go_wp2_with fail
      with_reducible refine (HIx.out _ _ (KQ.out _ bel)).mono ?_
      rintro e w7 ⟨rfl, hb7⟩
      have hw7 := bwB hb7 wr.heap.size wr
      clear hb7
      go_wp2_with fail
      go_roundw
      case rel => exact ⟨K + 1, max S Z, by omega, by first | go_num | (simp [go_sem]; omega), by go_num, by omega, HV2, Lib.hid (HW.out.trans (hw7.mono hzw))⟩
      case measure => simp [intOf]; omega
    · have hKe : K = m := by omega
      subst hKe
      have he : S = R := by
        rw [← HV.out, ← HR.out, List.take_of_length_le (by have := HM.out; omega)]
      subst he
      go_wp2_with fail
      go_ret
      exact ⟨by go_num, HW.out⟩
theorem sz_any : ∀ (k : Nat) (t : Ro), Dk k t → szR k t ≤ 1000000 → SzV k t := by
  have leaf : ∀ (k : Nat) (t : Ro), Leaf t → SzV k t := by
    intro k t hd Q w v h
    obtain ⟨bv, s, rfl, ⟨bd, bc, rfl, _⟩, hk⟩ := h
    obtain ⟨ad, c, rfl⟩ := hk.slice
    rcases hd with ⟨x, hx, rfl⟩ | rfl
    · have e : szR k (vS x) = (bs x).size + 5 := by rw [bs_size]; cases k <;> rfl
      rw [e]
      exact of_S (bs x) bd bc ad c (by rw [bs_size]; omega) w
    · have e : szR k vI = 4 := by cases k <;> rfl
      rw [e]
      exact of_I (bs []) bd bc ad c w
  intro k
  induction k with
  | zero => exact fun t hd _ => leaf 0 t hd
  | succ k ih =>
    intro t hd hs
    rcases hd with hd | ⟨l, ht, hl, hd⟩
    · exact leaf (k + 1) t hd
    · intro Q w v h
      obtain ⟨bv, s, rfl, hby, hk⟩ := h
      have hz : szR (k + 1) t = 5 + (l.map fun x => x.1.length + 2 + szR k x.2).sum := by rcases ht with rfl | rfl <;> rfl
      rw [hz] at hs ⊢
      have hx : ∀ x ∈ l, SzV k x.2 := fun x hx => ih x.2 (hd x hx).2 (by
        obtain ⟨i, hi⟩ := List.mem_iff_getElem?.1 hx
        have := sum_take (fun x : List UInt8 × Ro => x.1.length + 2 + szR k x.2) hi
        omega)
      rcases ht with rfl | rfl
      · obtain ⟨bd, bc, rfl, _⟩ := hby
        obtain ⟨ad, c, rfl⟩ := hk.slice
        exact of_3 bd bc ad l.length c _ Q k l w hk (fun w h => szk_any k l hl Q ad l.length c rfl w h hx hs)
      · obtain ⟨bd, bc, rfl, _⟩ := hby
        obtain ⟨ad, c, rfl⟩ := hk.slice
        exact of_4 bd bc ad l.length c _ Q k l w hk (fun w h => szk_any k l hl Q ad l.length c rfl w h hx hs)
theorem dp_any : ∀ (k : Nat) (t : Ro), k ≤ 700 → Dk k t → DpV k t := by
  have leaf : ∀ (k : Nat) (t : Ro), Leaf t → DpV k t := by
    intro k t hd Q w v h
    obtain ⟨bv, s, rfl, ⟨bd, bc, rfl, _⟩, hk⟩ := h
    obtain ⟨ad, c, rfl⟩ := hk.slice
    rcases hd with ⟨x, hx, rfl⟩ | rfl
    · have e : dpR k (vS x) = 0 := by cases k <;> rfl
      rw [e]
      exact dp_S (bs x) bd bc ad c w
    · have e : dpR k vI = 0 := by cases k <;> rfl
      rw [e]
      exact dp_I (bs []) bd bc ad c w
  intro k
  induction k with
  | zero => exact fun t _ hd => leaf 0 t hd
  | succ k ih =>
    intro t hk7 hd
    rcases hd with hd | ⟨l, ht, hl, hd⟩
    · exact leaf (k + 1) t hd
    · intro Q w v h
      obtain ⟨bv, s, rfl, hby, hk⟩ := h
      have hz : dpR (k + 1) t = 1 + (l.map fun x => dpR k x.2).foldl max 0 := by rcases ht with rfl | rfl <;> rfl
      rw [hz]
      have hx : ∀ x ∈ l, DpV k x.2 := fun x hx => ih x.2 (by omega) (hd x hx).2
      rcases ht with rfl | rfl
      · obtain ⟨bd, bc, rfl, _⟩ := hby
        obtain ⟨ad, c, rfl⟩ := hk.slice
        exact dp_3 k l hl (by omega) Q bd bc ad l.length c rfl w hk hx
      · obtain ⟨bd, bc, rfl, _⟩ := hby
        obtain ⟨ad, c, rfl⟩ := hk.slice
        exact dp_4 k l hl (by omega) Q bd bc ad l.length c rfl w hk hx
end
section
open Go.RowKit
theorem equal_nil (a b : Option Addr) (c d : Nat) (w : World) : Calls Tryz.prog 29 #[.slice a 0 c, .slice b 0 d] w fun e w' => e = .returned (.bool true) ∧ w = w' :=
  (Tryz.bytes_Equal_all a b 0 c 0 d [] [] w rfl rfl (fun h => absurd h (Nat.lt_irrefl 0)) (fun h => absurd h (Nat.lt_irrefl 0))).mono (fun e w' h => ⟨h.1, h.2.symm⟩)
theorem alike_any (V1 V2 V3 V4 V7 : Int) (V5 V6 : ByteArray) (bd0 bd1 ad ad2 : Option Addr) (bc0 bc1 m c c2 : Nat) (w : World) :
    Calls Tryz.prog 120 #[.agg #[.int .i64 V1, .int .u64 V2, .int .u64 V3, .int .u64 V4, .string V5, .string V6, .int .i64 V7, .slice bd0 0 bc0, .slice ad m c], .agg #[.int .i64 V1, .int .u64 V2, .int .u64 V3, .int .u64 V4, .string V5, .string V6, .int .i64 V7, .slice bd1 0 bc1, .slice ad2 m c2]] w fun e w' => e = .returned (.bool true) ∧ Below w.heap.size w w' := by
  have HE := Lib.hid (fun w => equal_nil bd0 bd1 bc0 bc1 w)
  go_enter Tryz.func120, Tryz.ntmps120
  go_wp2_with fail
  with_reducible refine (HE.out _).mono ?_
  rintro e w' ⟨rfl, rfl⟩
  go_wp2_with fail
  go_ret
  exact ⟨rfl, bel⟩
def SaV (k : Nat) (t : Ro) : Prop := ∀ (Q Q2 : Nat → Prop) (w : World) (v v2 : Value), Is .V Q w k t v → Is .V Q2 w k t v2 → Calls Tryz.prog 13 #[v, v2] w fun e w' => e = .returned (.bool true) ∧ Below w.heap.size w w'
theorem same_lv (k : Nat) (l : KL) (hl : l.length ≤ 20) (V1 V2 V3 V4 V7 : Int) (V5 V6 : ByteArray) (bd0 bd1 ad ad2 : Option Addr) (bc0 bc1 m c c2 : Nat) (hm : l.length = m) (Q Q2 : Nat → Prop) (w : World) (hk : Kd .V Q w (k + 1) l (.slice ad m c)) (hk2 : Kd .V Q2 w (k + 1) l (.slice ad2 m c2)) (ih : ∀ x ∈ l, SaV k x.2) :
    Calls Tryz.prog 13 #[.agg #[.int .i64 V1, .int .u64 V2, .int .u64 V3, .int .u64 V4, .string V5, .string V6, .int .i64 V7, .slice bd0 0 bc0, .slice ad m c], .agg #[.int .i64 V1, .int .u64 V2, .int .u64 V3, .int .u64 V4, .string V5, .string V6, .int .i64 V7, .slice bd1 0 bc1, .slice ad2 m c2]] w fun e w' => e = .returned (.bool true) ∧ Below w.heap.size w w' := by
  have HE := Lib.hid (fun w => equal_nil bd0 bd1 bc0 bc1 w)
  have HK := Lib.hid hk
  have HK2 := Lib.hid hk2
  have HI : Hid (∀ x ∈ l, ∀ (Q Q2 : Nat → Prop) (w : World) (v v2 : Value), Is .V Q w k x.2 v → Is .V Q2 w k x.2 v2 → Calls Tryz.prog 13 #[v, v2] w fun e w' => e = .returned (.bool true) ∧ Below w.heap.size w w') := Lib.hid ih
  have HM := Lib.hid hm
  have hm20 : m ≤ 20 := by omega
  clear hk hk2 hm hl ih
  go_enter Tryz.func13, Tryz.ntmps13
  go_wp2_with fail
  with_reducible refine (HE.out _).mono ?_
  rintro e w' ⟨rfl, rfl⟩
  go_wp2_with fail
  go_loopw [74] (fun x wr => ∃ K : Nat, K ≤ m ∧ x = .int .i64 K ∧ wr.cell? ⟨w.heap.size + 1, 8, none⟩ = some (.slice ad2 m c2) ∧ w.heap.size + 1 < wr.heap.size ∧ Hid (Below w.heap.size w wr)) (fun x _ => m - (intOf x).toNat)
  case atStart => exact ⟨0, by omega, rfl, by simp [go_sem], by simp, Lib.hid bel⟩
  case round =>
    obtain ⟨K, hK, rfl, hc8, hz1, HW⟩ := hrel
    have hzw := HW.out.size
    by_cases hKm : K < m
    · obtain ⟨⟨kn, kx⟩, hkx⟩ : ∃ x, l[K]? = some x := ⟨_, List.getElem?_eq_getElem (by have := HM.out; omega)⟩
      obtain ⟨b, o, bv, s, rfl, hqb, hbl, hra, hby, hkd⟩ := HK.out.at hkx
      have hblk : wr.heap[b]? = w.heap[b]? := HW.out.block b hbl
      obtain ⟨sd, sc, rfl⟩ := hkd.slice
      have hby2 := Lib.hid hby
      obtain ⟨bd2, bc2, rfl, hbb⟩ := hby
      obtain ⟨r0, r1, r2, r3, r4, r5, r6, r7, r8, r9⟩ := rowV (rangeAt_block hblk hra)
      have KQ : Hid (∀ w6 : World, Below wr.heap.size wr w6 → Is .V Q w6 k kx (.agg #[.int .i64 kx.o.kind, .int .u64 kx.o.bits, .int .u64 kx.o.high, .int .u64 kx.o.low, .string (bs kx.o.text), .string (bs kx.o.more), .int .i64 kx.o.sub, .slice bd2 kx.o.bytes.length bc2, .slice sd kx.kids.length sc])) := Lib.hid (fun w6 h6 => Is.beyond (w := w) ⟨_, _, rfl, hby2.out, hkd⟩ (HW.out.trans (h6.mono HW.out.size)))
      have HMEM := Lib.hid (List.mem_of_getElem? hkx)
      have HKX := Lib.hid hkx
      obtain ⟨b', o', bv', s', rfl, hqb', hbl', hra', hby', hkd'⟩ := HK2.out.at hkx
      have hblk' : wr.heap[b']? = w.heap[b']? := HW.out.block b' hbl'
      obtain ⟨se, sf, rfl⟩ := hkd'.slice
      have hby2' := Lib.hid hby'
      obtain ⟨bd3, bc3, rfl, hbb'⟩ := hby'
      obtain ⟨q0, q1, q2, q3, q4, q5, q6, q7, q8, q9⟩ := rowV (rangeAt_block hblk' hra')
      have KQ2 : Hid (∀ w6 : World, Below wr.heap.size wr w6 → Is .V Q2 w6 k kx (.agg #[.int .i64 kx.o.kind, .int .u64 kx.o.bits, .int .u64 kx.o.high, .int .u64 kx.o.low, .string (bs kx.o.text), .string (bs kx.o.more), .int .i64 kx.o.sub, .slice bd3 kx.o.bytes.length bc3, .slice se kx.kids.length sf])) := Lib.hid (fun w6 h6 => Is.beyond (w := w) ⟨_, _, rfl, hby2'.out, hkd'⟩ (HW.out.trans (h6.mono HW.out.size)))
      obtain ⟨V0, hV0⟩ : ∃ x, bs kn = x := ⟨_, rfl⟩
      obtain ⟨V1, hV1⟩ : ∃ x, kx.o.kind = x := ⟨_, rfl⟩
      obtain ⟨V2, hV2⟩ : ∃ x, kx.o.bits = x := ⟨_, rfl⟩
      obtain ⟨V3, hV3⟩ : ∃ x, kx.o.high = x := ⟨_, rfl⟩
      obtain ⟨V4, hV4⟩ : ∃ x, kx.o.low = x := ⟨_, rfl⟩
      obtain ⟨V5, hV5⟩ : ∃ x, bs kx.o.text = x := ⟨_, rfl⟩
      obtain ⟨V6, hV6⟩ : ∃ x, bs kx.o.more = x := ⟨_, rfl⟩
      obtain ⟨V7, hV7⟩ : ∃ x, kx.o.sub = x := ⟨_, rfl⟩
      obtain ⟨V8, hV8⟩ : ∃ x, kx.o.bytes.length = x := ⟨_, rfl⟩
      obtain ⟨V9, hV9⟩ : ∃ x, kx.kids.length = x := ⟨_, rfl⟩
      rw [hV0] at r0
      rw [hV1] at r1 KQ
      rw [hV2] at r2 KQ
      rw [hV3] at r3 KQ
      rw [hV4] at r4 KQ
      rw [hV5] at r5 KQ
      rw [hV6] at r6 KQ
      rw [hV7] at r7 KQ
      rw [hV8] at r8 KQ
      rw [hV9] at r9 KQ
      clear hra hkd hby2 hbb hblk hkx
      rw [hV0] at q0
      rw [hV1] at q1 KQ2
      rw [hV2] at q2 KQ2
      rw [hV3] at q3 KQ2
      rw [hV4] at q4 KQ2
      rw [hV5] at q5 KQ2
      rw [hV6] at q6 KQ2
      rw [hV7] at q7 KQ2
      rw [hV8] at q8 KQ2
      rw [hV9] at q9 KQ2
      clear hra' hkd' hby2' hbb' hblk'
      have HIx := Lib.hid (fun w v v2 h1 h2 => HI.out _ HMEM.out Q Q2 w v v2 h1 h2)
      clear hV0 hV1 hV2 hV3 hV4 hV5 hV6 hV7 hV8 hV9
      have hb1 : b < wr.heap.size := by omega
      have hb2 : b' < wr.heap.size := by omega
      go_upto_region 6 with fail
      clear r0 r1 r2 r3 r4 r5 r6 r7 r8 r9
      go_region_held_law (fun W => ((W.cell? ⟨wr.heap.size, 0, none⟩ = some (.string V0) ∧ W.cell? ⟨wr.heap.size, 1, none⟩ = some (.int .i64 V1) ∧ W.cell? ⟨wr.heap.size, 2, none⟩ = some (.int .u64 V2) ∧ W.cell? ⟨wr.heap.size, 3, none⟩ = some (.int .u64 V3) ∧ W.cell? ⟨wr.heap.size, 4, none⟩ = some (.int .u64 V4) ∧ W.cell? ⟨wr.heap.size, 5, none⟩ = some (.string V5) ∧ W.cell? ⟨wr.heap.size, 6, none⟩ = some (.string V6) ∧ W.cell? ⟨wr.heap.size, 7, none⟩ = some (.int .i64 V7) ∧ W.cell? ⟨wr.heap.size, 8, none⟩ = some (.slice bd2 V8 bc2) ∧ W.cell? ⟨wr.heap.size, 9, none⟩ = some (.slice sd V9 sc)) ∧ W.heap[wr.heap.size]? = some (.cells #[.string V0, .int .i64 V1, .int .u64 V2, .int .u64 V3, .int .u64 V4, .string V5, .string V6, .int .i64 V7, .slice bd2 V8 bc2, .slice sd V9 sc] 51 (0, 0))) ∧ (W.cell? ⟨w.heap.size + 1, 8, none⟩ = some (.slice (some ⟨b', o', none⟩) m c2) ∧ W.cell? ⟨b', o' + K * 10, none⟩ = some (.string V0) ∧ W.cell? ⟨b', o' + K * 10 + 1, none⟩ = some (.int .i64 V1) ∧ W.cell? ⟨b', o' + K * 10 + 2, none⟩ = some (.int .u64 V2) ∧ W.cell? ⟨b', o' + K * 10 + 3, none⟩ = some (.int .u64 V3) ∧ W.cell? ⟨b', o' + K * 10 + 4, none⟩ = some (.int .u64 V4) ∧ W.cell? ⟨b', o' + K * 10 + 5, none⟩ = some (.string V5) ∧ W.cell? ⟨b', o' + K * 10 + 6, none⟩ = some (.string V6) ∧ W.cell? ⟨b', o' + K * 10 + 7, none⟩ = some (.int .i64 V7) ∧ W.cell? ⟨b', o' + K * 10 + 8, none⟩ = some (.slice bd3 V8 bc3) ∧ W.cell? ⟨b', o' + K * 10 + 9, none⟩ = some (.slice se V9 sf))) ((refine ⟨row10 ?_, ?_, ?_, ?_, ?_, ?_, ?_, ?_, ?_, ?_, ?_, ?_⟩; (first | assumption | exact heap_alloc_last wr _ | exact (Below.heap_alloc _ _ _ (by simp)).trans (heap_alloc_last wr _)); all_goals first | assumption | (simp [go_sem, *]; done))) (first | (go_at_call 13; go_loud (refine (HIx.out _ _ _ (KQ.out _ bel) (KQ2.out _ bel)).mono ?_; rintro e w7 ⟨rfl, hb7⟩); have hw7 := bwB hb7 wr.heap.size wr; have hS7 := (hb7.block wr.heap.size (by simp)).trans (heap_alloc_last wr _); have y0 := cB hb7 (w.heap.size + 1) 8 (.slice (some ⟨b', o', none⟩) m c2); have y1 := cB hb7 b' (o' + K * 10) (.string V0); have y2 := cB hb7 b' (o' + K * 10 + 1) (.int .i64 V1); have y3 := cB hb7 b' (o' + K * 10 + 2) (.int .u64 V2); have y4 := cB hb7 b' (o' + K * 10 + 3) (.int .u64 V3); have y5 := cB hb7 b' (o' + K * 10 + 4) (.int .u64 V4); have y6 := cB hb7 b' (o' + K * 10 + 5) (.string V5); have y7 := cB hb7 b' (o' + K * 10 + 6) (.string V6); have y8 := cB hb7 b' (o' + K * 10 + 7) (.int .i64 V7); have y9 := cB hb7 b' (o' + K * 10 + 8) (.slice bd3 V8 bc3); have y10 := cB hb7 b' (o' + K * 10 + 9) (.slice se V9 sf)))
      clear hb7 hS7
      go_wp2_with fail
      go_roundw
      case rel => exact ⟨K + 1, by omega, by go_num, y0, by have := hw7.size; omega, Lib.hid (HW.out.trans (hw7.mono hzw))⟩
      case measure => simp [intOf]; omega
    · have hKe : K = m := by omega
      subst hKe
      go_wp2_with fail
      go_ret
      exact ⟨rfl, HW.out⟩
end
section
open Go.RowKit
theorem fits_3 (dp sz : Nat) (D S O : Int) (h1 : 1 ≤ D) (h2 : D ≤ 200) (h3 : 5 ≤ S) (h4 : S ≤ 16777216) (h5 : 0 ≤ O) (h6 : O ≤ 67108864) (hd : (dp : Int) ≤ D) (hs : (sz : Int) ≤ S) (Q : Nat → Prop) (k : Nat) (t : Ro) (bd : Option Addr) (bc : Nat) (ad : Option Addr) (m c : Nat) (w : World) (hk : Is .V Q w k t (.agg #[.int .i64 3, .int .u64 0, .int .u64 0, .int .u64 0, .string { data := #[] }, .string { data := #[] }, .int .i64 0, .slice bd 0 bc, .slice ad m c]))
    (hD : ∀ w v, Is .V Q w k t v → Calls Tryz.prog 21 #[v] w fun e w' => e = .returned (.int .i64 dp) ∧ Below w.heap.size w w') (hS : ∀ w v, Is .V Q w k t v → Calls Tryz.prog 22 #[v] w fun e w' => e = .returned (.int .i64 sz) ∧ Below w.heap.size w w') :
    Calls Tryz.prog 23 #[.agg #[.int .i64 3, .int .u64 0, .int .u64 0, .int .u64 0, .string { data := #[] }, .string { data := #[] }, .int .i64 0, .slice bd 0 bc, .slice ad m c], .agg #[.int .i64 D, .int .i64 S, .int .i64 O]] w fun e w' => e = .returned (.int .i64 0) ∧ Below w.heap.size w w' := by
  have HM := Lib.hid (fun w => may_any D S O h1 h2 h3 h4 h5 h6 w)
  have HK := Lib.hid hk
  have HD := Lib.hid hD
  have HS := Lib.hid hS
  clear hk hD hS
  go_enter Tryz.func23, Tryz.ntmps23
  go_wp2_with fail
  with_reducible refine (HM.out _).mono ?_
  rintro e w1 ⟨rfl, hb1⟩
  have c1_0 := cB hb1 w.heap.size 0 (.int .i64 3)
  have c1_1 := cB hb1 w.heap.size 1 (.int .u64 0)
  have c1_2 := cB hb1 w.heap.size 2 (.int .u64 0)
  have c1_3 := cB hb1 w.heap.size 3 (.int .u64 0)
  have c1_4 := cB hb1 w.heap.size 4 (.string { data := #[] })
  have c1_5 := cB hb1 w.heap.size 5 (.string { data := #[] })
  have c1_6 := cB hb1 w.heap.size 6 (.int .i64 0)
  have c1_7 := cB hb1 w.heap.size 7 (.slice bd 0 bc)
  have c1_8 := cB hb1 w.heap.size 8 (.slice ad m c)
  have c1_9 := cB hb1 (w.heap.size + 1) 0 (.int .i64 D)
  have c1_10 := cB hb1 (w.heap.size + 1) 1 (.int .i64 S)
  have c1_11 := cB hb1 (w.heap.size + 1) 2 (.int .i64 O)
  have hl1_0 := ltB hb1 w.heap.size
  have hl1_1 := ltB hb1 (w.heap.size + 1)
  have hw1 := bwB hb1 w.heap.size w
  have hz1 := hw1.size
  clear hb1
  go_wp2_with fail
  go_upto_region 5 with fail
  go_region_held_law (fun W => W.cell? ⟨w.heap.size, 0, none⟩ = some (.int .i64 3) ∧ W.cell? ⟨w.heap.size, 1, none⟩ = some (.int .u64 0) ∧ W.cell? ⟨w.heap.size, 2, none⟩ = some (.int .u64 0) ∧ W.cell? ⟨w.heap.size, 3, none⟩ = some (.int .u64 0) ∧ W.cell? ⟨w.heap.size, 4, none⟩ = some (.string { data := #[] }) ∧ W.cell? ⟨w.heap.size, 5, none⟩ = some (.string { data := #[] }) ∧ W.cell? ⟨w.heap.size, 6, none⟩ = some (.int .i64 0) ∧ W.cell? ⟨w.heap.size, 7, none⟩ = some (.slice bd 0 bc) ∧ W.cell? ⟨w.heap.size, 8, none⟩ = some (.slice ad m c) ∧ W.cell? ⟨w.heap.size + 1, 0, none⟩ = some (.int .i64 D) ∧ W.cell? ⟨w.heap.size + 1, 1, none⟩ = some (.int .i64 S) ∧ W.cell? ⟨w.heap.size + 1, 2, none⟩ = some (.int .i64 O)) ((refine ⟨?_, ?_, ?_, ?_, ?_, ?_, ?_, ?_, ?_, ?_, ?_, ?_⟩; all_goals first | assumption)) (first | (go_at_call 21; go_loud (refine (HD.out _ _ ?_).mono ?_; (exact HK.out.beyond bel); rintro e w2 ⟨rfl, hb2⟩); have d2_0 := cB hb2 w.heap.size 0 (.int .i64 3); have d2_1 := cB hb2 w.heap.size 1 (.int .u64 0); have d2_2 := cB hb2 w.heap.size 2 (.int .u64 0); have d2_3 := cB hb2 w.heap.size 3 (.int .u64 0); have d2_4 := cB hb2 w.heap.size 4 (.string { data := #[] }); have d2_5 := cB hb2 w.heap.size 5 (.string { data := #[] }); have d2_6 := cB hb2 w.heap.size 6 (.int .i64 0); have d2_7 := cB hb2 w.heap.size 7 (.slice bd 0 bc); have d2_8 := cB hb2 w.heap.size 8 (.slice ad m c); have d2_9 := cB hb2 (w.heap.size + 1) 0 (.int .i64 D); have d2_10 := cB hb2 (w.heap.size + 1) 1 (.int .i64 S); have d2_11 := cB hb2 (w.heap.size + 1) 2 (.int .i64 O)))
  have hl2_0 : w.heap.size < w2.heap.size := by have := hb2.size; first | omega | (simp at this; omega)
  have hl2_1 : w.heap.size + 1 < w2.heap.size := by have := hb2.size; first | omega | (simp at this; omega)
  have hw2 : Below w.heap.size w w2 := Below.trans bel (hb2.mono (by first | (simp; done) | (simp; omega) | omega))
  have hz2 := hw2.size
  clear hb2
  go_upto_region 7 with fail
  go_region_held_law (fun W => W.cell? ⟨w.heap.size, 0, none⟩ = some (.int .i64 3) ∧ W.cell? ⟨w.heap.size, 1, none⟩ = some (.int .u64 0) ∧ W.cell? ⟨w.heap.size, 2, none⟩ = some (.int .u64 0) ∧ W.cell? ⟨w.heap.size, 3, none⟩ = some (.int .u64 0) ∧ W.cell? ⟨w.heap.size, 4, none⟩ = some (.string { data := #[] }) ∧ W.cell? ⟨w.heap.size, 5, none⟩ = some (.string { data := #[] }) ∧ W.cell? ⟨w.heap.size, 6, none⟩ = some (.int .i64 0) ∧ W.cell? ⟨w.heap.size, 7, none⟩ = some (.slice bd 0 bc) ∧ W.cell? ⟨w.heap.size, 8, none⟩ = some (.slice ad m c) ∧ W.cell? ⟨w.heap.size + 1, 0, none⟩ = some (.int .i64 D) ∧ W.cell? ⟨w.heap.size + 1, 1, none⟩ = some (.int .i64 S) ∧ W.cell? ⟨w.heap.size + 1, 2, none⟩ = some (.int .i64 O)) ((refine ⟨?_, ?_, ?_, ?_, ?_, ?_, ?_, ?_, ?_, ?_, ?_, ?_⟩; all_goals first | assumption)) (first | (go_at_call 22; go_loud (refine (HS.out _ _ ?_).mono ?_; (exact HK.out.beyond bel); rintro e w3 ⟨rfl, hb3⟩); have d3_0 := cB hb3 w.heap.size 0 (.int .i64 3); have d3_1 := cB hb3 w.heap.size 1 (.int .u64 0); have d3_2 := cB hb3 w.heap.size 2 (.int .u64 0); have d3_3 := cB hb3 w.heap.size 3 (.int .u64 0); have d3_4 := cB hb3 w.heap.size 4 (.string { data := #[] }); have d3_5 := cB hb3 w.heap.size 5 (.string { data := #[] }); have d3_6 := cB hb3 w.heap.size 6 (.int .i64 0); have d3_7 := cB hb3 w.heap.size 7 (.slice bd 0 bc); have d3_8 := cB hb3 w.heap.size 8 (.slice ad m c); have d3_9 := cB hb3 (w.heap.size + 1) 0 (.int .i64 D); have d3_10 := cB hb3 (w.heap.size + 1) 1 (.int .i64 S); have d3_11 := cB hb3 (w.heap.size + 1) 2 (.int .i64 O)))
  have hl3_0 : w.heap.size < w3.heap.size := by have := hb3.size; first | omega | (simp at this; omega)
  have hl3_1 : w.heap.size + 1 < w3.heap.size := by have := hb3.size; first | omega | (simp at this; omega)
  have hw3 : Below w.heap.size w w3 := Below.trans bel (hb3.mono (by first | (simp; done) | (simp; omega) | omega))
  have hz3 := hw3.size
  clear hb3
  go_wp2_with fail
  go_ret
  exact ⟨rfl, bel⟩
theorem fits_any (k : Nat) (l : KL) (D S O : Int) (h1 : 1 ≤ D) (h2 : D ≤ 200) (h3 : 5 ≤ S) (h4 : S ≤ 16777216) (h5 : 0 ≤ O) (h6 : O ≤ 67108864) (hd : (dpR k (vD l) : Int) ≤ D) (hs : (szR k (vD l) : Int) ≤ S) (hs1 : szR k (vD l) ≤ 1000000) (hk7 : k ≤ 700) (hdk : Dk k (vD l)) (Q : Nat → Prop) (w : World) (v : Value) (hk : Is .V Q w k (vD l) v) :
    Calls Tryz.prog 23 #[v, .agg #[.int .i64 D, .int .i64 S, .int .i64 O]] w fun e w' => e = .returned (.int .i64 0) ∧ Below w.heap.size w w' := by
  obtain ⟨bd, bc, ad, c, rfl⟩ := hk.form
  exact fits_3 (dpR k (vD l)) (szR k (vD l)) D S O h1 h2 h3 h4 h5 h6 hd hs Q k (vD l) bd bc ad l.length c w hk (fun w v h => dp_any k _ hk7 hdk Q w v h) (fun w v h => sz_any k _ hdk hs1 Q w v h)
end
end Go.Proofs.YtihnfhhopldllaaGreatDoor
