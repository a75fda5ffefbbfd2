/- Parts of the proof of TopLooks: U53. No condition. -/
import Derived.Test.YtihnfhhopldllaaGreatDoorJ1
import Derived.Test.YtihnfhhopldllaaGreatDoorJ28
namespace Go.Proofs.YtihnfhhopldllaaGreatDoor
set_option linter.unusedSimpArgs false
set_option linter.unusedVariables false
set_option maxHeartbeats 6400000
set_option maxRecDepth 100000
section
open Go.RowKit
theorem evalue_w3 (d k : Nat) (lj lv : KL) (hE : EPl d k lj lv) (tx V2 : ByteArray) (Q : Nat → Prop) (b o c : Nat) (ad : Option Addr) (m mc : Nat) (hm : lj.length = m) (hv : lv.length = m) (p : Value) (n B : Nat) (hn : n + (k + 1) ≤ 900) (w : World) (hb : b < w.heap.size)
    (r0 : w.cell? ⟨b, o, none⟩ = some (.string { data := #[36, 100, 111, 99, 117, 109, 101, 110, 116] })) (r1 : w.cell? ⟨b, o + 1, none⟩ = some (.int .i64 7)) (r2 : w.cell? ⟨b, o + 2, none⟩ = some (.string V2)) (r3 : w.cell? ⟨b, o + 3, none⟩ = some (.slice ad m mc))
    (hk : Kd .J Q w (d + 1) lj (.slice ad m mc)) (hp : Pa w B 3 p n) (hB : B ≤ w.heap.size) (hQ : ∀ b, Q b → b < w.heap.size → p.ownBlock ≠ some b) :
    Calls Tryz.prog 119 #[.agg #[.int .i64 7, .string tx, .slice (some ⟨b, o, none⟩) 1 c], p] w fun e w' => (∃ s, e = .returned (.tuple #[.agg #[.int .i64 3, .int .u64 0, .int .u64 0, .int .u64 0, .string { data := #[] }, .string { data := #[] }, .int .i64 0, .slice none 0 0, s], .agg #[.int .i64 0, .int .i64 0, .slice none 0 0]]) ∧ Kd .V (fun b => w.heap.size ≤ b) w' (k + 1) lv s) ∧ w.grownBy w' p.ownBlock ∧ Pa w' B 3 p n := by
  have hpl := hp.lt
  have HPL : Hid (∀ w1, Kd .J (fun b => Q b ∧ b < w.heap.size) w1 (d + 1) lj (.slice ad m mc) → Pa w1 B 3 p n → B ≤ w1.heap.size → Calls Tryz.prog 70 #[.slice ad m mc, p] w1 fun e w' => (∃ V, e = .returned (.tuple #[V, .agg #[.int .i64 0, .int .i64 0, .slice none 0 0]]) ∧ Bd .V 51 w' w1.heap.size k lv V) ∧ w1.grownBy w' p.ownBlock ∧ Pa w' B 3 p n) := Lib.hid (fun w1 h1 h2 h3 => hE (fun b => Q b ∧ b < w.heap.size) ad m mc p n B w1 hm hn h1 h2 h3 (fun b hb _ => hQ b hb.1 hb.2))
  have HK := Lib.hid (hk.mono (Q' := fun b => Q b ∧ b < w.heap.size) (fun b hb hl => ⟨hb, hl⟩))
  have HP := Lib.hid hp
  have HLV := Lib.hid hv
  have HW := Lib.hid (fun ad n c w => with_any 3 ad n c w)
  have H1 : Hid (∀ w : World, Calls Tryz.prog 176 #[.string { data := #[36, 100, 111, 99, 117, 109, 101, 110, 116] }, .string { data := #[36] }] w fun e w' => e = .returned (.bool true) ∧ w = w') := Lib.hid (fun w => (Tryz.strings_HasPrefix { data := #[36, 100, 111, 99, 117, 109, 101, 110, 116] } { data := #[36] } w).mono (fun e w' h => ⟨by rw [h.1]; rfl, h.2.symm⟩))
  have HH : Hid (∀ u : World, u.cell? ⟨b, o, none⟩ = some (.string { data := #[36, 100, 111, 99, 117, 109, 101, 110, 116] }) → u.cell? ⟨b, o + 1, none⟩ = some (.int .i64 7) → u.cell? ⟨b, o + 2, none⟩ = some (.string V2) → u.cell? ⟨b, o + 3, none⟩ = some (.slice ad m mc) → b < u.heap.size → Calls Tryz.prog 199 #[.agg #[.int .i64 7, .string tx, .slice (some ⟨b, o, none⟩) 1 c]] u fun e w' => e = .returned (.tuple #[.agg #[.int .i64 3, .int .u64 0, .int .u64 0, .int .u64 0, .string { data := #[] }, .string { data := #[] }, .int .i64 0, .slice none 0 0, .slice none 0 0], .slice ad m mc, .bool true]) ∧ Below u.heap.size u w') := Lib.hid (fun u r0 r1 r2 r3 hb => holder_doc { data := #[36, 100, 111, 99, 117, 109, 101, 110, 116] } b o c tx V2 ad m mc u hb r0 r1 r2 r3 (by simp))
  have h1 : b ≠ w.heap.size := by omega
  have h2 : b ≠ w.heap.size + 1 := by omega
  have h3 : b ≠ w.heap.size + 1 + 1 := by omega
  have h4 : b < w.heap.size + 1 := by omega
  have h5 : b < w.heap.size + 1 + 1 := by omega
  clear hE hv hm hk hp hQ
  go_enter Tryz.func119, Tryz.ntmps119
  go_wp2_with fail
  with_reducible refine (H1.out _).mono ?_
  rintro e w' ⟨rfl, rfl⟩
  go_wp2_with fail
  with_reducible refine (HH.out _ ?r0 ?r1 ?r2 ?r3 ?r4).mono ?_
  case r0 => first | with_reducible assumption | (simp [go_sem]; done) | (simp [go_sem, *]; done)
  case r1 => first | with_reducible assumption | (simp [go_sem]; done) | (simp [go_sem, *]; done)
  case r2 => first | with_reducible assumption | (simp [go_sem]; done) | (simp [go_sem, *]; done)
  case r3 => first | with_reducible assumption | (simp [go_sem]; done) | (simp [go_sem, *]; done)
  case r4 => (simp; omega)
  rintro e w1 ⟨rfl, hb1⟩
  obtain ⟨c1_0, f1_0⟩ := cf hb1 w.heap.size 0 (.int .i64 7)
  obtain ⟨c1_1, f1_1⟩ := cf hb1 w.heap.size 1 (.string tx)
  obtain ⟨c1_2, f1_2⟩ := cf hb1 w.heap.size 2 (.slice (some ⟨b, o, none⟩) 1 c)
  obtain ⟨c1_3, f1_3⟩ := cf hb1 (w.heap.size + 1) 0 (.int .i64 0)
  obtain ⟨c1_4, f1_4⟩ := cf hb1 (w.heap.size + 1) 1 (.int .u64 0)
  obtain ⟨c1_5, f1_5⟩ := cf hb1 (w.heap.size + 1) 2 (.int .u64 0)
  obtain ⟨c1_6, f1_6⟩ := cf hb1 (w.heap.size + 1) 3 (.int .u64 0)
  obtain ⟨c1_7, f1_7⟩ := cf hb1 (w.heap.size + 1) 4 (.string { data := #[] })
  obtain ⟨c1_8, f1_8⟩ := cf hb1 (w.heap.size + 1) 5 (.string { data := #[] })
  obtain ⟨c1_9, f1_9⟩ := cf hb1 (w.heap.size + 1) 6 (.int .i64 0)
  obtain ⟨c1_10, f1_10⟩ := cf hb1 (w.heap.size + 1) 7 (.slice none 0 0)
  obtain ⟨c1_11, f1_11⟩ := cf hb1 (w.heap.size + 1) 8 (.slice none 0 0)
  obtain ⟨c1_12, f1_12⟩ := cf hb1 (w.heap.size + 1 + 1) 0 (.int .i64 0)
  obtain ⟨c1_13, f1_13⟩ := cf hb1 (w.heap.size + 1 + 1) 1 (.int .i64 0)
  obtain ⟨c1_14, f1_14⟩ := cf hb1 (w.heap.size + 1 + 1) 2 (.slice none 0 0)
  have hl1_0 := ltB hb1 w.heap.size
  have hl1_1 := ltB hb1 (w.heap.size + 1)
  have hl1_2 := ltB hb1 (w.heap.size + 1 + 1)
  have hw1 := bwB hb1 w.heap.size w
  have hz1 := hw1.size
  clear hb1
  go_wp2_with fail
  with_reducible refine (HPL.out _ ?hk ?hp ?hB2).mono ?_
  case hk => exact HK.out.beyond (Below.trans hw1 bel)
  case hp => exact HP.out.beyond (Below.trans hw1 bel)
  case hB2 => (simp; omega)
  rintro e w2 ⟨⟨V, rfl, hV⟩, hb2, hP2⟩
  have hk2 := Lib.hid (hV.low (base' := w.heap.size + 1 + 1 + 1) (by simp; omega)).done
  clear hV
  obtain ⟨vd, vc, rfl⟩ := hk2.out.slice
  simp only [HLV.out] at hk2 ⊢
  obtain ⟨c2_0, f2_0⟩ := cfR hb2 w.heap.size 0 (.int .i64 7) (fun e => by have := hpl _ e; omega)
  obtain ⟨c2_1, f2_1⟩ := cfR hb2 w.heap.size 1 (.string tx) (fun e => by have := hpl _ e; omega)
  obtain ⟨c2_2, f2_2⟩ := cfR hb2 w.heap.size 2 (.slice (some ⟨b, o, none⟩) 1 c) (fun e => by have := hpl _ e; omega)
  obtain ⟨c2_3, f2_3⟩ := cfR hb2 (w.heap.size + 1) 0 (.int .i64 0) (fun e => by have := hpl _ e; omega)
  obtain ⟨c2_4, f2_4⟩ := cfR hb2 (w.heap.size + 1) 1 (.int .u64 0) (fun e => by have := hpl _ e; omega)
  obtain ⟨c2_5, f2_5⟩ := cfR hb2 (w.heap.size + 1) 2 (.int .u64 0) (fun e => by have := hpl _ e; omega)
  obtain ⟨c2_6, f2_6⟩ := cfR hb2 (w.heap.size + 1) 3 (.int .u64 0) (fun e => by have := hpl _ e; omega)
  obtain ⟨c2_7, f2_7⟩ := cfR hb2 (w.heap.size + 1) 4 (.string { data := #[] }) (fun e => by have := hpl _ e; omega)
  obtain ⟨c2_8, f2_8⟩ := cfR hb2 (w.heap.size + 1) 5 (.string { data := #[] }) (fun e => by have := hpl _ e; omega)
  obtain ⟨c2_9, f2_9⟩ := cfR hb2 (w.heap.size + 1) 6 (.int .i64 0) (fun e => by have := hpl _ e; omega)
  obtain ⟨c2_10, f2_10⟩ := cfR hb2 (w.heap.size + 1) 7 (.slice none 0 0) (fun e => by have := hpl _ e; omega)
  obtain ⟨c2_11, f2_11⟩ := cfR hb2 (w.heap.size + 1) 8 (.slice none 0 0) (fun e => by have := hpl _ e; omega)
  obtain ⟨c2_12, f2_12⟩ := cfR hb2 (w.heap.size + 1 + 1) 0 (.int .i64 0) (fun e => by have := hpl _ e; omega)
  obtain ⟨c2_13, f2_13⟩ := cfR hb2 (w.heap.size + 1 + 1) 1 (.int .i64 0) (fun e => by have := hpl _ e; omega)
  obtain ⟨c2_14, f2_14⟩ := cfR hb2 (w.heap.size + 1 + 1) 2 (.slice none 0 0) (fun e => by have := hpl _ e; omega)
  obtain ⟨c2_15, f2_15⟩ := cfR hb2 w1.heap.size 0 (.int .i64 3) (fun e => by have := hpl _ e; omega)
  obtain ⟨c2_16, f2_16⟩ := cfR hb2 w1.heap.size 1 (.int .u64 0) (fun e => by have := hpl _ e; omega)
  obtain ⟨c2_17, f2_17⟩ := cfR hb2 w1.heap.size 2 (.int .u64 0) (fun e => by have := hpl _ e; omega)
  obtain ⟨c2_18, f2_18⟩ := cfR hb2 w1.heap.size 3 (.int .u64 0) (fun e => by have := hpl _ e; omega)
  obtain ⟨c2_19, f2_19⟩ := cfR hb2 w1.heap.size 4 (.string { data := #[] }) (fun e => by have := hpl _ e; omega)
  obtain ⟨c2_20, f2_20⟩ := cfR hb2 w1.heap.size 5 (.string { data := #[] }) (fun e => by have := hpl _ e; omega)
  obtain ⟨c2_21, f2_21⟩ := cfR hb2 w1.heap.size 6 (.int .i64 0) (fun e => by have := hpl _ e; omega)
  obtain ⟨c2_22, f2_22⟩ := cfR hb2 w1.heap.size 7 (.slice none 0 0) (fun e => by have := hpl _ e; omega)
  obtain ⟨c2_23, f2_23⟩ := cfR hb2 w1.heap.size 8 (.slice none 0 0) (fun e => by have := hpl _ e; omega)
  have hs2 := hb2.size
  (try simp at hs2)
  have hl2_0 : w.heap.size < w2.heap.size := by first | omega | (simp at hs2; omega)
  have hl2_1 : w.heap.size + 1 < w2.heap.size := by first | omega | (simp at hs2; omega)
  have hl2_2 : w.heap.size + 1 + 1 < w2.heap.size := by first | omega | (simp at hs2; omega)
  have hl2_3 : w1.heap.size < w2.heap.size := by first | omega | (simp at hs2; omega)
  have hw2 : w.grownBy w2 p.ownBlock := grown_trans (by refine grown_alloc ?_ _; exact grown_below hw1 _; skip; repeat' (first | (with_reducible assumption) | (with_reducible exact grown_refl _ _) | (with_reducible refine grown_drew ?_) | (with_reducible refine grown_set_none ?_ (by dsimp only; omega) _) | (with_reducible refine grown_alloc ?_ _))) hb2
  have hz2 := hw2.size
  clear hb2 hs2
  go_wp2_with fail
  with_reducible refine (HW.out _ _ _ _).mono ?_
  rintro e w3 ⟨rfl, hb3⟩
  obtain ⟨c3_0, f3_0⟩ := cf hb3 (w.heap.size + 1) 0 (.int .i64 0)
  obtain ⟨c3_1, f3_1⟩ := cf hb3 (w.heap.size + 1) 1 (.int .u64 0)
  obtain ⟨c3_2, f3_2⟩ := cf hb3 (w.heap.size + 1) 2 (.int .u64 0)
  obtain ⟨c3_3, f3_3⟩ := cf hb3 (w.heap.size + 1) 3 (.int .u64 0)
  obtain ⟨c3_4, f3_4⟩ := cf hb3 (w.heap.size + 1) 4 (.string { data := #[] })
  obtain ⟨c3_5, f3_5⟩ := cf hb3 (w.heap.size + 1) 5 (.string { data := #[] })
  obtain ⟨c3_6, f3_6⟩ := cf hb3 (w.heap.size + 1) 6 (.int .i64 0)
  obtain ⟨c3_7, f3_7⟩ := cf hb3 (w.heap.size + 1) 7 (.slice none 0 0)
  obtain ⟨c3_8, f3_8⟩ := cf hb3 (w.heap.size + 1) 8 (.slice none 0 0)
  obtain ⟨c3_9, f3_9⟩ := cf hb3 (w.heap.size + 1 + 1) 0 (.int .i64 0)
  obtain ⟨c3_10, f3_10⟩ := cf hb3 (w.heap.size + 1 + 1) 1 (.int .i64 0)
  obtain ⟨c3_11, f3_11⟩ := cf hb3 (w.heap.size + 1 + 1) 2 (.slice none 0 0)
  have hl3_0 := ltB hb3 (w.heap.size + 1)
  have hl3_1 := ltB hb3 (w.heap.size + 1 + 1)
  have hw3 := bwB hb3 w2.heap.size w2
  have hz3 := hw3.size
  clear hb3
  go_wp2_with fail
  refine bodyPost_ret (v := .tuple #[.agg #[.int .i64 3, .int .u64 0, .int .u64 0, .int .u64 0, .string { data := #[] }, .string { data := #[] }, .int .i64 0, .slice none 0 0, .slice vd m vc], .agg #[.int .i64 0, .int .i64 0, .slice none 0 0]]) (by simp (maxDischargeDepth := 4) [results, Tryz.results119, go_sem, c3_0, f3_0, c3_1, f3_1, c3_2, f3_2, c3_3, f3_3, c3_4, f3_4, c3_5, f3_5, c3_6, f3_6, c3_7, f3_7, c3_8, f3_8, c3_9, f3_9, c3_10, f3_10, c3_11, f3_11]) rfl ?_
  have hk9 := hk2.out.keeps (Keeps.beyond hw3)
  have hg9 := grown_trans hw2 (grown_below hw3 p.ownBlock)
  have hp9 := hP2.beyond hw3
  refine ⟨⟨_, rfl, (hk9.keeps ?_).mono (fun b hb _ => by omega)⟩, ?_, ?_⟩
  · repeat' (first | (with_reducible exact Keeps.refl _ _) | (with_reducible refine keeps_set ?_ (by dsimp only; omega) _))
  · repeat' (first | (with_reducible assumption) | (with_reducible exact grown_refl _ _) | (with_reducible refine grown_drew ?_) | (with_reducible refine grown_set_none ?_ (by dsimp only; omega) _) | (with_reducible refine grown_alloc ?_ _))
  · repeat' (first | (with_reducible assumption) | (with_reducible refine pa_set ?_ (fun g hg => by have := hpl _ hg; dsimp only; omega) _))
theorem evalue_w4 (d k : Nat) (lj lv : KL) (hE : EPl d k lj lv) (tx V2 : ByteArray) (Q : Nat → Prop) (b o c : Nat) (ad : Option Addr) (m mc : Nat) (hm : lj.length = m) (hv : lv.length = m) (p : Value) (n B : Nat) (hn : n + (k + 1) ≤ 900) (w : World) (hb : b < w.heap.size)
    (r0 : w.cell? ⟨b, o, none⟩ = some (.string { data := #[36, 97, 114, 114, 97, 121] })) (r1 : w.cell? ⟨b, o + 1, none⟩ = some (.int .i64 7)) (r2 : w.cell? ⟨b, o + 2, none⟩ = some (.string V2)) (r3 : w.cell? ⟨b, o + 3, none⟩ = some (.slice ad m mc))
    (hk : Kd .J Q w (d + 1) lj (.slice ad m mc)) (hp : Pa w B 3 p n) (hB : B ≤ w.heap.size) (hQ : ∀ b, Q b → b < w.heap.size → p.ownBlock ≠ some b) :
    Calls Tryz.prog 119 #[.agg #[.int .i64 7, .string tx, .slice (some ⟨b, o, none⟩) 1 c], p] w fun e w' => (∃ s, e = .returned (.tuple #[.agg #[.int .i64 4, .int .u64 0, .int .u64 0, .int .u64 0, .string { data := #[] }, .string { data := #[] }, .int .i64 0, .slice none 0 0, s], .agg #[.int .i64 0, .int .i64 0, .slice none 0 0]]) ∧ Kd .V (fun b => w.heap.size ≤ b) w' (k + 1) lv s) ∧ w.grownBy w' p.ownBlock ∧ Pa w' B 3 p n := by
  have hpl := hp.lt
  have HPL : Hid (∀ w1, Kd .J (fun b => Q b ∧ b < w.heap.size) w1 (d + 1) lj (.slice ad m mc) → Pa w1 B 3 p n → B ≤ w1.heap.size → Calls Tryz.prog 70 #[.slice ad m mc, p] w1 fun e w' => (∃ V, e = .returned (.tuple #[V, .agg #[.int .i64 0, .int .i64 0, .slice none 0 0]]) ∧ Bd .V 51 w' w1.heap.size k lv V) ∧ w1.grownBy w' p.ownBlock ∧ Pa w' B 3 p n) := Lib.hid (fun w1 h1 h2 h3 => hE (fun b => Q b ∧ b < w.heap.size) ad m mc p n B w1 hm hn h1 h2 h3 (fun b hb _ => hQ b hb.1 hb.2))
  have HK := Lib.hid (hk.mono (Q' := fun b => Q b ∧ b < w.heap.size) (fun b hb hl => ⟨hb, hl⟩))
  have HP := Lib.hid hp
  have HLV := Lib.hid hv
  have HW := Lib.hid (fun ad n c w => with_any 4 ad n c w)
  have H1 : Hid (∀ w : World, Calls Tryz.prog 176 #[.string { data := #[36, 97, 114, 114, 97, 121] }, .string { data := #[36] }] w fun e w' => e = .returned (.bool true) ∧ w = w') := Lib.hid (fun w => (Tryz.strings_HasPrefix { data := #[36, 97, 114, 114, 97, 121] } { data := #[36] } w).mono (fun e w' h => ⟨by rw [h.1]; rfl, h.2.symm⟩))
  have HH : Hid (∀ u : World, u.cell? ⟨b, o, none⟩ = some (.string { data := #[36, 97, 114, 114, 97, 121] }) → u.cell? ⟨b, o + 1, none⟩ = some (.int .i64 7) → u.cell? ⟨b, o + 2, none⟩ = some (.string V2) → u.cell? ⟨b, o + 3, none⟩ = some (.slice ad m mc) → b < u.heap.size → Calls Tryz.prog 199 #[.agg #[.int .i64 7, .string tx, .slice (some ⟨b, o, none⟩) 1 c]] u fun e w' => e = .returned (.tuple #[.agg #[.int .i64 4, .int .u64 0, .int .u64 0, .int .u64 0, .string { data := #[] }, .string { data := #[] }, .int .i64 0, .slice none 0 0, .slice none 0 0], .slice ad m mc, .bool true]) ∧ Below u.heap.size u w') := Lib.hid (fun u r0 r1 r2 r3 hb => holder_arr { data := #[36, 97, 114, 114, 97, 121] } b o c tx V2 ad m mc u hb r0 r1 r2 r3 (by rw [ByteArray.toList_eq, ByteArray.toList_eq]; decide) (by simp))
  have h1 : b ≠ w.heap.size := by omega
  have h2 : b ≠ w.heap.size + 1 := by omega
  have h3 : b ≠ w.heap.size + 1 + 1 := by omega
  have h4 : b < w.heap.size + 1 := by omega
  have h5 : b < w.heap.size + 1 + 1 := by omega
  clear hE hv hm hk hp hQ
  go_enter Tryz.func119, Tryz.ntmps119
  go_wp2_with fail
  with_reducible refine (H1.out _).mono ?_
  rintro e w' ⟨rfl, rfl⟩
  go_wp2_with fail
  with_reducible refine (HH.out _ ?r0 ?r1 ?r2 ?r3 ?r4).mono ?_
  case r0 => first | with_reducible assumption | (simp [go_sem]; done) | (simp [go_sem, *]; done)
  case r1 => first | with_reducible assumption | (simp [go_sem]; done) | (simp [go_sem, *]; done)
  case r2 => first | with_reducible assumption | (simp [go_sem]; done) | (simp [go_sem, *]; done)
  case r3 => first | with_reducible assumption | (simp [go_sem]; done) | (simp [go_sem, *]; done)
  case r4 => (simp; omega)
  rintro e w1 ⟨rfl, hb1⟩
  obtain ⟨c1_0, f1_0⟩ := cf hb1 w.heap.size 0 (.int .i64 7)
  obtain ⟨c1_1, f1_1⟩ := cf hb1 w.heap.size 1 (.string tx)
  obtain ⟨c1_2, f1_2⟩ := cf hb1 w.heap.size 2 (.slice (some ⟨b, o, none⟩) 1 c)
  obtain ⟨c1_3, f1_3⟩ := cf hb1 (w.heap.size + 1) 0 (.int .i64 0)
  obtain ⟨c1_4, f1_4⟩ := cf hb1 (w.heap.size + 1) 1 (.int .u64 0)
  obtain ⟨c1_5, f1_5⟩ := cf hb1 (w.heap.size + 1) 2 (.int .u64 0)
  obtain ⟨c1_6, f1_6⟩ := cf hb1 (w.heap.size + 1) 3 (.int .u64 0)
  obtain ⟨c1_7, f1_7⟩ := cf hb1 (w.heap.size + 1) 4 (.string { data := #[] })
  obtain ⟨c1_8, f1_8⟩ := cf hb1 (w.heap.size + 1) 5 (.string { data := #[] })
  obtain ⟨c1_9, f1_9⟩ := cf hb1 (w.heap.size + 1) 6 (.int .i64 0)
  obtain ⟨c1_10, f1_10⟩ := cf hb1 (w.heap.size + 1) 7 (.slice none 0 0)
  obtain ⟨c1_11, f1_11⟩ := cf hb1 (w.heap.size + 1) 8 (.slice none 0 0)
  obtain ⟨c1_12, f1_12⟩ := cf hb1 (w.heap.size + 1 + 1) 0 (.int .i64 0)
  obtain ⟨c1_13, f1_13⟩ := cf hb1 (w.heap.size + 1 + 1) 1 (.int .i64 0)
  obtain ⟨c1_14, f1_14⟩ := cf hb1 (w.heap.size + 1 + 1) 2 (.slice none 0 0)
  have hl1_0 := ltB hb1 w.heap.size
  have hl1_1 := ltB hb1 (w.heap.size + 1)
  have hl1_2 := ltB hb1 (w.heap.size + 1 + 1)
  have hw1 := bwB hb1 w.heap.size w
  have hz1 := hw1.size
  clear hb1
  go_wp2_with fail
  with_reducible refine (HPL.out _ ?hk ?hp ?hB2).mono ?_
  case hk => exact HK.out.beyond (Below.trans hw1 bel)
  case hp => exact HP.out.beyond (Below.trans hw1 bel)
  case hB2 => (simp; omega)
  rintro e w2 ⟨⟨V, rfl, hV⟩, hb2, hP2⟩
  have hk2 := Lib.hid (hV.low (base' := w.heap.size + 1 + 1 + 1) (by simp; omega)).done
  clear hV
  obtain ⟨vd, vc, rfl⟩ := hk2.out.slice
  simp only [HLV.out] at hk2 ⊢
  obtain ⟨c2_0, f2_0⟩ := cfR hb2 w.heap.size 0 (.int .i64 7) (fun e => by have := hpl _ e; omega)
  obtain ⟨c2_1, f2_1⟩ := cfR hb2 w.heap.size 1 (.string tx) (fun e => by have := hpl _ e; omega)
  obtain ⟨c2_2, f2_2⟩ := cfR hb2 w.heap.size 2 (.slice (some ⟨b, o, none⟩) 1 c) (fun e => by have := hpl _ e; omega)
  obtain ⟨c2_3, f2_3⟩ := cfR hb2 (w.heap.size + 1) 0 (.int .i64 0) (fun e => by have := hpl _ e; omega)
  obtain ⟨c2_4, f2_4⟩ := cfR hb2 (w.heap.size + 1) 1 (.int .u64 0) (fun e => by have := hpl _ e; omega)
  obtain ⟨c2_5, f2_5⟩ := cfR hb2 (w.heap.size + 1) 2 (.int .u64 0) (fun e => by have := hpl _ e; omega)
  obtain ⟨c2_6, f2_6⟩ := cfR hb2 (w.heap.size + 1) 3 (.int .u64 0) (fun e => by have := hpl _ e; omega)
  obtain ⟨c2_7, f2_7⟩ := cfR hb2 (w.heap.size + 1) 4 (.string { data := #[] }) (fun e => by have := hpl _ e; omega)
  obtain ⟨c2_8, f2_8⟩ := cfR hb2 (w.heap.size + 1) 5 (.string { data := #[] }) (fun e => by have := hpl _ e; omega)
  obtain ⟨c2_9, f2_9⟩ := cfR hb2 (w.heap.size + 1) 6 (.int .i64 0) (fun e => by have := hpl _ e; omega)
  obtain ⟨c2_10, f2_10⟩ := cfR hb2 (w.heap.size + 1) 7 (.slice none 0 0) (fun e => by have := hpl _ e; omega)
  obtain ⟨c2_11, f2_11⟩ := cfR hb2 (w.heap.size + 1) 8 (.slice none 0 0) (fun e => by have := hpl _ e; omega)
  obtain ⟨c2_12, f2_12⟩ := cfR hb2 (w.heap.size + 1 + 1) 0 (.int .i64 0) (fun e => by have := hpl _ e; omega)
  obtain ⟨c2_13, f2_13⟩ := cfR hb2 (w.heap.size + 1 + 1) 1 (.int .i64 0) (fun e => by have := hpl _ e; omega)
  obtain ⟨c2_14, f2_14⟩ := cfR hb2 (w.heap.size + 1 + 1) 2 (.slice none 0 0) (fun e => by have := hpl _ e; omega)
  obtain ⟨c2_15, f2_15⟩ := cfR hb2 w1.heap.size 0 (.int .i64 4) (fun e => by have := hpl _ e; omega)
  obtain ⟨c2_16, f2_16⟩ := cfR hb2 w1.heap.size 1 (.int .u64 0) (fun e => by have := hpl _ e; omega)
  obtain ⟨c2_17, f2_17⟩ := cfR hb2 w1.heap.size 2 (.int .u64 0) (fun e => by have := hpl _ e; omega)
  obtain ⟨c2_18, f2_18⟩ := cfR hb2 w1.heap.size 3 (.int .u64 0) (fun e => by have := hpl _ e; omega)
  obtain ⟨c2_19, f2_19⟩ := cfR hb2 w1.heap.size 4 (.string { data := #[] }) (fun e => by have := hpl _ e; omega)
  obtain ⟨c2_20, f2_20⟩ := cfR hb2 w1.heap.size 5 (.string { data := #[] }) (fun e => by have := hpl _ e; omega)
  obtain ⟨c2_21, f2_21⟩ := cfR hb2 w1.heap.size 6 (.int .i64 0) (fun e => by have := hpl _ e; omega)
  obtain ⟨c2_22, f2_22⟩ := cfR hb2 w1.heap.size 7 (.slice none 0 0) (fun e => by have := hpl _ e; omega)
  obtain ⟨c2_23, f2_23⟩ := cfR hb2 w1.heap.size 8 (.slice none 0 0) (fun e => by have := hpl _ e; omega)
  have hs2 := hb2.size
  (try simp at hs2)
  have hl2_0 : w.heap.size < w2.heap.size := by first | omega | (simp at hs2; omega)
  have hl2_1 : w.heap.size + 1 < w2.heap.size := by first | omega | (simp at hs2; omega)
  have hl2_2 : w.heap.size + 1 + 1 < w2.heap.size := by first | omega | (simp at hs2; omega)
  have hl2_3 : w1.heap.size < w2.heap.size := by first | omega | (simp at hs2; omega)
  have hw2 : w.grownBy w2 p.ownBlock := grown_trans (by refine grown_alloc ?_ _; exact grown_below hw1 _; skip; repeat' (first | (with_reducible assumption) | (with_reducible exact grown_refl _ _) | (with_reducible refine grown_drew ?_) | (with_reducible refine grown_set_none ?_ (by dsimp only; omega) _) | (with_reducible refine grown_alloc ?_ _))) hb2
  have hz2 := hw2.size
  clear hb2 hs2
  go_wp2_with fail
  with_reducible refine (HW.out _ _ _ _).mono ?_
  rintro e w3 ⟨rfl, hb3⟩
  obtain ⟨c3_0, f3_0⟩ := cf hb3 (w.heap.size + 1) 0 (.int .i64 0)
  obtain ⟨c3_1, f3_1⟩ := cf hb3 (w.heap.size + 1) 1 (.int .u64 0)
  obtain ⟨c3_2, f3_2⟩ := cf hb3 (w.heap.size + 1) 2 (.int .u64 0)
  obtain ⟨c3_3, f3_3⟩ := cf hb3 (w.heap.size + 1) 3 (.int .u64 0)
  obtain ⟨c3_4, f3_4⟩ := cf hb3 (w.heap.size + 1) 4 (.string { data := #[] })
  obtain ⟨c3_5, f3_5⟩ := cf hb3 (w.heap.size + 1) 5 (.string { data := #[] })
  obtain ⟨c3_6, f3_6⟩ := cf hb3 (w.heap.size + 1) 6 (.int .i64 0)
  obtain ⟨c3_7, f3_7⟩ := cf hb3 (w.heap.size + 1) 7 (.slice none 0 0)
  obtain ⟨c3_8, f3_8⟩ := cf hb3 (w.heap.size + 1) 8 (.slice none 0 0)
  obtain ⟨c3_9, f3_9⟩ := cf hb3 (w.heap.size + 1 + 1) 0 (.int .i64 0)
  obtain ⟨c3_10, f3_10⟩ := cf hb3 (w.heap.size + 1 + 1) 1 (.int .i64 0)
  obtain ⟨c3_11, f3_11⟩ := cf hb3 (w.heap.size + 1 + 1) 2 (.slice none 0 0)
  have hl3_0 := ltB hb3 (w.heap.size + 1)
  have hl3_1 := ltB hb3 (w.heap.size + 1 + 1)
  have hw3 := bwB hb3 w2.heap.size w2
  have hz3 := hw3.size
  clear hb3
  go_wp2_with fail
  refine bodyPost_ret (v := .tuple #[.agg #[.int .i64 4, .int .u64 0, .int .u64 0, .int .u64 0, .string { data := #[] }, .string { data := #[] }, .int .i64 0, .slice none 0 0, .slice vd m vc], .agg #[.int .i64 0, .int .i64 0, .slice none 0 0]]) (by simp (maxDischargeDepth := 4) [results, Tryz.results119, go_sem, c3_0, f3_0, c3_1, f3_1, c3_2, f3_2, c3_3, f3_3, c3_4, f3_4, c3_5, f3_5, c3_6, f3_6, c3_7, f3_7, c3_8, f3_8, c3_9, f3_9, c3_10, f3_10, c3_11, f3_11]) rfl ?_
  have hk9 := hk2.out.keeps (Keeps.beyond hw3)
  have hg9 := grown_trans hw2 (grown_below hw3 p.ownBlock)
  have hp9 := hP2.beyond hw3
  refine ⟨⟨_, rfl, (hk9.keeps ?_).mono (fun b hb _ => by omega)⟩, ?_, ?_⟩
  · repeat' (first | (with_reducible exact Keeps.refl _ _) | (with_reducible refine keeps_set ?_ (by dsimp only; omega) _))
  · repeat' (first | (with_reducible assumption) | (with_reducible exact grown_refl _ _) | (with_reducible refine grown_drew ?_) | (with_reducible refine grown_set_none ?_ (by dsimp only; omega) _) | (with_reducible refine grown_alloc ?_ _))
  · repeat' (first | (with_reducible assumption) | (with_reducible refine pa_set ?_ (fun g hg => by have := hpl _ hg; dsimp only; omega) _))
end
end Go.Proofs.YtihnfhhopldllaaGreatDoor
