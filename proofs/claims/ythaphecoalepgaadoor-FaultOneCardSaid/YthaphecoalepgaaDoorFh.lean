/- Same of two equal faults, Within, awake (layer 5); the walks of FaultWithin, FaultNames, FaultTells, FaultBack, FaultOne. Condition: the listed variables are laid, and some integer stands at the library's MaxLen. -/
import Derived.Test.YthaphecoalepgaaDoorFg
import Derived.Test.YthaphecoalepgaaDoorWav4
import Derived.Deep.RegionHeld3
import Derived.Deep.RegionWith
namespace Go.Proofs.YthaphecoalepgaaDoor
open Go.RowKit
set_option linter.unusedSimpArgs false
set_option linter.unusedVariables false

set_option maxHeartbeats 1600000 in
theorem same5_any (e a : Int) (ad bd : Option Addr) (n c d : Nat) (f : Nat → Int) (hn : n ≤ 1000000) (w : World) (hS : Sl .i64 w ad n f) (hT : Sl .i64 w bd n f) :
    Calls Tryd.prog 17 #[.agg #[.int .i64 e, .int .i64 a, .slice ad n c], .agg #[.int .i64 e, .int .i64 a, .slice bd n d]] w fun en w' => en = .returned (.bool true) ∧ Below w.heap.size w w' := by
  have SI := Lib.hid (fun (W : World) (h1 : Sl .i64 W ad n f) (h2 : Sl .i64 W bd n f) => sameInts_yes ad bd n c d f W hn h1 h2)
  have HS := Lib.hid hS
  have HT := Lib.hid hT
  clear hS hT
  go_enter Tryd.func17, Tryd.ntmps17
  go_wp2_with fail
  with_reducible refine (SI.out _ ((HS.out.alloc _).alloc _) ((HT.out.alloc _).alloc _)).mono ?_
  rintro en w' ⟨rfl, q, rfl⟩
  go_wp2_with fail
  go_ret
  exact ⟨by first | rfl | (simp; done), by repeat' (first | (with_reducible assumption) | (with_reducible exact Below.refl _ _) | (with_reducible refine below_drewN ?_ _) | (with_reducible refine Below.drew ?_) | (with_reducible refine Below.setCell ?_ ?_ _) | (with_reducible refine Below.alloc ?_ ?_ _) | omega | (simp; done) | (simp; omega))⟩
theorem faultIn_any (e a x : Int) (v : Value) (hv : ∃ ad n c, v = .slice ad n c) (w : World) :
    Calls Tryd.prog 18 #[.agg #[.int .i64 e, .int .i64 a, v], .int .i64 x] w fun en w' => en = .returned (.bool (decide (0 ≤ a) && decide (a ≤ x))) ∧ Below w.heap.size w w' := by
  obtain ⟨ad, n, c, rfl⟩ := hv
  by_cases h0 : 0 ≤ a
  · by_cases h1 : a ≤ x
    · rw [decide_eq_true h0, decide_eq_true h1]
      go_enter Tryd.func18, Tryd.ntmps18
      go_wp2_with fail
      go_ret
      exact ⟨by first | rfl | (simp; done), by repeat' (first | (with_reducible assumption) | (with_reducible exact Below.refl _ _) | (with_reducible refine below_drewN ?_ _) | (with_reducible refine Below.drew ?_) | (with_reducible refine Below.setCell ?_ ?_ _) | (with_reducible refine Below.alloc ?_ ?_ _) | omega | (simp; done) | (simp; omega))⟩
    · rw [decide_eq_true h0, decide_eq_false h1]
      go_enter Tryd.func18, Tryd.ntmps18
      go_wp2_with fail
      go_ret
      exact ⟨by first | rfl | (simp; done), by repeat' (first | (with_reducible assumption) | (with_reducible exact Below.refl _ _) | (with_reducible refine below_drewN ?_ _) | (with_reducible refine Below.drew ?_) | (with_reducible refine Below.setCell ?_ ?_ _) | (with_reducible refine Below.alloc ?_ ?_ _) | omega | (simp; done) | (simp; omega))⟩
  · rw [decide_eq_false h0]
    go_enter Tryd.func18, Tryd.ntmps18
    go_wp2_with fail
    go_ret
    exact ⟨by first | rfl | (simp; done), by repeat' (first | (with_reducible assumption) | (with_reducible exact Below.refl _ _) | (with_reducible refine below_drewN ?_ _) | (with_reducible refine Below.drew ?_) | (with_reducible refine Below.setCell ?_ ?_ _) | (with_reducible refine Below.alloc ?_ ?_ _) | omega | (simp; done) | (simp; omega))⟩
theorem par0 : Par [69, 76, 69, 78, 64, 52, 47, 48, 47, 50] 6 4 [0, 2] := by
  refine ⟨by decide, by decide, by decide, by decide, ?_⟩
  have e1 : Lib.decDigits (4 : Int).toNat = [52] := Lib.decDigits_one (by decide)
  have e2 : Lib.decDigits (0 : Int).toNat = [48] := Lib.decDigits_one (by decide)
  have e3 : Lib.decDigits (2 : Int).toNat = [50] := Lib.decDigits_one (by decide)
  have e4 : pthL [0, 2] = [47, 48, 47, 50] := by
    show (47 :: Lib.decDigits (0 : Int).toNat) ++ ((47 :: Lib.decDigits (2 : Int).toNat) ++ []) = _
    rw [e2, e3]; rfl
  rw [e1, e4]; rfl
theorem sl_lit (w : World) (t : TypeId) (b : Nat) (hb : b = w.heap.size) : Sl .i64 (w.alloc (.cells #[.int .i64 0, .int .i64 2] t)) (some ⟨b, 0, none⟩) 2 (gp [0, 2]) := fun i hi => by
  subst hb
  have hadd : (⟨w.heap.size, 0, none⟩ : Addr).add i = ⟨w.heap.size, i, none⟩ := by unfold Addr.add; split <;> simp_all
  refine ⟨_, rfl, by simp, ?_⟩
  rw [hadd, World.cell?_alloc_at _ _ _ _ rfl]
  have : i = 0 ∨ i = 1 := by omega
  rcases this with rfl | rfl <;> rfl
theorem parse0 (w : World) (hL : Laid5 w) : Calls Tryd.prog 13 #[.string { data := #[69, 76, 69, 78, 64, 52, 47, 48, 47, 50] }] w fun en w' => (∃ ad c, en = .returned (.tuple #[.agg #[.int .i64 6, .int .i64 4, .slice ad 2 c], .bool true])) ∧ Below w.heap.size w w' := by
  refine (faultParse_any { data := #[69, 76, 69, 78, 64, 52, 47, 48, 47, 50] } (by decide) w hL).mono ?_
  rintro en w' ⟨⟨e, a, p, v, hp, ho, rfl⟩ | ⟨hno, _⟩, hb⟩
  · obtain ⟨rfl, rfl, rfl⟩ := par0.uniq hp
    obtain ⟨ad, c, rfl, _⟩ := ho.sl
    exact ⟨⟨ad, c, rfl⟩, hb⟩
  · exact absurd par0 (hno _ _ _)
theorem text0 (ad : Option Addr) (c : Nat) (w : World) (ht : PowTab w) (hS : Sl .i64 w ad 2 (gp [0, 2])) : Calls Tryd.prog 15 #[.agg #[.int .i64 6, .int .i64 4, .slice ad 2 c]] w fun en w' => en = .returned (.string { data := #[69, 76, 69, 78, 64, 52, 47, 48, 47, 50] }) ∧ Below w.heap.size w w' := by
  refine (faultText_any 6 4 ad 2 c [0, 2] rfl (by decide) (by decide) (by decide) w ht hS).mono ?_
  rintro en w' ⟨rfl, hb⟩
  rw [par0.text]
  exact ⟨rfl, hb⟩
set_option maxHeartbeats 1600000 in
set_option maxRecDepth 100000 in
theorem awake5 (w : World) (hL : Laid5 w) : Calls Tryd.prog 8 #[] w fun e w' => e = .returned (.bool true) ∧ Below w.heap.size w w' := by
  have HL := Lib.hid hL
  clear hL
  have P := Lib.hid parse0
  have X := Lib.hid text0
  go_enter Tryd.func8, Tryd.ntmps8
  go_wp2_with fail
  with_reducible refine (P.out _ HL.out).mono ?_
  rintro e w1 ⟨⟨ad, c, rfl⟩, hb1⟩
  have hz1 := hb1.size
  go_wp2_with fail
  with_reducible refine (X.out _ _ _ ?pw ?sl).mono ?_
  case pw => exact laid5_pow (laid5_below HL.out (by repeat' (first | (with_reducible assumption) | (with_reducible exact Below.refl _ _) | (with_reducible refine below_drewN ?_ _) | (with_reducible refine Below.drew ?_) | (with_reducible refine Below.setCell ?_ ?_ _) | (with_reducible refine Below.alloc ?_ ?_ _) | omega | (simp; done) | (simp; omega))))
  case sl => exact sl_lit _ _ _ (by simp)
  rintro e w2 ⟨rfl, hb2⟩
  have c0 : w2.cell? ⟨w1.heap.size, 0, none⟩ = some (.int .i64 6) := (hb2.cell (p := ⟨w1.heap.size, 0, none⟩) (by first | assumption | (simp; done) | (simp; omega))).trans (by first | assumption | (simp [go_sem]; done) | (simp [go_sem, *]; done))
  have c1 : w2.cell? ⟨w1.heap.size, 1, none⟩ = some (.int .i64 4) := (hb2.cell (p := ⟨w1.heap.size, 1, none⟩) (by first | assumption | (simp; done) | (simp; omega))).trans (by first | assumption | (simp [go_sem]; done) | (simp [go_sem, *]; done))
  have c2 : w2.cell? ⟨w1.heap.size, 2, none⟩ = some (.slice ad 2 c) := (hb2.cell (p := ⟨w1.heap.size, 2, none⟩) (by first | assumption | (simp; done) | (simp; omega))).trans (by first | assumption | (simp [go_sem]; done) | (simp [go_sem, *]; done))
  have hl2 : w1.heap.size < w2.heap.size := by have hs := hb2.size; first | (simp at hs; omega) | omega
  have hw2 : Below w.heap.size w w2 := Below.trans (by repeat' (first | (with_reducible assumption) | (with_reducible exact Below.refl _ _) | (with_reducible refine below_drewN ?_ _) | (with_reducible refine Below.drew ?_) | (with_reducible refine Below.setCell ?_ ?_ _) | (with_reducible refine Below.alloc ?_ ?_ _) | omega | (simp; done) | (simp; omega))) (hb2.mono (by first | assumption | (simp; done) | (simp; omega)))
  clear hb1 hb2
  go_wp2_with fail
  go_ret
  exact ⟨by first | rfl | (simp; done), by repeat' (first | (with_reducible assumption) | (with_reducible exact Below.refl _ _) | (with_reducible refine below_drewN ?_ _) | (with_reducible refine Below.drew ?_) | (with_reducible refine Below.setCell ?_ ?_ _) | (with_reducible refine Below.alloc ?_ ?_ _) | omega | (simp; done) | (simp; omega))⟩

set_option maxHeartbeats 3200000 in
set_option maxRecDepth 100000 in
theorem faultWithin_walk (e a : Int) (ad : Option Addr) (n c : Nat) (x : Int) (w : World) (hL : Laid5 w) :
    Calls Tryd.prog 7 #[.agg #[.int .i64 e, .int .i64 a, .slice ad n c], .int .i64 x] w fun en w' => en = .returned (.bool true) ∧ Below w.heap.size w w' := by
  have HL := Lib.hid hL
  clear hL
  have AW := Lib.hid awake5
  have WI := Lib.hid (fun (w : World) => faultIn_any e a x (.slice ad n c) ⟨ad, n, c, rfl⟩ w)
  by_cases h0 : 0 ≤ a
  · rw [decide_eq_true h0, Bool.true_and] at WI
    go_enter Tryd.func7, Tryd.ntmps7
    go_wp2_with fail
    with_reducible refine (AW.out _ (laid5_below HL.out (by repeat' (first | (with_reducible assumption) | (with_reducible exact Below.refl _ _) | (with_reducible refine below_drewN ?_ _) | (with_reducible refine Below.drew ?_) | (with_reducible refine Below.setCell ?_ ?_ _) | (with_reducible refine Below.alloc ?_ ?_ _) | omega | (simp; done) | (simp; omega))))).mono ?_
    rintro e w1 ⟨rfl, hb1⟩
    have c1_0 : w1.cell? ⟨w.heap.size, 0, none⟩ = some (.int .i64 e) := (hb1.cell (p := ⟨w.heap.size, 0, none⟩) (by first | assumption | (simp; done) | (simp; omega))).trans (by first | assumption | (simp [go_sem]; done) | (simp [go_sem, *]; done))
    have c1_1 : w1.cell? ⟨w.heap.size, 1, none⟩ = some (.int .i64 a) := (hb1.cell (p := ⟨w.heap.size, 1, none⟩) (by first | assumption | (simp; done) | (simp; omega))).trans (by first | assumption | (simp [go_sem]; done) | (simp [go_sem, *]; done))
    have c1_2 : w1.cell? ⟨w.heap.size, 2, none⟩ = some (.slice ad n c) := (hb1.cell (p := ⟨w.heap.size, 2, none⟩) (by first | assumption | (simp; done) | (simp; omega))).trans (by first | assumption | (simp [go_sem]; done) | (simp [go_sem, *]; done))
    have hl1_0 : w.heap.size < w1.heap.size := by have hs := hb1.size; first | (simp at hs; omega) | omega
    have hw1 : Below w.heap.size w w1 := Below.trans (by repeat' (first | (with_reducible assumption) | (with_reducible exact Below.refl _ _) | (with_reducible refine below_drewN ?_ _) | (with_reducible refine Below.drew ?_) | (with_reducible refine Below.setCell ?_ ?_ _) | (with_reducible refine Below.alloc ?_ ?_ _) | omega | (simp; done) | (simp; omega))) (hb1.mono (by first | assumption | (simp; done) | (simp; omega)))
    have hz1 := hw1.size
    clear hb1
    go_wp2_with fail
    first | (go_region_held3 (fun W => W.cell? ⟨w.heap.size, 0, none⟩ = some (.int .i64 e) ∧ W.cell? ⟨w.heap.size, 1, none⟩ = some (.int .i64 a) ∧ W.cell? ⟨w.heap.size, 2, none⟩ = some (.slice ad n c) ∧ w.heap.size < W.heap.size ∧ Below w.heap.size w W) (((try dsimp only); (repeat' apply And.intro) <;> (first | assumption | (simp [*, go_sem]; done) | omega | (simp; omega) | (repeat' (first | (with_reducible assumption) | (with_reducible exact Below.refl _ _) | (with_reducible refine below_drewN ?_ _) | (with_reducible refine Below.drew ?_) | (with_reducible refine Below.setCell ?_ ?_ _) | (with_reducible refine Below.alloc ?_ ?_ _) | omega | (simp; done) | (simp; omega)))))) (first | (go_at_call 18; (with_reducible refine (WI.out _).mono ?_); rintro e w2 ⟨rfl, hb2⟩; have c2_0 : w2.cell? ⟨w.heap.size, 0, none⟩ = some (.int .i64 e) := (hb2.cell (p := ⟨w.heap.size, 0, none⟩) (by first | assumption | omega | (simp; done) | (simp; omega))).trans (by first | assumption | (simp [go_sem, *]; done)); have c2_1 : w2.cell? ⟨w.heap.size, 1, none⟩ = some (.int .i64 a) := (hb2.cell (p := ⟨w.heap.size, 1, none⟩) (by first | assumption | omega | (simp; done) | (simp; omega))).trans (by first | assumption | (simp [go_sem, *]; done)); have c2_2 : w2.cell? ⟨w.heap.size, 2, none⟩ = some (.slice ad n c) := (hb2.cell (p := ⟨w.heap.size, 2, none⟩) (by first | assumption | omega | (simp; done) | (simp; omega))).trans (by first | assumption | (simp [go_sem, *]; done)); have hl2_0 : w.heap.size < w2.heap.size := (by have hs := hb2.size; first | (simp at hs; omega) | omega); have hw2 : Below w.heap.size w w2 := Below.trans (by first | assumption | (repeat' (first | (with_reducible assumption) | (with_reducible exact Below.refl _ _) | (with_reducible refine below_drewN ?_ _) | (with_reducible refine Below.drew ?_) | (with_reducible refine Below.setCell ?_ ?_ _) | (with_reducible refine Below.alloc ?_ ?_ _) | omega | (simp; done) | (simp; omega)))) (hb2.mono (by first | assumption | omega | (simp; done) | (simp; omega))); clear hb2))) | fail
    all_goals
      go_wp2_with fail
      go_ret
      exact ⟨by first | rfl | (simp; done), by repeat' (first | (with_reducible assumption) | (with_reducible exact Below.refl _ _) | (with_reducible refine below_drewN ?_ _) | (with_reducible refine Below.drew ?_) | (with_reducible refine Below.setCell ?_ ?_ _) | (with_reducible refine Below.alloc ?_ ?_ _) | omega | (simp; done) | (simp; omega))⟩
  · rw [decide_eq_false h0, Bool.false_and] at WI
    have h0d : decide (0 ≤ a) = false := decide_eq_false h0
    go_enter Tryd.func7, Tryd.ntmps7
    go_wp2_with fail
    with_reducible refine (AW.out _ (laid5_below HL.out (by repeat' (first | (with_reducible assumption) | (with_reducible exact Below.refl _ _) | (with_reducible refine below_drewN ?_ _) | (with_reducible refine Below.drew ?_) | (with_reducible refine Below.setCell ?_ ?_ _) | (with_reducible refine Below.alloc ?_ ?_ _) | omega | (simp; done) | (simp; omega))))).mono ?_
    rintro e w1 ⟨rfl, hb1⟩
    have c1_0 : w1.cell? ⟨w.heap.size, 0, none⟩ = some (.int .i64 e) := (hb1.cell (p := ⟨w.heap.size, 0, none⟩) (by first | assumption | (simp; done) | (simp; omega))).trans (by first | assumption | (simp [go_sem]; done) | (simp [go_sem, *]; done))
    have c1_1 : w1.cell? ⟨w.heap.size, 1, none⟩ = some (.int .i64 a) := (hb1.cell (p := ⟨w.heap.size, 1, none⟩) (by first | assumption | (simp; done) | (simp; omega))).trans (by first | assumption | (simp [go_sem]; done) | (simp [go_sem, *]; done))
    have c1_2 : w1.cell? ⟨w.heap.size, 2, none⟩ = some (.slice ad n c) := (hb1.cell (p := ⟨w.heap.size, 2, none⟩) (by first | assumption | (simp; done) | (simp; omega))).trans (by first | assumption | (simp [go_sem]; done) | (simp [go_sem, *]; done))
    have hl1_0 : w.heap.size < w1.heap.size := by have hs := hb1.size; first | (simp at hs; omega) | omega
    have hw1 : Below w.heap.size w w1 := Below.trans (by repeat' (first | (with_reducible assumption) | (with_reducible exact Below.refl _ _) | (with_reducible refine below_drewN ?_ _) | (with_reducible refine Below.drew ?_) | (with_reducible refine Below.setCell ?_ ?_ _) | (with_reducible refine Below.alloc ?_ ?_ _) | omega | (simp; done) | (simp; omega))) (hb1.mono (by first | assumption | (simp; done) | (simp; omega)))
    have hz1 := hw1.size
    clear hb1
    go_wp2_with fail
    first | (go_region_with (go_at_call 18; (with_reducible refine (WI.out _).mono ?_); rintro e w2 ⟨rfl, hb2⟩; have c2_0 : w2.cell? ⟨w.heap.size, 0, none⟩ = some (.int .i64 e) := (hb2.cell (p := ⟨w.heap.size, 0, none⟩) (by first | assumption | omega | (simp; done) | (simp; omega))).trans (by first | assumption | (simp [go_sem, *]; done)); have c2_1 : w2.cell? ⟨w.heap.size, 1, none⟩ = some (.int .i64 a) := (hb2.cell (p := ⟨w.heap.size, 1, none⟩) (by first | assumption | omega | (simp; done) | (simp; omega))).trans (by first | assumption | (simp [go_sem, *]; done)); have c2_2 : w2.cell? ⟨w.heap.size, 2, none⟩ = some (.slice ad n c) := (hb2.cell (p := ⟨w.heap.size, 2, none⟩) (by first | assumption | omega | (simp; done) | (simp; omega))).trans (by first | assumption | (simp [go_sem, *]; done)); have hl2_0 : w.heap.size < w2.heap.size := (by have hs := hb2.size; first | (simp at hs; omega) | omega); have hw2 : Below w.heap.size w w2 := Below.trans (by first | assumption | (repeat' (first | (with_reducible assumption) | (with_reducible exact Below.refl _ _) | (with_reducible refine below_drewN ?_ _) | (with_reducible refine Below.drew ?_) | (with_reducible refine Below.setCell ?_ ?_ _) | (with_reducible refine Below.alloc ?_ ?_ _) | omega | (simp; done) | (simp; omega)))) (hb2.mono (by first | assumption | omega | (simp; done) | (simp; omega))); clear hb2)) | fail
    all_goals
      go_wp2_with fail
      go_ret
      exact ⟨by first | rfl | (simp; done), by repeat' (first | (with_reducible assumption) | (with_reducible exact Below.refl _ _) | (with_reducible refine below_drewN ?_ _) | (with_reducible refine Below.drew ?_) | (with_reducible refine Below.setCell ?_ ?_ _) | (with_reducible refine Below.alloc ?_ ?_ _) | omega | (simp; done) | (simp; omega))⟩
set_option maxHeartbeats 3200000 in
set_option maxRecDepth 100000 in
theorem faultNames_walk (e : Int) (s : ByteArray) (w : World) (hL : Laid5 w) :
    Calls Tryd.prog 3 #[.int .i64 e, .string s] w fun en w' => en = .returned (.bool true) ∧ Below w.heap.size w w' := by
  have HL := Lib.hid hL
  clear hL
  have AW := Lib.hid awake5
  by_cases hs : s.size ≤ 100
  · have CP := Lib.hid (fun (w : World) => faultCode_any s (by omega) w)
    have CR := Lib.hid (fun (w : World) => refCode_any s (by omega) w)
    have NP := Lib.hid (fun (w : World) => faultName_any e w)
    have NR := Lib.hid (fun (w : World) => refName_any e w)
    generalize (⟨(nmL e).toArray⟩ : ByteArray) = nb at *
    go_enter Tryd.func3, Tryd.ntmps3
    go_wp2_with fail
    with_reducible refine (AW.out _ HL.out).mono ?_
    rintro e w1 ⟨rfl, hb1⟩
    have hw1 : Below w.heap.size w w1 := Below.trans (by repeat' (first | (with_reducible assumption) | (with_reducible exact Below.refl _ _) | (with_reducible refine below_drewN ?_ _) | (with_reducible refine Below.drew ?_) | (with_reducible refine Below.setCell ?_ ?_ _) | (with_reducible refine Below.alloc ?_ ?_ _) | omega | (simp; done) | (simp; omega))) (hb1.mono (by first | assumption | (simp; done) | (simp; omega)))
    have hz1 := hw1.size
    clear hb1
    go_wp2_with fail
    with_reducible refine (CP.out _).mono ?_
    rintro en w2 ⟨e2, b2, hc2, rfl, hb2⟩
    have hw2 : Below w.heap.size w w2 := hw1.trans (hb2.mono hz1)
    have hz2 := hw2.size
    clear hb2
    have HC2 := Lib.hid hc2
    clear hc2
    go_wp2_with fail
    with_reducible refine (CR.out _).mono ?_
    rintro en w3 ⟨e3, b3, hc3, rfl, hb3⟩
    have hw3 : Below w.heap.size w w3 := hw2.trans (hb3.mono hz2)
    have hz3 := hw3.size
    obtain ⟨rfl, rfl⟩ := code_uniq HC2.out hc3
    clear hb3 HC2 hc3
    go_wp2_with fail
    with_reducible refine (NP.out _).mono ?_
    rintro e w4 ⟨rfl, hb4⟩
    have hw4 : Below w.heap.size w w4 := Below.trans (by repeat' (first | (with_reducible assumption) | (with_reducible exact Below.refl _ _) | (with_reducible refine below_drewN ?_ _) | (with_reducible refine Below.drew ?_) | (with_reducible refine Below.setCell ?_ ?_ _) | (with_reducible refine Below.alloc ?_ ?_ _) | omega | (simp; done) | (simp; omega))) (hb4.mono (by first | assumption | (simp; done) | (simp; omega)))
    have hz4 := hw4.size
    clear hb4
    go_wp2_with fail
    with_reducible refine (NR.out _).mono ?_
    rintro e w5 ⟨rfl, hb5⟩
    have hw5 : Below w.heap.size w w5 := Below.trans (by repeat' (first | (with_reducible assumption) | (with_reducible exact Below.refl _ _) | (with_reducible refine below_drewN ?_ _) | (with_reducible refine Below.drew ?_) | (with_reducible refine Below.setCell ?_ ?_ _) | (with_reducible refine Below.alloc ?_ ?_ _) | omega | (simp; done) | (simp; omega))) (hb5.mono (by first | assumption | (simp; done) | (simp; omega)))
    have hz5 := hw5.size
    clear hb5
    go_wp2_with fail
    go_ret
    exact ⟨by first | rfl | (simp; done), by repeat' (first | (with_reducible assumption) | (with_reducible exact Below.refl _ _) | (with_reducible refine below_drewN ?_ _) | (with_reducible refine Below.drew ?_) | (with_reducible refine Below.setCell ?_ ?_ _) | (with_reducible refine Below.alloc ?_ ?_ _) | omega | (simp; done) | (simp; omega))⟩
  · go_enter Tryd.func3, Tryd.ntmps3
    go_wp2_with fail
    with_reducible refine (AW.out _ HL.out).mono ?_
    rintro e w1 ⟨rfl, hb1⟩
    have hw1 : Below w.heap.size w w1 := Below.trans (by repeat' (first | (with_reducible assumption) | (with_reducible exact Below.refl _ _) | (with_reducible refine below_drewN ?_ _) | (with_reducible refine Below.drew ?_) | (with_reducible refine Below.setCell ?_ ?_ _) | (with_reducible refine Below.alloc ?_ ?_ _) | omega | (simp; done) | (simp; omega))) (hb1.mono (by first | assumption | (simp; done) | (simp; omega)))
    have hz1 := hw1.size
    clear hb1
    go_wp2_with fail
    go_ret
    exact ⟨rfl, by repeat' (first | (with_reducible assumption) | (with_reducible exact Below.refl _ _) | (with_reducible refine below_drewN ?_ _) | (with_reducible refine Below.drew ?_) | (with_reducible refine Below.setCell ?_ ?_ _) | (with_reducible refine Below.alloc ?_ ?_ _) | omega | (simp; done) | (simp; omega))⟩
end Go.Proofs.YthaphecoalepgaaDoor
