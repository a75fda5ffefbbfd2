/- The walks of WideShifts, WideSums, WideDivs, WideTexts and WideLaws. Condition: the table of powers of 10 is laid. -/
import Derived.Test.YtgkgacmphafieaaDoorWd7
import Derived.Test.YtgkgacmphafieaaDoorSh2
namespace Go.Proofs.YtgkgacmphafieaaDoor
open Go.RowKit
set_option linter.unusedSimpArgs false
set_option linter.unusedVariables false

set_option maxHeartbeats 4000000 in
set_option maxRecDepth 100000 in
theorem wideShifts_law (h l n x y p q r s : Int) (UA : ∀ w, Calls Tryd.prog 43 #[.agg #[.int .u64 h, .int .u64 l], .int .i64 n] w fun e w' => e = .returned (.agg #[.int .u64 x, .int .u64 y]) ∧ Below w.heap.size w w')
    (RA : ∀ w, Calls Tryd.prog 44 #[.agg #[.int .u64 h, .int .u64 l], .int .i64 n] w fun e w' => e = .returned (.agg #[.int .u64 x, .int .u64 y]) ∧ Below w.heap.size w w')
    (DA : ∀ w, Calls Tryd.prog 45 #[.agg #[.int .u64 h, .int .u64 l], .int .i64 n] w fun e w' => e = .returned (.agg #[.int .u64 p, .int .u64 q]) ∧ Below w.heap.size w w')
    (SA : ∀ w, Calls Tryd.prog 46 #[.agg #[.int .u64 h, .int .u64 l], .int .i64 n] w fun e w' => e = .returned (.agg #[.int .u64 p, .int .u64 q]) ∧ Below w.heap.size w w')
    (DB : ∀ w, Calls Tryd.prog 45 #[.agg #[.int .u64 x, .int .u64 y], .int .i64 n] w fun e w' => e = .returned (.agg #[.int .u64 r, .int .u64 s]) ∧ Below w.heap.size w w')
    (UB : ∀ w, Calls Tryd.prog 43 #[.agg #[.int .u64 r, .int .u64 s], .int .i64 n] w fun e w' => e = .returned (.agg #[.int .u64 x, .int .u64 y]) ∧ Below w.heap.size w w') (w : World) (htab : PowTab w) :
    Calls Tryd.prog 10 #[.agg #[.int .u64 h, .int .u64 l], .int .i64 n] w fun e w' => e = .returned (.bool true) ∧ Below w.heap.size w w' := by
  have HT := Lib.hid htab
  clear htab
  have AW := Lib.hid awake6
  replace UA := Lib.hid UA
  replace RA := Lib.hid RA
  replace DA := Lib.hid DA
  replace SA := Lib.hid SA
  replace DB := Lib.hid DB
  replace UB := Lib.hid UB
  go_enter Tryd.func10, Tryd.ntmps10
  go_wp2_with fail
  with_reducible refine (AW.out _ (tabIs_below HT.out (by repeat' (first | (with_reducible assumption) | (with_reducible exact Below.refl _ _) | (with_reducible refine below_drewN ?_ _) | (with_reducible refine Below.drew ?_) | (with_reducible refine Below.setCell ?_ ?_ _) | (with_reducible refine Below.alloc ?_ ?_ _) | omega | (simp; done) | (simp; omega))))).mono ?_
  rintro e w1 ⟨rfl, hb1⟩
  have c1_0 : w1.cell? ⟨w.heap.size, 0, none⟩ = some (.int .u64 h) := (hb1.cell (p := ⟨w.heap.size, 0, none⟩) (by first | assumption | (simp; done) | (simp; omega))).trans (by first | assumption | (simp [go_sem]; done) | (simp [go_sem, *]; done))
  have c1_1 : w1.cell? ⟨w.heap.size, 1, none⟩ = some (.int .u64 l) := (hb1.cell (p := ⟨w.heap.size, 1, none⟩) (by first | assumption | (simp; done) | (simp; omega))).trans (by first | assumption | (simp [go_sem]; done) | (simp [go_sem, *]; done))
  have hl1_0 : w.heap.size < w1.heap.size := by have hs := hb1.size; first | (simp at hs; omega) | omega
  have hw1 : Below w.heap.size w w1 := Below.trans (by repeat' (first | (with_reducible assumption) | (with_reducible exact Below.refl _ _) | (with_reducible refine below_drewN ?_ _) | (with_reducible refine Below.drew ?_) | (with_reducible refine Below.setCell ?_ ?_ _) | (with_reducible refine Below.alloc ?_ ?_ _) | omega | (simp; done) | (simp; omega))) (hb1.mono (by first | assumption | (simp; done) | (simp; omega)))
  have hz1 := hw1.size
  clear hb1
  go_wp2_with fail
  go_region_held3 (fun W => W.cell? ⟨w.heap.size, 0, none⟩ = some (.int .u64 h) ∧ W.cell? ⟨w.heap.size, 1, none⟩ = some (.int .u64 l) ∧ w.heap.size < W.heap.size ∧ Below w.heap.size w W) (((try dsimp only); (repeat' apply And.intro) <;> (first | assumption | (simp [*, go_sem]; done) | omega | (simp; omega) | (repeat' (first | (with_reducible assumption) | (with_reducible exact Below.refl _ _) | (with_reducible refine below_drewN ?_ _) | (with_reducible refine Below.drew ?_) | (with_reducible refine Below.setCell ?_ ?_ _) | (with_reducible refine Below.alloc ?_ ?_ _) | omega | (simp; done) | (simp; omega)))))) (first | (go_at_call 43; (with_reducible refine (UA.out _).mono ?_); rintro e w2 ⟨rfl, hb2⟩; have c2_0 : w2.cell? ⟨w.heap.size, 0, none⟩ = some (.int .u64 h) := (hb2.cell (p := ⟨w.heap.size, 0, none⟩) (by first | assumption | omega | (simp; done) | (simp; omega))).trans (by first | assumption | (simp [go_sem, *]; done)); have c2_1 : w2.cell? ⟨w.heap.size, 1, none⟩ = some (.int .u64 l) := (hb2.cell (p := ⟨w.heap.size, 1, none⟩) (by first | assumption | omega | (simp; done) | (simp; omega))).trans (by first | assumption | (simp [go_sem, *]; done)); have hl2_0 : w.heap.size < w2.heap.size := (by have hs := hb2.size; first | (simp at hs; omega) | omega); have hw2 : Below w.heap.size w w2 := Below.trans (by first | assumption | (repeat' (first | (with_reducible assumption) | (with_reducible exact Below.refl _ _) | (with_reducible refine below_drewN ?_ _) | (with_reducible refine Below.drew ?_) | (with_reducible refine Below.setCell ?_ ?_ _) | (with_reducible refine Below.alloc ?_ ?_ _) | omega | (simp; done) | (simp; omega)))) (hb2.mono (by first | assumption | omega | (simp; done) | (simp; omega))); clear hb2) | (go_at_call 44; (with_reducible refine (RA.out _).mono ?_); rintro e w3 ⟨rfl, hb3⟩; have c3_0 : w3.cell? ⟨w.heap.size, 0, none⟩ = some (.int .u64 h) := (hb3.cell (p := ⟨w.heap.size, 0, none⟩) (by first | assumption | omega | (simp; done) | (simp; omega))).trans (by first | assumption | (simp [go_sem, *]; done)); have c3_1 : w3.cell? ⟨w.heap.size, 1, none⟩ = some (.int .u64 l) := (hb3.cell (p := ⟨w.heap.size, 1, none⟩) (by first | assumption | omega | (simp; done) | (simp; omega))).trans (by first | assumption | (simp [go_sem, *]; done)); have hl3_0 : w.heap.size < w3.heap.size := (by have hs := hb3.size; first | (simp at hs; omega) | omega); have hw3 : Below w.heap.size w w3 := Below.trans (by first | assumption | (repeat' (first | (with_reducible assumption) | (with_reducible exact Below.refl _ _) | (with_reducible refine below_drewN ?_ _) | (with_reducible refine Below.drew ?_) | (with_reducible refine Below.setCell ?_ ?_ _) | (with_reducible refine Below.alloc ?_ ?_ _) | omega | (simp; done) | (simp; omega)))) (hb3.mono (by first | assumption | omega | (simp; done) | (simp; omega))); clear hb3) | (go_at_call 45; (with_reducible refine (DA.out _).mono ?_); rintro e w4 ⟨rfl, hb4⟩; have c4_0 : w4.cell? ⟨w.heap.size, 0, none⟩ = some (.int .u64 h) := (hb4.cell (p := ⟨w.heap.size, 0, none⟩) (by first | assumption | omega | (simp; done) | (simp; omega))).trans (by first | assumption | (simp [go_sem, *]; done)); have c4_1 : w4.cell? ⟨w.heap.size, 1, none⟩ = some (.int .u64 l) := (hb4.cell (p := ⟨w.heap.size, 1, none⟩) (by first | assumption | omega | (simp; done) | (simp; omega))).trans (by first | assumption | (simp [go_sem, *]; done)); have hl4_0 : w.heap.size < w4.heap.size := (by have hs := hb4.size; first | (simp at hs; omega) | omega); have hw4 : Below w.heap.size w w4 := Below.trans (by first | assumption | (repeat' (first | (with_reducible assumption) | (with_reducible exact Below.refl _ _) | (with_reducible refine below_drewN ?_ _) | (with_reducible refine Below.drew ?_) | (with_reducible refine Below.setCell ?_ ?_ _) | (with_reducible refine Below.alloc ?_ ?_ _) | omega | (simp; done) | (simp; omega)))) (hb4.mono (by first | assumption | omega | (simp; done) | (simp; omega))); clear hb4) | (go_at_call 46; (with_reducible refine (SA.out _).mono ?_); rintro e w5 ⟨rfl, hb5⟩; have c5_0 : w5.cell? ⟨w.heap.size, 0, none⟩ = some (.int .u64 h) := (hb5.cell (p := ⟨w.heap.size, 0, none⟩) (by first | assumption | omega | (simp; done) | (simp; omega))).trans (by first | assumption | (simp [go_sem, *]; done)); have c5_1 : w5.cell? ⟨w.heap.size, 1, none⟩ = some (.int .u64 l) := (hb5.cell (p := ⟨w.heap.size, 1, none⟩) (by first | assumption | omega | (simp; done) | (simp; omega))).trans (by first | assumption | (simp [go_sem, *]; done)); have hl5_0 : w.heap.size < w5.heap.size := (by have hs := hb5.size; first | (simp at hs; omega) | omega); have hw5 : Below w.heap.size w w5 := Below.trans (by first | assumption | (repeat' (first | (with_reducible assumption) | (with_reducible exact Below.refl _ _) | (with_reducible refine below_drewN ?_ _) | (with_reducible refine Below.drew ?_) | (with_reducible refine Below.setCell ?_ ?_ _) | (with_reducible refine Below.alloc ?_ ?_ _) | omega | (simp; done) | (simp; omega)))) (hb5.mono (by first | assumption | omega | (simp; done) | (simp; omega))); clear hb5) | (go_at_call 45; (with_reducible refine (DB.out _).mono ?_); rintro e w6 ⟨rfl, hb6⟩; have c6_0 : w6.cell? ⟨w.heap.size, 0, none⟩ = some (.int .u64 h) := (hb6.cell (p := ⟨w.heap.size, 0, none⟩) (by first | assumption | omega | (simp; done) | (simp; omega))).trans (by first | assumption | (simp [go_sem, *]; done)); have c6_1 : w6.cell? ⟨w.heap.size, 1, none⟩ = some (.int .u64 l) := (hb6.cell (p := ⟨w.heap.size, 1, none⟩) (by first | assumption | omega | (simp; done) | (simp; omega))).trans (by first | assumption | (simp [go_sem, *]; done)); have hl6_0 : w.heap.size < w6.heap.size := (by have hs := hb6.size; first | (simp at hs; omega) | omega); have hw6 : Below w.heap.size w w6 := Below.trans (by first | assumption | (repeat' (first | (with_reducible assumption) | (with_reducible exact Below.refl _ _) | (with_reducible refine below_drewN ?_ _) | (with_reducible refine Below.drew ?_) | (with_reducible refine Below.setCell ?_ ?_ _) | (with_reducible refine Below.alloc ?_ ?_ _) | omega | (simp; done) | (simp; omega)))) (hb6.mono (by first | assumption | omega | (simp; done) | (simp; omega))); clear hb6) | (go_at_call 43; (with_reducible refine (UB.out _).mono ?_); rintro e w7 ⟨rfl, hb7⟩; have c7_0 : w7.cell? ⟨w.heap.size, 0, none⟩ = some (.int .u64 h) := (hb7.cell (p := ⟨w.heap.size, 0, none⟩) (by first | assumption | omega | (simp; done) | (simp; omega))).trans (by first | assumption | (simp [go_sem, *]; done)); have c7_1 : w7.cell? ⟨w.heap.size, 1, none⟩ = some (.int .u64 l) := (hb7.cell (p := ⟨w.heap.size, 1, none⟩) (by first | assumption | omega | (simp; done) | (simp; omega))).trans (by first | assumption | (simp [go_sem, *]; done)); have hl7_0 : w.heap.size < w7.heap.size := (by have hs := hb7.size; first | (simp at hs; omega) | omega); have hw7 : Below w.heap.size w w7 := Below.trans (by first | assumption | (repeat' (first | (with_reducible assumption) | (with_reducible exact Below.refl _ _) | (with_reducible refine below_drewN ?_ _) | (with_reducible refine Below.drew ?_) | (with_reducible refine Below.setCell ?_ ?_ _) | (with_reducible refine Below.alloc ?_ ?_ _) | omega | (simp; done) | (simp; omega)))) (hb7.mono (by first | assumption | omega | (simp; done) | (simp; omega))); clear hb7))
  all_goals
    go_wp2_with fail
    go_ret
    exact ⟨rfl, by repeat' (first | (with_reducible assumption) | (with_reducible exact Below.refl _ _) | (with_reducible refine below_drewN ?_ _) | (with_reducible refine Below.drew ?_) | (with_reducible refine Below.setCell ?_ ?_ _) | (with_reducible refine Below.alloc ?_ ?_ _) | omega | (simp; done) | (simp; omega))⟩

set_option maxHeartbeats 4000000 in
set_option maxRecDepth 100000 in
theorem wideSums_law (h l g k sh sl dh dl c : Int) (up dn : Bool) (AD : ∀ w, Calls Tryd.prog 47 #[.agg #[.int .u64 h, .int .u64 l], .agg #[.int .u64 g, .int .u64 k]] w fun e w' => e = .returned (.tuple #[.agg #[.int .u64 sh, .int .u64 sl], .bool up]) ∧ Below w.heap.size w w')
    (RA : ∀ w, Calls Tryd.prog 31 #[.agg #[.int .u64 h, .int .u64 l], .agg #[.int .u64 g, .int .u64 k]] w fun e w' => e = .returned (.tuple #[.agg #[.int .u64 sh, .int .u64 sl], .bool up]) ∧ Below w.heap.size w w')
    (SU : ∀ w, Calls Tryd.prog 48 #[.agg #[.int .u64 h, .int .u64 l], .agg #[.int .u64 g, .int .u64 k]] w fun e w' => e = .returned (.tuple #[.agg #[.int .u64 dh, .int .u64 dl], .bool dn]) ∧ Below w.heap.size w w')
    (RS : ∀ w, Calls Tryd.prog 49 #[.agg #[.int .u64 h, .int .u64 l], .agg #[.int .u64 g, .int .u64 k]] w fun e w' => e = .returned (.tuple #[.agg #[.int .u64 dh, .int .u64 dl], .bool dn]) ∧ Below w.heap.size w w')
    (CM : ∀ w, Calls Tryd.prog 50 #[.agg #[.int .u64 h, .int .u64 l], .agg #[.int .u64 g, .int .u64 k]] w fun e w' => e = .returned (.int .i64 c) ∧ Below w.heap.size w w')
    (RC : ∀ w, Calls Tryd.prog 51 #[.agg #[.int .u64 h, .int .u64 l], .agg #[.int .u64 g, .int .u64 k]] w fun e w' => e = .returned (.int .i64 c) ∧ Below w.heap.size w w')
    (OF : ∀ w, Calls Tryd.prog 52 #[.int .u64 l] w fun e w' => e = .returned (.agg #[.int .u64 0, .int .u64 l]) ∧ Below w.heap.size w w') (w : World) (htab : PowTab w) :
    Calls Tryd.prog 11 #[.agg #[.int .u64 h, .int .u64 l], .agg #[.int .u64 g, .int .u64 k]] w fun e w' => e = .returned (.bool true) ∧ Below w.heap.size w w' := by
  have HT := Lib.hid htab
  clear htab
  have AW := Lib.hid awake6
  replace AD := Lib.hid AD
  replace RA := Lib.hid RA
  replace SU := Lib.hid SU
  replace RS := Lib.hid RS
  replace CM := Lib.hid CM
  replace RC := Lib.hid RC
  replace OF := Lib.hid OF
  go_enter Tryd.func11, Tryd.ntmps11
  go_wp2_with fail
  with_reducible refine (AW.out _ (tabIs_below HT.out (by repeat' (first | (with_reducible assumption) | (with_reducible exact Below.refl _ _) | (with_reducible refine below_drewN ?_ _) | (with_reducible refine Below.drew ?_) | (with_reducible refine Below.setCell ?_ ?_ _) | (with_reducible refine Below.alloc ?_ ?_ _) | omega | (simp; done) | (simp; omega))))).mono ?_
  rintro e w1 ⟨rfl, hb1⟩
  have c1_0 : w1.cell? ⟨w.heap.size, 0, none⟩ = some (.int .u64 h) := (hb1.cell (p := ⟨w.heap.size, 0, none⟩) (by first | assumption | (simp; done) | (simp; omega))).trans (by first | assumption | (simp [go_sem]; done) | (simp [go_sem, *]; done))
  have c1_1 : w1.cell? ⟨w.heap.size, 1, none⟩ = some (.int .u64 l) := (hb1.cell (p := ⟨w.heap.size, 1, none⟩) (by first | assumption | (simp; done) | (simp; omega))).trans (by first | assumption | (simp [go_sem]; done) | (simp [go_sem, *]; done))
  have c1_2 : w1.cell? ⟨w.heap.size + 1, 0, none⟩ = some (.int .u64 g) := (hb1.cell (p := ⟨w.heap.size + 1, 0, none⟩) (by first | assumption | (simp; done) | (simp; omega))).trans (by first | assumption | (simp [go_sem]; done) | (simp [go_sem, *]; done))
  have c1_3 : w1.cell? ⟨w.heap.size + 1, 1, none⟩ = some (.int .u64 k) := (hb1.cell (p := ⟨w.heap.size + 1, 1, none⟩) (by first | assumption | (simp; done) | (simp; omega))).trans (by first | assumption | (simp [go_sem]; done) | (simp [go_sem, *]; done))
  have hl1_0 : w.heap.size < w1.heap.size := by have hs := hb1.size; first | (simp at hs; omega) | omega
  have hl1_1 : w.heap.size + 1 < w1.heap.size := by have hs := hb1.size; first | (simp at hs; omega) | omega
  have hw1 : Below w.heap.size w w1 := Below.trans (by repeat' (first | (with_reducible assumption) | (with_reducible exact Below.refl _ _) | (with_reducible refine below_drewN ?_ _) | (with_reducible refine Below.drew ?_) | (with_reducible refine Below.setCell ?_ ?_ _) | (with_reducible refine Below.alloc ?_ ?_ _) | omega | (simp; done) | (simp; omega))) (hb1.mono (by first | assumption | (simp; done) | (simp; omega)))
  have hz1 := hw1.size
  clear hb1
  go_wp2_with fail
  with_reducible refine (AD.out _).mono ?_
  rintro e w2 ⟨rfl, hb2⟩
  have c2_0 : w2.cell? ⟨w.heap.size, 0, none⟩ = some (.int .u64 h) := (hb2.cell (p := ⟨w.heap.size, 0, none⟩) (by first | assumption | (simp; done) | (simp; omega))).trans (by first | assumption | (simp [go_sem]; done) | (simp [go_sem, *]; done))
  have c2_1 : w2.cell? ⟨w.heap.size, 1, none⟩ = some (.int .u64 l) := (hb2.cell (p := ⟨w.heap.size, 1, none⟩) (by first | assumption | (simp; done) | (simp; omega))).trans (by first | assumption | (simp [go_sem]; done) | (simp [go_sem, *]; done))
  have c2_2 : w2.cell? ⟨w.heap.size + 1, 0, none⟩ = some (.int .u64 g) := (hb2.cell (p := ⟨w.heap.size + 1, 0, none⟩) (by first | assumption | (simp; done) | (simp; omega))).trans (by first | assumption | (simp [go_sem]; done) | (simp [go_sem, *]; done))
  have c2_3 : w2.cell? ⟨w.heap.size + 1, 1, none⟩ = some (.int .u64 k) := (hb2.cell (p := ⟨w.heap.size + 1, 1, none⟩) (by first | assumption | (simp; done) | (simp; omega))).trans (by first | assumption | (simp [go_sem]; done) | (simp [go_sem, *]; done))
  have hl2_0 : w.heap.size < w2.heap.size := by have hs := hb2.size; first | (simp at hs; omega) | omega
  have hl2_1 : w.heap.size + 1 < w2.heap.size := by have hs := hb2.size; first | (simp at hs; omega) | omega
  have hw2 : Below w.heap.size w w2 := Below.trans (by repeat' (first | (with_reducible assumption) | (with_reducible exact Below.refl _ _) | (with_reducible refine below_drewN ?_ _) | (with_reducible refine Below.drew ?_) | (with_reducible refine Below.setCell ?_ ?_ _) | (with_reducible refine Below.alloc ?_ ?_ _) | omega | (simp; done) | (simp; omega))) (hb2.mono (by first | assumption | (simp; done) | (simp; omega)))
  have hz2 := hw2.size
  clear hb2
  go_wp2_with fail
  with_reducible refine (RA.out _).mono ?_
  rintro e w3 ⟨rfl, hb3⟩
  have c3_0 : w3.cell? ⟨w.heap.size, 0, none⟩ = some (.int .u64 h) := (hb3.cell (p := ⟨w.heap.size, 0, none⟩) (by first | assumption | (simp; done) | (simp; omega))).trans (by first | assumption | (simp [go_sem]; done) | (simp [go_sem, *]; done))
  have c3_1 : w3.cell? ⟨w.heap.size, 1, none⟩ = some (.int .u64 l) := (hb3.cell (p := ⟨w.heap.size, 1, none⟩) (by first | assumption | (simp; done) | (simp; omega))).trans (by first | assumption | (simp [go_sem]; done) | (simp [go_sem, *]; done))
  have c3_2 : w3.cell? ⟨w.heap.size + 1, 0, none⟩ = some (.int .u64 g) := (hb3.cell (p := ⟨w.heap.size + 1, 0, none⟩) (by first | assumption | (simp; done) | (simp; omega))).trans (by first | assumption | (simp [go_sem]; done) | (simp [go_sem, *]; done))
  have c3_3 : w3.cell? ⟨w.heap.size + 1, 1, none⟩ = some (.int .u64 k) := (hb3.cell (p := ⟨w.heap.size + 1, 1, none⟩) (by first | assumption | (simp; done) | (simp; omega))).trans (by first | assumption | (simp [go_sem]; done) | (simp [go_sem, *]; done))
  have c3_4 : w3.cell? ⟨w2.heap.size, 0, none⟩ = some (.int .u64 sh) := (hb3.cell (p := ⟨w2.heap.size, 0, none⟩) (by first | assumption | (simp; done) | (simp; omega))).trans (by first | assumption | (simp [go_sem]; done) | (simp [go_sem, *]; done))
  have c3_5 : w3.cell? ⟨w2.heap.size, 1, none⟩ = some (.int .u64 sl) := (hb3.cell (p := ⟨w2.heap.size, 1, none⟩) (by first | assumption | (simp; done) | (simp; omega))).trans (by first | assumption | (simp [go_sem]; done) | (simp [go_sem, *]; done))
  have hl3_0 : w.heap.size < w3.heap.size := by have hs := hb3.size; first | (simp at hs; omega) | omega
  have hl3_1 : w.heap.size + 1 < w3.heap.size := by have hs := hb3.size; first | (simp at hs; omega) | omega
  have hl3_2 : w2.heap.size < w3.heap.size := by have hs := hb3.size; first | (simp at hs; omega) | omega
  have hw3 : Below w.heap.size w w3 := Below.trans (by repeat' (first | (with_reducible assumption) | (with_reducible exact Below.refl _ _) | (with_reducible refine below_drewN ?_ _) | (with_reducible refine Below.drew ?_) | (with_reducible refine Below.setCell ?_ ?_ _) | (with_reducible refine Below.alloc ?_ ?_ _) | omega | (simp; done) | (simp; omega))) (hb3.mono (by first | assumption | (simp; done) | (simp; omega)))
  have hz3 := hw3.size
  clear hb3
  go_wp2_with fail
  with_reducible refine (SU.out _).mono ?_
  rintro e w4 ⟨rfl, hb4⟩
  have c4_0 : w4.cell? ⟨w.heap.size, 0, none⟩ = some (.int .u64 h) := (hb4.cell (p := ⟨w.heap.size, 0, none⟩) (by first | assumption | (simp; done) | (simp; omega))).trans (by first | assumption | (simp [go_sem]; done) | (simp [go_sem, *]; done))
  have c4_1 : w4.cell? ⟨w.heap.size, 1, none⟩ = some (.int .u64 l) := (hb4.cell (p := ⟨w.heap.size, 1, none⟩) (by first | assumption | (simp; done) | (simp; omega))).trans (by first | assumption | (simp [go_sem]; done) | (simp [go_sem, *]; done))
  have c4_2 : w4.cell? ⟨w.heap.size + 1, 0, none⟩ = some (.int .u64 g) := (hb4.cell (p := ⟨w.heap.size + 1, 0, none⟩) (by first | assumption | (simp; done) | (simp; omega))).trans (by first | assumption | (simp [go_sem]; done) | (simp [go_sem, *]; done))
  have c4_3 : w4.cell? ⟨w.heap.size + 1, 1, none⟩ = some (.int .u64 k) := (hb4.cell (p := ⟨w.heap.size + 1, 1, none⟩) (by first | assumption | (simp; done) | (simp; omega))).trans (by first | assumption | (simp [go_sem]; done) | (simp [go_sem, *]; done))
  have c4_4 : w4.cell? ⟨w2.heap.size, 0, none⟩ = some (.int .u64 sh) := (hb4.cell (p := ⟨w2.heap.size, 0, none⟩) (by first | assumption | (simp; done) | (simp; omega))).trans (by first | assumption | (simp [go_sem]; done) | (simp [go_sem, *]; done))
  have c4_5 : w4.cell? ⟨w2.heap.size, 1, none⟩ = some (.int .u64 sl) := (hb4.cell (p := ⟨w2.heap.size, 1, none⟩) (by first | assumption | (simp; done) | (simp; omega))).trans (by first | assumption | (simp [go_sem]; done) | (simp [go_sem, *]; done))
  have c4_6 : w4.cell? ⟨w3.heap.size, 0, none⟩ = some (.int .u64 sh) := (hb4.cell (p := ⟨w3.heap.size, 0, none⟩) (by first | assumption | (simp; done) | (simp; omega))).trans (by first | assumption | (simp [go_sem]; done) | (simp [go_sem, *]; done))
  have c4_7 : w4.cell? ⟨w3.heap.size, 1, none⟩ = some (.int .u64 sl) := (hb4.cell (p := ⟨w3.heap.size, 1, none⟩) (by first | assumption | (simp; done) | (simp; omega))).trans (by first | assumption | (simp [go_sem]; done) | (simp [go_sem, *]; done))
  have hl4_0 : w.heap.size < w4.heap.size := by have hs := hb4.size; first | (simp at hs; omega) | omega
  have hl4_1 : w.heap.size + 1 < w4.heap.size := by have hs := hb4.size; first | (simp at hs; omega) | omega
  have hl4_2 : w2.heap.size < w4.heap.size := by have hs := hb4.size; first | (simp at hs; omega) | omega
  have hl4_3 : w3.heap.size < w4.heap.size := by have hs := hb4.size; first | (simp at hs; omega) | omega
  have hw4 : Below w.heap.size w w4 := Below.trans (by repeat' (first | (with_reducible assumption) | (with_reducible exact Below.refl _ _) | (with_reducible refine below_drewN ?_ _) | (with_reducible refine Below.drew ?_) | (with_reducible refine Below.setCell ?_ ?_ _) | (with_reducible refine Below.alloc ?_ ?_ _) | omega | (simp; done) | (simp; omega))) (hb4.mono (by first | assumption | (simp; done) | (simp; omega)))
  have hz4 := hw4.size
  clear hb4
  go_wp2_with fail
  with_reducible refine (RS.out _).mono ?_
  rintro e w5 ⟨rfl, hb5⟩
  have c5_0 : w5.cell? ⟨w.heap.size, 0, none⟩ = some (.int .u64 h) := (hb5.cell (p := ⟨w.heap.size, 0, none⟩) (by first | assumption | (simp; done) | (simp; omega))).trans (by first | assumption | (simp [go_sem]; done) | (simp [go_sem, *]; done))
  have c5_1 : w5.cell? ⟨w.heap.size, 1, none⟩ = some (.int .u64 l) := (hb5.cell (p := ⟨w.heap.size, 1, none⟩) (by first | assumption | (simp; done) | (simp; omega))).trans (by first | assumption | (simp [go_sem]; done) | (simp [go_sem, *]; done))
  have c5_2 : w5.cell? ⟨w.heap.size + 1, 0, none⟩ = some (.int .u64 g) := (hb5.cell (p := ⟨w.heap.size + 1, 0, none⟩) (by first | assumption | (simp; done) | (simp; omega))).trans (by first | assumption | (simp [go_sem]; done) | (simp [go_sem, *]; done))
  have c5_3 : w5.cell? ⟨w.heap.size + 1, 1, none⟩ = some (.int .u64 k) := (hb5.cell (p := ⟨w.heap.size + 1, 1, none⟩) (by first | assumption | (simp; done) | (simp; omega))).trans (by first | assumption | (simp [go_sem]; done) | (simp [go_sem, *]; done))
  have c5_4 : w5.cell? ⟨w2.heap.size, 0, none⟩ = some (.int .u64 sh) := (hb5.cell (p := ⟨w2.heap.size, 0, none⟩) (by first | assumption | (simp; done) | (simp; omega))).trans (by first | assumption | (simp [go_sem]; done) | (simp [go_sem, *]; done))
  have c5_5 : w5.cell? ⟨w2.heap.size, 1, none⟩ = some (.int .u64 sl) := (hb5.cell (p := ⟨w2.heap.size, 1, none⟩) (by first | assumption | (simp; done) | (simp; omega))).trans (by first | assumption | (simp [go_sem]; done) | (simp [go_sem, *]; done))
  have c5_6 : w5.cell? ⟨w3.heap.size, 0, none⟩ = some (.int .u64 sh) := (hb5.cell (p := ⟨w3.heap.size, 0, none⟩) (by first | assumption | (simp; done) | (simp; omega))).trans (by first | assumption | (simp [go_sem]; done) | (simp [go_sem, *]; done))
  have c5_7 : w5.cell? ⟨w3.heap.size, 1, none⟩ = some (.int .u64 sl) := (hb5.cell (p := ⟨w3.heap.size, 1, none⟩) (by first | assumption | (simp; done) | (simp; omega))).trans (by first | assumption | (simp [go_sem]; done) | (simp [go_sem, *]; done))
  have c5_8 : w5.cell? ⟨w4.heap.size, 0, none⟩ = some (.int .u64 dh) := (hb5.cell (p := ⟨w4.heap.size, 0, none⟩) (by first | assumption | (simp; done) | (simp; omega))).trans (by first | assumption | (simp [go_sem]; done) | (simp [go_sem, *]; done))
  have c5_9 : w5.cell? ⟨w4.heap.size, 1, none⟩ = some (.int .u64 dl) := (hb5.cell (p := ⟨w4.heap.size, 1, none⟩) (by first | assumption | (simp; done) | (simp; omega))).trans (by first | assumption | (simp [go_sem]; done) | (simp [go_sem, *]; done))
  have hl5_0 : w.heap.size < w5.heap.size := by have hs := hb5.size; first | (simp at hs; omega) | omega
  have hl5_1 : w.heap.size + 1 < w5.heap.size := by have hs := hb5.size; first | (simp at hs; omega) | omega
  have hl5_2 : w2.heap.size < w5.heap.size := by have hs := hb5.size; first | (simp at hs; omega) | omega
  have hl5_3 : w3.heap.size < w5.heap.size := by have hs := hb5.size; first | (simp at hs; omega) | omega
  have hl5_4 : w4.heap.size < w5.heap.size := by have hs := hb5.size; first | (simp at hs; omega) | omega
  have hw5 : Below w.heap.size w w5 := Below.trans (by repeat' (first | (with_reducible assumption) | (with_reducible exact Below.refl _ _) | (with_reducible refine below_drewN ?_ _) | (with_reducible refine Below.drew ?_) | (with_reducible refine Below.setCell ?_ ?_ _) | (with_reducible refine Below.alloc ?_ ?_ _) | omega | (simp; done) | (simp; omega))) (hb5.mono (by first | assumption | (simp; done) | (simp; omega)))
  have hz5 := hw5.size
  clear hb5
  go_wp2_with fail
  go_region_held3 (fun W => W.cell? ⟨w.heap.size, 0, none⟩ = some (.int .u64 h) ∧ W.cell? ⟨w.heap.size, 1, none⟩ = some (.int .u64 l) ∧ W.cell? ⟨w.heap.size + 1, 0, none⟩ = some (.int .u64 g) ∧ W.cell? ⟨w.heap.size + 1, 1, none⟩ = some (.int .u64 k) ∧ W.cell? ⟨w2.heap.size, 0, none⟩ = some (.int .u64 sh) ∧ W.cell? ⟨w2.heap.size, 1, none⟩ = some (.int .u64 sl) ∧ W.cell? ⟨w3.heap.size, 0, none⟩ = some (.int .u64 sh) ∧ W.cell? ⟨w3.heap.size, 1, none⟩ = some (.int .u64 sl) ∧ W.cell? ⟨w4.heap.size, 0, none⟩ = some (.int .u64 dh) ∧ W.cell? ⟨w4.heap.size, 1, none⟩ = some (.int .u64 dl) ∧ W.cell? ⟨w5.heap.size, 0, none⟩ = some (.int .u64 dh) ∧ W.cell? ⟨w5.heap.size, 1, none⟩ = some (.int .u64 dl) ∧ w.heap.size < W.heap.size ∧ w.heap.size + 1 < W.heap.size ∧ w2.heap.size < W.heap.size ∧ w3.heap.size < W.heap.size ∧ w4.heap.size < W.heap.size ∧ w5.heap.size < W.heap.size ∧ Below w.heap.size w W) (((try dsimp only); (repeat' apply And.intro) <;> (first | assumption | (simp [*, go_sem]; done) | omega | (simp; omega) | (repeat' (first | (with_reducible assumption) | (with_reducible exact Below.refl _ _) | (with_reducible refine below_drewN ?_ _) | (with_reducible refine Below.drew ?_) | (with_reducible refine Below.setCell ?_ ?_ _) | (with_reducible refine Below.alloc ?_ ?_ _) | omega | (simp; done) | (simp; omega)))))) (first | (go_at_call 50; (with_reducible refine (CM.out _).mono ?_); rintro e w6 ⟨rfl, hb6⟩; have c6_0 : w6.cell? ⟨w.heap.size, 0, none⟩ = some (.int .u64 h) := (hb6.cell (p := ⟨w.heap.size, 0, none⟩) (by first | assumption | omega | (simp; done) | (simp; omega))).trans (by first | assumption | (simp [go_sem, *]; done)); have c6_1 : w6.cell? ⟨w.heap.size, 1, none⟩ = some (.int .u64 l) := (hb6.cell (p := ⟨w.heap.size, 1, none⟩) (by first | assumption | omega | (simp; done) | (simp; omega))).trans (by first | assumption | (simp [go_sem, *]; done)); have c6_2 : w6.cell? ⟨w.heap.size + 1, 0, none⟩ = some (.int .u64 g) := (hb6.cell (p := ⟨w.heap.size + 1, 0, none⟩) (by first | assumption | omega | (simp; done) | (simp; omega))).trans (by first | assumption | (simp [go_sem, *]; done)); have c6_3 : w6.cell? ⟨w.heap.size + 1, 1, none⟩ = some (.int .u64 k) := (hb6.cell (p := ⟨w.heap.size + 1, 1, none⟩) (by first | assumption | omega | (simp; done) | (simp; omega))).trans (by first | assumption | (simp [go_sem, *]; done)); have c6_4 : w6.cell? ⟨w2.heap.size, 0, none⟩ = some (.int .u64 sh) := (hb6.cell (p := ⟨w2.heap.size, 0, none⟩) (by first | assumption | omega | (simp; done) | (simp; omega))).trans (by first | assumption | (simp [go_sem, *]; done)); have c6_5 : w6.cell? ⟨w2.heap.size, 1, none⟩ = some (.int .u64 sl) := (hb6.cell (p := ⟨w2.heap.size, 1, none⟩) (by first | assumption | omega | (simp; done) | (simp; omega))).trans (by first | assumption | (simp [go_sem, *]; done)); have c6_6 : w6.cell? ⟨w3.heap.size, 0, none⟩ = some (.int .u64 sh) := (hb6.cell (p := ⟨w3.heap.size, 0, none⟩) (by first | assumption | omega | (simp; done) | (simp; omega))).trans (by first | assumption | (simp [go_sem, *]; done)); have c6_7 : w6.cell? ⟨w3.heap.size, 1, none⟩ = some (.int .u64 sl) := (hb6.cell (p := ⟨w3.heap.size, 1, none⟩) (by first | assumption | omega | (simp; done) | (simp; omega))).trans (by first | assumption | (simp [go_sem, *]; done)); have c6_8 : w6.cell? ⟨w4.heap.size, 0, none⟩ = some (.int .u64 dh) := (hb6.cell (p := ⟨w4.heap.size, 0, none⟩) (by first | assumption | omega | (simp; done) | (simp; omega))).trans (by first | assumption | (simp [go_sem, *]; done)); have c6_9 : w6.cell? ⟨w4.heap.size, 1, none⟩ = some (.int .u64 dl) := (hb6.cell (p := ⟨w4.heap.size, 1, none⟩) (by first | assumption | omega | (simp; done) | (simp; omega))).trans (by first | assumption | (simp [go_sem, *]; done)); have c6_10 : w6.cell? ⟨w5.heap.size, 0, none⟩ = some (.int .u64 dh) := (hb6.cell (p := ⟨w5.heap.size, 0, none⟩) (by first | assumption | omega | (simp; done) | (simp; omega))).trans (by first | assumption | (simp [go_sem, *]; done)); have c6_11 : w6.cell? ⟨w5.heap.size, 1, none⟩ = some (.int .u64 dl) := (hb6.cell (p := ⟨w5.heap.size, 1, none⟩) (by first | assumption | omega | (simp; done) | (simp; omega))).trans (by first | assumption | (simp [go_sem, *]; done)); have hl6_0 : w.heap.size < w6.heap.size := (by have hs := hb6.size; first | (simp at hs; omega) | omega); have hl6_1 : w.heap.size + 1 < w6.heap.size := (by have hs := hb6.size; first | (simp at hs; omega) | omega); have hl6_2 : w2.heap.size < w6.heap.size := (by have hs := hb6.size; first | (simp at hs; omega) | omega); have hl6_3 : w3.heap.size < w6.heap.size := (by have hs := hb6.size; first | (simp at hs; omega) | omega); have hl6_4 : w4.heap.size < w6.heap.size := (by have hs := hb6.size; first | (simp at hs; omega) | omega); have hl6_5 : w5.heap.size < w6.heap.size := (by have hs := hb6.size; first | (simp at hs; omega) | omega); have hw6 : Below w.heap.size w w6 := Below.trans (by first | assumption | (repeat' (first | (with_reducible assumption) | (with_reducible exact Below.refl _ _) | (with_reducible refine below_drewN ?_ _) | (with_reducible refine Below.drew ?_) | (with_reducible refine Below.setCell ?_ ?_ _) | (with_reducible refine Below.alloc ?_ ?_ _) | omega | (simp; done) | (simp; omega)))) (hb6.mono (by first | assumption | omega | (simp; done) | (simp; omega))); clear hb6) | (go_at_call 51; (with_reducible refine (RC.out _).mono ?_); rintro e w7 ⟨rfl, hb7⟩; have c7_0 : w7.cell? ⟨w.heap.size, 0, none⟩ = some (.int .u64 h) := (hb7.cell (p := ⟨w.heap.size, 0, none⟩) (by first | assumption | omega | (simp; done) | (simp; omega))).trans (by first | assumption | (simp [go_sem, *]; done)); have c7_1 : w7.cell? ⟨w.heap.size, 1, none⟩ = some (.int .u64 l) := (hb7.cell (p := ⟨w.heap.size, 1, none⟩) (by first | assumption | omega | (simp; done) | (simp; omega))).trans (by first | assumption | (simp [go_sem, *]; done)); have c7_2 : w7.cell? ⟨w.heap.size + 1, 0, none⟩ = some (.int .u64 g) := (hb7.cell (p := ⟨w.heap.size + 1, 0, none⟩) (by first | assumption | omega | (simp; done) | (simp; omega))).trans (by first | assumption | (simp [go_sem, *]; done)); have c7_3 : w7.cell? ⟨w.heap.size + 1, 1, none⟩ = some (.int .u64 k) := (hb7.cell (p := ⟨w.heap.size + 1, 1, none⟩) (by first | assumption | omega | (simp; done) | (simp; omega))).trans (by first | assumption | (simp [go_sem, *]; done)); have c7_4 : w7.cell? ⟨w2.heap.size, 0, none⟩ = some (.int .u64 sh) := (hb7.cell (p := ⟨w2.heap.size, 0, none⟩) (by first | assumption | omega | (simp; done) | (simp; omega))).trans (by first | assumption | (simp [go_sem, *]; done)); have c7_5 : w7.cell? ⟨w2.heap.size, 1, none⟩ = some (.int .u64 sl) := (hb7.cell (p := ⟨w2.heap.size, 1, none⟩) (by first | assumption | omega | (simp; done) | (simp; omega))).trans (by first | assumption | (simp [go_sem, *]; done)); have c7_6 : w7.cell? ⟨w3.heap.size, 0, none⟩ = some (.int .u64 sh) := (hb7.cell (p := ⟨w3.heap.size, 0, none⟩) (by first | assumption | omega | (simp; done) | (simp; omega))).trans (by first | assumption | (simp [go_sem, *]; done)); have c7_7 : w7.cell? ⟨w3.heap.size, 1, none⟩ = some (.int .u64 sl) := (hb7.cell (p := ⟨w3.heap.size, 1, none⟩) (by first | assumption | omega | (simp; done) | (simp; omega))).trans (by first | assumption | (simp [go_sem, *]; done)); have c7_8 : w7.cell? ⟨w4.heap.size, 0, none⟩ = some (.int .u64 dh) := (hb7.cell (p := ⟨w4.heap.size, 0, none⟩) (by first | assumption | omega | (simp; done) | (simp; omega))).trans (by first | assumption | (simp [go_sem, *]; done)); have c7_9 : w7.cell? ⟨w4.heap.size, 1, none⟩ = some (.int .u64 dl) := (hb7.cell (p := ⟨w4.heap.size, 1, none⟩) (by first | assumption | omega | (simp; done) | (simp; omega))).trans (by first | assumption | (simp [go_sem, *]; done)); have c7_10 : w7.cell? ⟨w5.heap.size, 0, none⟩ = some (.int .u64 dh) := (hb7.cell (p := ⟨w5.heap.size, 0, none⟩) (by first | assumption | omega | (simp; done) | (simp; omega))).trans (by first | assumption | (simp [go_sem, *]; done)); have c7_11 : w7.cell? ⟨w5.heap.size, 1, none⟩ = some (.int .u64 dl) := (hb7.cell (p := ⟨w5.heap.size, 1, none⟩) (by first | assumption | omega | (simp; done) | (simp; omega))).trans (by first | assumption | (simp [go_sem, *]; done)); have hl7_0 : w.heap.size < w7.heap.size := (by have hs := hb7.size; first | (simp at hs; omega) | omega); have hl7_1 : w.heap.size + 1 < w7.heap.size := (by have hs := hb7.size; first | (simp at hs; omega) | omega); have hl7_2 : w2.heap.size < w7.heap.size := (by have hs := hb7.size; first | (simp at hs; omega) | omega); have hl7_3 : w3.heap.size < w7.heap.size := (by have hs := hb7.size; first | (simp at hs; omega) | omega); have hl7_4 : w4.heap.size < w7.heap.size := (by have hs := hb7.size; first | (simp at hs; omega) | omega); have hl7_5 : w5.heap.size < w7.heap.size := (by have hs := hb7.size; first | (simp at hs; omega) | omega); have hw7 : Below w.heap.size w w7 := Below.trans (by first | assumption | (repeat' (first | (with_reducible assumption) | (with_reducible exact Below.refl _ _) | (with_reducible refine below_drewN ?_ _) | (with_reducible refine Below.drew ?_) | (with_reducible refine Below.setCell ?_ ?_ _) | (with_reducible refine Below.alloc ?_ ?_ _) | omega | (simp; done) | (simp; omega)))) (hb7.mono (by first | assumption | omega | (simp; done) | (simp; omega))); clear hb7) | (go_at_call 52; (with_reducible refine (OF.out _).mono ?_); rintro e w8 ⟨rfl, hb8⟩; have c8_0 : w8.cell? ⟨w.heap.size, 0, none⟩ = some (.int .u64 h) := (hb8.cell (p := ⟨w.heap.size, 0, none⟩) (by first | assumption | omega | (simp; done) | (simp; omega))).trans (by first | assumption | (simp [go_sem, *]; done)); have c8_1 : w8.cell? ⟨w.heap.size, 1, none⟩ = some (.int .u64 l) := (hb8.cell (p := ⟨w.heap.size, 1, none⟩) (by first | assumption | omega | (simp; done) | (simp; omega))).trans (by first | assumption | (simp [go_sem, *]; done)); have c8_2 : w8.cell? ⟨w.heap.size + 1, 0, none⟩ = some (.int .u64 g) := (hb8.cell (p := ⟨w.heap.size + 1, 0, none⟩) (by first | assumption | omega | (simp; done) | (simp; omega))).trans (by first | assumption | (simp [go_sem, *]; done)); have c8_3 : w8.cell? ⟨w.heap.size + 1, 1, none⟩ = some (.int .u64 k) := (hb8.cell (p := ⟨w.heap.size + 1, 1, none⟩) (by first | assumption | omega | (simp; done) | (simp; omega))).trans (by first | assumption | (simp [go_sem, *]; done)); have c8_4 : w8.cell? ⟨w2.heap.size, 0, none⟩ = some (.int .u64 sh) := (hb8.cell (p := ⟨w2.heap.size, 0, none⟩) (by first | assumption | omega | (simp; done) | (simp; omega))).trans (by first | assumption | (simp [go_sem, *]; done)); have c8_5 : w8.cell? ⟨w2.heap.size, 1, none⟩ = some (.int .u64 sl) := (hb8.cell (p := ⟨w2.heap.size, 1, none⟩) (by first | assumption | omega | (simp; done) | (simp; omega))).trans (by first | assumption | (simp [go_sem, *]; done)); have c8_6 : w8.cell? ⟨w3.heap.size, 0, none⟩ = some (.int .u64 sh) := (hb8.cell (p := ⟨w3.heap.size, 0, none⟩) (by first | assumption | omega | (simp; done) | (simp; omega))).trans (by first | assumption | (simp [go_sem, *]; done)); have c8_7 : w8.cell? ⟨w3.heap.size, 1, none⟩ = some (.int .u64 sl) := (hb8.cell (p := ⟨w3.heap.size, 1, none⟩) (by first | assumption | omega | (simp; done) | (simp; omega))).trans (by first | assumption | (simp [go_sem, *]; done)); have c8_8 : w8.cell? ⟨w4.heap.size, 0, none⟩ = some (.int .u64 dh) := (hb8.cell (p := ⟨w4.heap.size, 0, none⟩) (by first | assumption | omega | (simp; done) | (simp; omega))).trans (by first | assumption | (simp [go_sem, *]; done)); have c8_9 : w8.cell? ⟨w4.heap.size, 1, none⟩ = some (.int .u64 dl) := (hb8.cell (p := ⟨w4.heap.size, 1, none⟩) (by first | assumption | omega | (simp; done) | (simp; omega))).trans (by first | assumption | (simp [go_sem, *]; done)); have c8_10 : w8.cell? ⟨w5.heap.size, 0, none⟩ = some (.int .u64 dh) := (hb8.cell (p := ⟨w5.heap.size, 0, none⟩) (by first | assumption | omega | (simp; done) | (simp; omega))).trans (by first | assumption | (simp [go_sem, *]; done)); have c8_11 : w8.cell? ⟨w5.heap.size, 1, none⟩ = some (.int .u64 dl) := (hb8.cell (p := ⟨w5.heap.size, 1, none⟩) (by first | assumption | omega | (simp; done) | (simp; omega))).trans (by first | assumption | (simp [go_sem, *]; done)); have hl8_0 : w.heap.size < w8.heap.size := (by have hs := hb8.size; first | (simp at hs; omega) | omega); have hl8_1 : w.heap.size + 1 < w8.heap.size := (by have hs := hb8.size; first | (simp at hs; omega) | omega); have hl8_2 : w2.heap.size < w8.heap.size := (by have hs := hb8.size; first | (simp at hs; omega) | omega); have hl8_3 : w3.heap.size < w8.heap.size := (by have hs := hb8.size; first | (simp at hs; omega) | omega); have hl8_4 : w4.heap.size < w8.heap.size := (by have hs := hb8.size; first | (simp at hs; omega) | omega); have hl8_5 : w5.heap.size < w8.heap.size := (by have hs := hb8.size; first | (simp at hs; omega) | omega); have hw8 : Below w.heap.size w w8 := Below.trans (by first | assumption | (repeat' (first | (with_reducible assumption) | (with_reducible exact Below.refl _ _) | (with_reducible refine below_drewN ?_ _) | (with_reducible refine Below.drew ?_) | (with_reducible refine Below.setCell ?_ ?_ _) | (with_reducible refine Below.alloc ?_ ?_ _) | omega | (simp; done) | (simp; omega)))) (hb8.mono (by first | assumption | omega | (simp; done) | (simp; omega))); clear hb8))
  all_goals
    go_wp2_with fail
    go_ret
    exact ⟨rfl, by repeat' (first | (with_reducible assumption) | (with_reducible exact Below.refl _ _) | (with_reducible refine below_drewN ?_ _) | (with_reducible refine Below.drew ?_) | (with_reducible refine Below.setCell ?_ ?_ _) | (with_reducible refine Below.alloc ?_ ?_ _) | omega | (simp; done) | (simp; omega))⟩

set_option maxHeartbeats 4000000 in
set_option maxRecDepth 100000 in
theorem wideDivs_zero (h l : Int) (DV : ∀ w, Calls Tryd.prog 30 #[.agg #[.int .u64 h, .int .u64 l], .int .u64 0] w fun e w' => e = .returned (.tuple #[.agg #[.int .u64 0, .int .u64 0], .int .u64 0, .bool false]) ∧ Below w.heap.size w w') (w : World) (htab : PowTab w) :
    Calls Tryd.prog 6 #[.agg #[.int .u64 h, .int .u64 l], .int .u64 0] w fun e w' => e = .returned (.bool true) ∧ Below w.heap.size w w' := by
  have HT := Lib.hid htab
  clear htab
  have AW := Lib.hid awake6
  replace DV := Lib.hid DV
  go_enter Tryd.func6, Tryd.ntmps6
  go_wp2_with fail
  with_reducible refine (AW.out _ (tabIs_below HT.out (by repeat' (first | (with_reducible assumption) | (with_reducible exact Below.refl _ _) | (with_reducible refine below_drewN ?_ _) | (with_reducible refine Below.drew ?_) | (with_reducible refine Below.setCell ?_ ?_ _) | (with_reducible refine Below.alloc ?_ ?_ _) | omega | (simp; done) | (simp; omega))))).mono ?_
  rintro e w1 ⟨rfl, hb1⟩
  have c1_0 : w1.cell? ⟨w.heap.size, 0, none⟩ = some (.int .u64 h) := (hb1.cell (p := ⟨w.heap.size, 0, none⟩) (by first | assumption | (simp; done) | (simp; omega))).trans (by first | assumption | (simp [go_sem]; done) | (simp [go_sem, *]; done))
  have c1_1 : w1.cell? ⟨w.heap.size, 1, none⟩ = some (.int .u64 l) := (hb1.cell (p := ⟨w.heap.size, 1, none⟩) (by first | assumption | (simp; done) | (simp; omega))).trans (by first | assumption | (simp [go_sem]; done) | (simp [go_sem, *]; done))
  have hl1_0 : w.heap.size < w1.heap.size := by have hs := hb1.size; first | (simp at hs; omega) | omega
  have hw1 : Below w.heap.size w w1 := Below.trans (by repeat' (first | (with_reducible assumption) | (with_reducible exact Below.refl _ _) | (with_reducible refine below_drewN ?_ _) | (with_reducible refine Below.drew ?_) | (with_reducible refine Below.setCell ?_ ?_ _) | (with_reducible refine Below.alloc ?_ ?_ _) | omega | (simp; done) | (simp; omega))) (hb1.mono (by first | assumption | (simp; done) | (simp; omega)))
  have hz1 := hw1.size
  clear hb1
  go_wp2_with fail
  with_reducible refine (DV.out _).mono ?_
  rintro e w2 ⟨rfl, hb2⟩
  have c2_0 : w2.cell? ⟨w.heap.size, 0, none⟩ = some (.int .u64 h) := (hb2.cell (p := ⟨w.heap.size, 0, none⟩) (by first | assumption | (simp; done) | (simp; omega))).trans (by first | assumption | (simp [go_sem]; done) | (simp [go_sem, *]; done))
  have c2_1 : w2.cell? ⟨w.heap.size, 1, none⟩ = some (.int .u64 l) := (hb2.cell (p := ⟨w.heap.size, 1, none⟩) (by first | assumption | (simp; done) | (simp; omega))).trans (by first | assumption | (simp [go_sem]; done) | (simp [go_sem, *]; done))
  have hl2_0 : w.heap.size < w2.heap.size := by have hs := hb2.size; first | (simp at hs; omega) | omega
  have hw2 : Below w.heap.size w w2 := Below.trans (by repeat' (first | (with_reducible assumption) | (with_reducible exact Below.refl _ _) | (with_reducible refine below_drewN ?_ _) | (with_reducible refine Below.drew ?_) | (with_reducible refine Below.setCell ?_ ?_ _) | (with_reducible refine Below.alloc ?_ ?_ _) | omega | (simp; done) | (simp; omega))) (hb2.mono (by first | assumption | (simp; done) | (simp; omega)))
  have hz2 := hw2.size
  clear hb2
  go_wp2_with fail
  go_ret
  exact ⟨rfl, by repeat' (first | (with_reducible assumption) | (with_reducible exact Below.refl _ _) | (with_reducible refine below_drewN ?_ _) | (with_reducible refine Below.drew ?_) | (with_reducible refine Below.setCell ?_ ?_ _) | (with_reducible refine Below.alloc ?_ ?_ _) | omega | (simp; done) | (simp; omega))⟩

set_option maxHeartbeats 4000000 in
set_option maxRecDepth 100000 in
theorem wideDivs_law (h l b qh ql r ph pl : Int) (hb : ¬ b = 0) (hr : r < b) (DV : ∀ w, Calls Tryd.prog 30 #[.agg #[.int .u64 h, .int .u64 l], .int .u64 b] w fun e w' => e = .returned (.tuple #[.agg #[.int .u64 qh, .int .u64 ql], .int .u64 r, .bool true]) ∧ Below w.heap.size w w')
    (TI : ∀ w, Calls Tryd.prog 28 #[.agg #[.int .u64 qh, .int .u64 ql], .int .u64 b] w fun e w' => e = .returned (.tuple #[.agg #[.int .u64 ph, .int .u64 pl], .int .u64 0]) ∧ Below w.heap.size w w')
    (RA : ∀ w, Calls Tryd.prog 31 #[.agg #[.int .u64 ph, .int .u64 pl], .agg #[.int .u64 0, .int .u64 r]] w fun e w' => e = .returned (.tuple #[.agg #[.int .u64 h, .int .u64 l], .bool false]) ∧ Below w.heap.size w w') (w : World) (htab : PowTab w) :
    Calls Tryd.prog 6 #[.agg #[.int .u64 h, .int .u64 l], .int .u64 b] w fun e w' => e = .returned (.bool true) ∧ Below w.heap.size w w' := by
  have HT := Lib.hid htab
  clear htab
  have AW := Lib.hid awake6
  replace DV := Lib.hid DV
  replace TI := Lib.hid TI
  replace RA := Lib.hid RA
  go_enter Tryd.func6, Tryd.ntmps6
  go_wp2_with fail
  with_reducible refine (AW.out _ (tabIs_below HT.out (by repeat' (first | (with_reducible assumption) | (with_reducible exact Below.refl _ _) | (with_reducible refine below_drewN ?_ _) | (with_reducible refine Below.drew ?_) | (with_reducible refine Below.setCell ?_ ?_ _) | (with_reducible refine Below.alloc ?_ ?_ _) | omega | (simp; done) | (simp; omega))))).mono ?_
  rintro e w1 ⟨rfl, hb1⟩
  have c1_0 : w1.cell? ⟨w.heap.size, 0, none⟩ = some (.int .u64 h) := (hb1.cell (p := ⟨w.heap.size, 0, none⟩) (by first | assumption | (simp; done) | (simp; omega))).trans (by first | assumption | (simp [go_sem]; done) | (simp [go_sem, *]; done))
  have c1_1 : w1.cell? ⟨w.heap.size, 1, none⟩ = some (.int .u64 l) := (hb1.cell (p := ⟨w.heap.size, 1, none⟩) (by first | assumption | (simp; done) | (simp; omega))).trans (by first | assumption | (simp [go_sem]; done) | (simp [go_sem, *]; done))
  have hl1_0 : w.heap.size < w1.heap.size := by have hs := hb1.size; first | (simp at hs; omega) | omega
  have hw1 : Below w.heap.size w w1 := Below.trans (by repeat' (first | (with_reducible assumption) | (with_reducible exact Below.refl _ _) | (with_reducible refine below_drewN ?_ _) | (with_reducible refine Below.drew ?_) | (with_reducible refine Below.setCell ?_ ?_ _) | (with_reducible refine Below.alloc ?_ ?_ _) | omega | (simp; done) | (simp; omega))) (hb1.mono (by first | assumption | (simp; done) | (simp; omega)))
  have hz1 := hw1.size
  clear hb1
  go_wp2_with fail
  with_reducible refine (DV.out _).mono ?_
  rintro e w2 ⟨rfl, hb2⟩
  have c2_0 : w2.cell? ⟨w.heap.size, 0, none⟩ = some (.int .u64 h) := (hb2.cell (p := ⟨w.heap.size, 0, none⟩) (by first | assumption | (simp; done) | (simp; omega))).trans (by first | assumption | (simp [go_sem]; done) | (simp [go_sem, *]; done))
  have c2_1 : w2.cell? ⟨w.heap.size, 1, none⟩ = some (.int .u64 l) := (hb2.cell (p := ⟨w.heap.size, 1, none⟩) (by first | assumption | (simp; done) | (simp; omega))).trans (by first | assumption | (simp [go_sem]; done) | (simp [go_sem, *]; done))
  have hl2_0 : w.heap.size < w2.heap.size := by have hs := hb2.size; first | (simp at hs; omega) | omega
  have hw2 : Below w.heap.size w w2 := Below.trans (by repeat' (first | (with_reducible assumption) | (with_reducible exact Below.refl _ _) | (with_reducible refine below_drewN ?_ _) | (with_reducible refine Below.drew ?_) | (with_reducible refine Below.setCell ?_ ?_ _) | (with_reducible refine Below.alloc ?_ ?_ _) | omega | (simp; done) | (simp; omega))) (hb2.mono (by first | assumption | (simp; done) | (simp; omega)))
  have hz2 := hw2.size
  clear hb2
  go_wp2_with fail
  with_reducible refine (TI.out _).mono ?_
  rintro e w3 ⟨rfl, hb3⟩
  have c3_0 : w3.cell? ⟨w.heap.size, 0, none⟩ = some (.int .u64 h) := (hb3.cell (p := ⟨w.heap.size, 0, none⟩) (by first | assumption | (simp; done) | (simp; omega))).trans (by first | assumption | (simp [go_sem]; done) | (simp [go_sem, *]; done))
  have c3_1 : w3.cell? ⟨w.heap.size, 1, none⟩ = some (.int .u64 l) := (hb3.cell (p := ⟨w.heap.size, 1, none⟩) (by first | assumption | (simp; done) | (simp; omega))).trans (by first | assumption | (simp [go_sem]; done) | (simp [go_sem, *]; done))
  have c3_2 : w3.cell? ⟨w2.heap.size, 0, none⟩ = some (.int .u64 qh) := (hb3.cell (p := ⟨w2.heap.size, 0, none⟩) (by first | assumption | (simp; done) | (simp; omega))).trans (by first | assumption | (simp [go_sem]; done) | (simp [go_sem, *]; done))
  have c3_3 : w3.cell? ⟨w2.heap.size, 1, none⟩ = some (.int .u64 ql) := (hb3.cell (p := ⟨w2.heap.size, 1, none⟩) (by first | assumption | (simp; done) | (simp; omega))).trans (by first | assumption | (simp [go_sem]; done) | (simp [go_sem, *]; done))
  have hl3_0 : w.heap.size < w3.heap.size := by have hs := hb3.size; first | (simp at hs; omega) | omega
  have hl3_1 : w2.heap.size < w3.heap.size := by have hs := hb3.size; first | (simp at hs; omega) | omega
  have hw3 : Below w.heap.size w w3 := Below.trans (by repeat' (first | (with_reducible assumption) | (with_reducible exact Below.refl _ _) | (with_reducible refine below_drewN ?_ _) | (with_reducible refine Below.drew ?_) | (with_reducible refine Below.setCell ?_ ?_ _) | (with_reducible refine Below.alloc ?_ ?_ _) | omega | (simp; done) | (simp; omega))) (hb3.mono (by first | assumption | (simp; done) | (simp; omega)))
  have hz3 := hw3.size
  clear hb3
  go_wp2_with fail
  with_reducible refine (RA.out _).mono ?_
  rintro e w4 ⟨rfl, hb4⟩
  have c4_0 : w4.cell? ⟨w.heap.size, 0, none⟩ = some (.int .u64 h) := (hb4.cell (p := ⟨w.heap.size, 0, none⟩) (by first | assumption | (simp; done) | (simp; omega))).trans (by first | assumption | (simp [go_sem]; done) | (simp [go_sem, *]; done))
  have c4_1 : w4.cell? ⟨w.heap.size, 1, none⟩ = some (.int .u64 l) := (hb4.cell (p := ⟨w.heap.size, 1, none⟩) (by first | assumption | (simp; done) | (simp; omega))).trans (by first | assumption | (simp [go_sem]; done) | (simp [go_sem, *]; done))
  have c4_2 : w4.cell? ⟨w2.heap.size, 0, none⟩ = some (.int .u64 qh) := (hb4.cell (p := ⟨w2.heap.size, 0, none⟩) (by first | assumption | (simp; done) | (simp; omega))).trans (by first | assumption | (simp [go_sem]; done) | (simp [go_sem, *]; done))
  have c4_3 : w4.cell? ⟨w2.heap.size, 1, none⟩ = some (.int .u64 ql) := (hb4.cell (p := ⟨w2.heap.size, 1, none⟩) (by first | assumption | (simp; done) | (simp; omega))).trans (by first | assumption | (simp [go_sem]; done) | (simp [go_sem, *]; done))
  have c4_4 : w4.cell? ⟨w3.heap.size, 0, none⟩ = some (.int .u64 ph) := (hb4.cell (p := ⟨w3.heap.size, 0, none⟩) (by first | assumption | (simp; done) | (simp; omega))).trans (by first | assumption | (simp [go_sem]; done) | (simp [go_sem, *]; done))
  have c4_5 : w4.cell? ⟨w3.heap.size, 1, none⟩ = some (.int .u64 pl) := (hb4.cell (p := ⟨w3.heap.size, 1, none⟩) (by first | assumption | (simp; done) | (simp; omega))).trans (by first | assumption | (simp [go_sem]; done) | (simp [go_sem, *]; done))
  have hl4_0 : w.heap.size < w4.heap.size := by have hs := hb4.size; first | (simp at hs; omega) | omega
  have hl4_1 : w2.heap.size < w4.heap.size := by have hs := hb4.size; first | (simp at hs; omega) | omega
  have hl4_2 : w3.heap.size < w4.heap.size := by have hs := hb4.size; first | (simp at hs; omega) | omega
  have hw4 : Below w.heap.size w w4 := Below.trans (by repeat' (first | (with_reducible assumption) | (with_reducible exact Below.refl _ _) | (with_reducible refine below_drewN ?_ _) | (with_reducible refine Below.drew ?_) | (with_reducible refine Below.setCell ?_ ?_ _) | (with_reducible refine Below.alloc ?_ ?_ _) | omega | (simp; done) | (simp; omega))) (hb4.mono (by first | assumption | (simp; done) | (simp; omega)))
  have hz4 := hw4.size
  clear hb4
  go_wp2_with fail
  go_ret
  exact ⟨rfl, by repeat' (first | (with_reducible assumption) | (with_reducible exact Below.refl _ _) | (with_reducible refine below_drewN ?_ _) | (with_reducible refine Below.drew ?_) | (with_reducible refine Below.setCell ?_ ?_ _) | (with_reducible refine Below.alloc ?_ ?_ _) | omega | (simp; done) | (simp; omega))⟩

set_option maxHeartbeats 4000000 in
set_option maxRecDepth 100000 in
theorem wideTexts_long (h l : Int) (s : ByteArray) (hs : 100 < s.size)  (w : World) (htab : PowTab w) :
    Calls Tryd.prog 7 #[.agg #[.int .u64 h, .int .u64 l], .string s] w fun e w' => e = .returned (.bool true) ∧ Below w.heap.size w w' := by
  have HT := Lib.hid htab
  clear htab
  have AW := Lib.hid awake6

  go_enter Tryd.func7, Tryd.ntmps7
  go_wp2_with fail
  with_reducible refine (AW.out _ (tabIs_below HT.out (by repeat' (first | (with_reducible assumption) | (with_reducible exact Below.refl _ _) | (with_reducible refine below_drewN ?_ _) | (with_reducible refine Below.drew ?_) | (with_reducible refine Below.setCell ?_ ?_ _) | (with_reducible refine Below.alloc ?_ ?_ _) | omega | (simp; done) | (simp; omega))))).mono ?_
  rintro e w1 ⟨rfl, hb1⟩
  have c1_0 : w1.cell? ⟨w.heap.size, 0, none⟩ = some (.int .u64 h) := (hb1.cell (p := ⟨w.heap.size, 0, none⟩) (by first | assumption | (simp; done) | (simp; omega))).trans (by first | assumption | (simp [go_sem]; done) | (simp [go_sem, *]; done))
  have c1_1 : w1.cell? ⟨w.heap.size, 1, none⟩ = some (.int .u64 l) := (hb1.cell (p := ⟨w.heap.size, 1, none⟩) (by first | assumption | (simp; done) | (simp; omega))).trans (by first | assumption | (simp [go_sem]; done) | (simp [go_sem, *]; done))
  have hl1_0 : w.heap.size < w1.heap.size := by have hs := hb1.size; first | (simp at hs; omega) | omega
  have hw1 : Below w.heap.size w w1 := Below.trans (by repeat' (first | (with_reducible assumption) | (with_reducible exact Below.refl _ _) | (with_reducible refine below_drewN ?_ _) | (with_reducible refine Below.drew ?_) | (with_reducible refine Below.setCell ?_ ?_ _) | (with_reducible refine Below.alloc ?_ ?_ _) | omega | (simp; done) | (simp; omega))) (hb1.mono (by first | assumption | (simp; done) | (simp; omega)))
  have hz1 := hw1.size
  clear hb1
  go_wp2_with fail
  go_ret
  exact ⟨rfl, by repeat' (first | (with_reducible assumption) | (with_reducible exact Below.refl _ _) | (with_reducible refine below_drewN ?_ _) | (with_reducible refine Below.drew ?_) | (with_reducible refine Below.setCell ?_ ?_ _) | (with_reducible refine Below.alloc ?_ ?_ _) | omega | (simp; done) | (simp; omega))⟩

set_option maxHeartbeats 4000000 in
set_option maxRecDepth 100000 in
theorem wideTexts_law (h l ph pl : Int) (pb : Bool) (s t : ByteArray) (hs : s.size ≤ 100) (TX : ∀ w, PowTab w → Calls Tryd.prog 32 #[.agg #[.int .u64 h, .int .u64 l]] w fun e w' => e = .returned (.string t) ∧ Below w.heap.size w w')
    (PT : ∀ w, Calls Tryd.prog 33 #[.string t] w fun e w' => e = .returned (.tuple #[.agg #[.int .u64 h, .int .u64 l], .bool true]) ∧ Below w.heap.size w w')
    (PS : ∀ w, Calls Tryd.prog 33 #[.string s] w fun e w' => e = .returned (.tuple #[.agg #[.int .u64 ph, .int .u64 pl], .bool pb]) ∧ Below w.heap.size w w')
    (RP : ∀ w, Calls Tryd.prog 34 #[.string s] w fun e w' => e = .returned (.tuple #[.agg #[.int .u64 ph, .int .u64 pl], .bool pb]) ∧ Below w.heap.size w w')
    (RT : ∀ w, Calls Tryd.prog 35 #[.agg #[.int .u64 h, .int .u64 l]] w fun e w' => e = .returned (.string t) ∧ Below w.heap.size w w') (w : World) (htab : PowTab w) :
    Calls Tryd.prog 7 #[.agg #[.int .u64 h, .int .u64 l], .string s] w fun e w' => e = .returned (.bool true) ∧ Below w.heap.size w w' := by
  have HT := Lib.hid htab
  clear htab
  have AW := Lib.hid awake6
  replace TX := Lib.hid TX
  replace PT := Lib.hid PT
  replace PS := Lib.hid PS
  replace RP := Lib.hid RP
  replace RT := Lib.hid RT
  go_enter Tryd.func7, Tryd.ntmps7
  go_wp2_with fail
  with_reducible refine (AW.out _ (tabIs_below HT.out (by repeat' (first | (with_reducible assumption) | (with_reducible exact Below.refl _ _) | (with_reducible refine below_drewN ?_ _) | (with_reducible refine Below.drew ?_) | (with_reducible refine Below.setCell ?_ ?_ _) | (with_reducible refine Below.alloc ?_ ?_ _) | omega | (simp; done) | (simp; omega))))).mono ?_
  rintro e w1 ⟨rfl, hb1⟩
  have c1_0 : w1.cell? ⟨w.heap.size, 0, none⟩ = some (.int .u64 h) := (hb1.cell (p := ⟨w.heap.size, 0, none⟩) (by first | assumption | (simp; done) | (simp; omega))).trans (by first | assumption | (simp [go_sem]; done) | (simp [go_sem, *]; done))
  have c1_1 : w1.cell? ⟨w.heap.size, 1, none⟩ = some (.int .u64 l) := (hb1.cell (p := ⟨w.heap.size, 1, none⟩) (by first | assumption | (simp; done) | (simp; omega))).trans (by first | assumption | (simp [go_sem]; done) | (simp [go_sem, *]; done))
  have hl1_0 : w.heap.size < w1.heap.size := by have hs := hb1.size; first | (simp at hs; omega) | omega
  have hw1 : Below w.heap.size w w1 := Below.trans (by repeat' (first | (with_reducible assumption) | (with_reducible exact Below.refl _ _) | (with_reducible refine below_drewN ?_ _) | (with_reducible refine Below.drew ?_) | (with_reducible refine Below.setCell ?_ ?_ _) | (with_reducible refine Below.alloc ?_ ?_ _) | omega | (simp; done) | (simp; omega))) (hb1.mono (by first | assumption | (simp; done) | (simp; omega)))
  have hz1 := hw1.size
  clear hb1
  go_wp2_with fail
  with_reducible refine (TX.out _ (tabIs_below HT.out (by repeat' (first | (with_reducible assumption) | (with_reducible exact Below.refl _ _) | (with_reducible refine below_drewN ?_ _) | (with_reducible refine Below.drew ?_) | (with_reducible refine Below.setCell ?_ ?_ _) | (with_reducible refine Below.alloc ?_ ?_ _) | omega | (simp; done) | (simp; omega))))).mono ?_
  rintro e w2 ⟨rfl, hb2⟩
  have c2_0 : w2.cell? ⟨w.heap.size, 0, none⟩ = some (.int .u64 h) := (hb2.cell (p := ⟨w.heap.size, 0, none⟩) (by first | assumption | (simp; done) | (simp; omega))).trans (by first | assumption | (simp [go_sem]; done) | (simp [go_sem, *]; done))
  have c2_1 : w2.cell? ⟨w.heap.size, 1, none⟩ = some (.int .u64 l) := (hb2.cell (p := ⟨w.heap.size, 1, none⟩) (by first | assumption | (simp; done) | (simp; omega))).trans (by first | assumption | (simp [go_sem]; done) | (simp [go_sem, *]; done))
  have hl2_0 : w.heap.size < w2.heap.size := by have hs := hb2.size; first | (simp at hs; omega) | omega
  have hw2 : Below w.heap.size w w2 := Below.trans (by repeat' (first | (with_reducible assumption) | (with_reducible exact Below.refl _ _) | (with_reducible refine below_drewN ?_ _) | (with_reducible refine Below.drew ?_) | (with_reducible refine Below.setCell ?_ ?_ _) | (with_reducible refine Below.alloc ?_ ?_ _) | omega | (simp; done) | (simp; omega))) (hb2.mono (by first | assumption | (simp; done) | (simp; omega)))
  have hz2 := hw2.size
  clear hb2
  go_wp2_with fail
  with_reducible refine (PT.out _).mono ?_
  rintro e w3 ⟨rfl, hb3⟩
  have c3_0 : w3.cell? ⟨w.heap.size, 0, none⟩ = some (.int .u64 h) := (hb3.cell (p := ⟨w.heap.size, 0, none⟩) (by first | assumption | (simp; done) | (simp; omega))).trans (by first | assumption | (simp [go_sem]; done) | (simp [go_sem, *]; done))
  have c3_1 : w3.cell? ⟨w.heap.size, 1, none⟩ = some (.int .u64 l) := (hb3.cell (p := ⟨w.heap.size, 1, none⟩) (by first | assumption | (simp; done) | (simp; omega))).trans (by first | assumption | (simp [go_sem]; done) | (simp [go_sem, *]; done))
  have hl3_0 : w.heap.size < w3.heap.size := by have hs := hb3.size; first | (simp at hs; omega) | omega
  have hw3 : Below w.heap.size w w3 := Below.trans (by repeat' (first | (with_reducible assumption) | (with_reducible exact Below.refl _ _) | (with_reducible refine below_drewN ?_ _) | (with_reducible refine Below.drew ?_) | (with_reducible refine Below.setCell ?_ ?_ _) | (with_reducible refine Below.alloc ?_ ?_ _) | omega | (simp; done) | (simp; omega))) (hb3.mono (by first | assumption | (simp; done) | (simp; omega)))
  have hz3 := hw3.size
  clear hb3
  go_wp2_with fail
  with_reducible refine (PS.out _).mono ?_
  rintro e w4 ⟨rfl, hb4⟩
  have c4_0 : w4.cell? ⟨w.heap.size, 0, none⟩ = some (.int .u64 h) := (hb4.cell (p := ⟨w.heap.size, 0, none⟩) (by first | assumption | (simp; done) | (simp; omega))).trans (by first | assumption | (simp [go_sem]; done) | (simp [go_sem, *]; done))
  have c4_1 : w4.cell? ⟨w.heap.size, 1, none⟩ = some (.int .u64 l) := (hb4.cell (p := ⟨w.heap.size, 1, none⟩) (by first | assumption | (simp; done) | (simp; omega))).trans (by first | assumption | (simp [go_sem]; done) | (simp [go_sem, *]; done))
  have c4_2 : w4.cell? ⟨w3.heap.size, 0, none⟩ = some (.int .u64 h) := (hb4.cell (p := ⟨w3.heap.size, 0, none⟩) (by first | assumption | (simp; done) | (simp; omega))).trans (by first | assumption | (simp [go_sem]; done) | (simp [go_sem, *]; done))
  have c4_3 : w4.cell? ⟨w3.heap.size, 1, none⟩ = some (.int .u64 l) := (hb4.cell (p := ⟨w3.heap.size, 1, none⟩) (by first | assumption | (simp; done) | (simp; omega))).trans (by first | assumption | (simp [go_sem]; done) | (simp [go_sem, *]; done))
  have hl4_0 : w.heap.size < w4.heap.size := by have hs := hb4.size; first | (simp at hs; omega) | omega
  have hl4_1 : w3.heap.size < w4.heap.size := by have hs := hb4.size; first | (simp at hs; omega) | omega
  have hw4 : Below w.heap.size w w4 := Below.trans (by repeat' (first | (with_reducible assumption) | (with_reducible exact Below.refl _ _) | (with_reducible refine below_drewN ?_ _) | (with_reducible refine Below.drew ?_) | (with_reducible refine Below.setCell ?_ ?_ _) | (with_reducible refine Below.alloc ?_ ?_ _) | omega | (simp; done) | (simp; omega))) (hb4.mono (by first | assumption | (simp; done) | (simp; omega)))
  have hz4 := hw4.size
  clear hb4
  go_wp2_with fail
  with_reducible refine (RP.out _).mono ?_
  rintro e w5 ⟨rfl, hb5⟩
  have c5_0 : w5.cell? ⟨w.heap.size, 0, none⟩ = some (.int .u64 h) := (hb5.cell (p := ⟨w.heap.size, 0, none⟩) (by first | assumption | (simp; done) | (simp; omega))).trans (by first | assumption | (simp [go_sem]; done) | (simp [go_sem, *]; done))
  have c5_1 : w5.cell? ⟨w.heap.size, 1, none⟩ = some (.int .u64 l) := (hb5.cell (p := ⟨w.heap.size, 1, none⟩) (by first | assumption | (simp; done) | (simp; omega))).trans (by first | assumption | (simp [go_sem]; done) | (simp [go_sem, *]; done))
  have c5_2 : w5.cell? ⟨w3.heap.size, 0, none⟩ = some (.int .u64 h) := (hb5.cell (p := ⟨w3.heap.size, 0, none⟩) (by first | assumption | (simp; done) | (simp; omega))).trans (by first | assumption | (simp [go_sem]; done) | (simp [go_sem, *]; done))
  have c5_3 : w5.cell? ⟨w3.heap.size, 1, none⟩ = some (.int .u64 l) := (hb5.cell (p := ⟨w3.heap.size, 1, none⟩) (by first | assumption | (simp; done) | (simp; omega))).trans (by first | assumption | (simp [go_sem]; done) | (simp [go_sem, *]; done))
  have c5_4 : w5.cell? ⟨w4.heap.size, 0, none⟩ = some (.int .u64 ph) := (hb5.cell (p := ⟨w4.heap.size, 0, none⟩) (by first | assumption | (simp; done) | (simp; omega))).trans (by first | assumption | (simp [go_sem]; done) | (simp [go_sem, *]; done))
  have c5_5 : w5.cell? ⟨w4.heap.size, 1, none⟩ = some (.int .u64 pl) := (hb5.cell (p := ⟨w4.heap.size, 1, none⟩) (by first | assumption | (simp; done) | (simp; omega))).trans (by first | assumption | (simp [go_sem]; done) | (simp [go_sem, *]; done))
  have hl5_0 : w.heap.size < w5.heap.size := by have hs := hb5.size; first | (simp at hs; omega) | omega
  have hl5_1 : w3.heap.size < w5.heap.size := by have hs := hb5.size; first | (simp at hs; omega) | omega
  have hl5_2 : w4.heap.size < w5.heap.size := by have hs := hb5.size; first | (simp at hs; omega) | omega
  have hw5 : Below w.heap.size w w5 := Below.trans (by repeat' (first | (with_reducible assumption) | (with_reducible exact Below.refl _ _) | (with_reducible refine below_drewN ?_ _) | (with_reducible refine Below.drew ?_) | (with_reducible refine Below.setCell ?_ ?_ _) | (with_reducible refine Below.alloc ?_ ?_ _) | omega | (simp; done) | (simp; omega))) (hb5.mono (by first | assumption | (simp; done) | (simp; omega)))
  have hz5 := hw5.size
  clear hb5
  go_wp2_with fail
  with_reducible refine (RT.out _).mono ?_
  rintro e w6 ⟨rfl, hb6⟩
  have c6_0 : w6.cell? ⟨w.heap.size, 0, none⟩ = some (.int .u64 h) := (hb6.cell (p := ⟨w.heap.size, 0, none⟩) (by first | assumption | (simp; done) | (simp; omega))).trans (by first | assumption | (simp [go_sem]; done) | (simp [go_sem, *]; done))
  have c6_1 : w6.cell? ⟨w.heap.size, 1, none⟩ = some (.int .u64 l) := (hb6.cell (p := ⟨w.heap.size, 1, none⟩) (by first | assumption | (simp; done) | (simp; omega))).trans (by first | assumption | (simp [go_sem]; done) | (simp [go_sem, *]; done))
  have c6_2 : w6.cell? ⟨w3.heap.size, 0, none⟩ = some (.int .u64 h) := (hb6.cell (p := ⟨w3.heap.size, 0, none⟩) (by first | assumption | (simp; done) | (simp; omega))).trans (by first | assumption | (simp [go_sem]; done) | (simp [go_sem, *]; done))
  have c6_3 : w6.cell? ⟨w3.heap.size, 1, none⟩ = some (.int .u64 l) := (hb6.cell (p := ⟨w3.heap.size, 1, none⟩) (by first | assumption | (simp; done) | (simp; omega))).trans (by first | assumption | (simp [go_sem]; done) | (simp [go_sem, *]; done))
  have c6_4 : w6.cell? ⟨w4.heap.size, 0, none⟩ = some (.int .u64 ph) := (hb6.cell (p := ⟨w4.heap.size, 0, none⟩) (by first | assumption | (simp; done) | (simp; omega))).trans (by first | assumption | (simp [go_sem]; done) | (simp [go_sem, *]; done))
  have c6_5 : w6.cell? ⟨w4.heap.size, 1, none⟩ = some (.int .u64 pl) := (hb6.cell (p := ⟨w4.heap.size, 1, none⟩) (by first | assumption | (simp; done) | (simp; omega))).trans (by first | assumption | (simp [go_sem]; done) | (simp [go_sem, *]; done))
  have c6_6 : w6.cell? ⟨w5.heap.size, 0, none⟩ = some (.int .u64 ph) := (hb6.cell (p := ⟨w5.heap.size, 0, none⟩) (by first | assumption | (simp; done) | (simp; omega))).trans (by first | assumption | (simp [go_sem]; done) | (simp [go_sem, *]; done))
  have c6_7 : w6.cell? ⟨w5.heap.size, 1, none⟩ = some (.int .u64 pl) := (hb6.cell (p := ⟨w5.heap.size, 1, none⟩) (by first | assumption | (simp; done) | (simp; omega))).trans (by first | assumption | (simp [go_sem]; done) | (simp [go_sem, *]; done))
  have hl6_0 : w.heap.size < w6.heap.size := by have hs := hb6.size; first | (simp at hs; omega) | omega
  have hl6_1 : w3.heap.size < w6.heap.size := by have hs := hb6.size; first | (simp at hs; omega) | omega
  have hl6_2 : w4.heap.size < w6.heap.size := by have hs := hb6.size; first | (simp at hs; omega) | omega
  have hl6_3 : w5.heap.size < w6.heap.size := by have hs := hb6.size; first | (simp at hs; omega) | omega
  have hw6 : Below w.heap.size w w6 := Below.trans (by repeat' (first | (with_reducible assumption) | (with_reducible exact Below.refl _ _) | (with_reducible refine below_drewN ?_ _) | (with_reducible refine Below.drew ?_) | (with_reducible refine Below.setCell ?_ ?_ _) | (with_reducible refine Below.alloc ?_ ?_ _) | omega | (simp; done) | (simp; omega))) (hb6.mono (by first | assumption | (simp; done) | (simp; omega)))
  have hz6 := hw6.size
  clear hb6
  go_wp2_with fail
  go_ret
  exact ⟨rfl, by repeat' (first | (with_reducible assumption) | (with_reducible exact Below.refl _ _) | (with_reducible refine below_drewN ?_ _) | (with_reducible refine Below.drew ?_) | (with_reducible refine Below.setCell ?_ ?_ _) | (with_reducible refine Below.alloc ?_ ?_ _) | omega | (simp; done) | (simp; omega))⟩

end Go.Proofs.YtgkgacmphafieaaDoor
