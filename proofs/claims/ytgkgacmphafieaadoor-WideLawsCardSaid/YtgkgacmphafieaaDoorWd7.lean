/- The walks of awake (layer 6) and of WideTimes. Condition: the table of powers of 10 is laid. -/
import Derived.Test.YtgkgacmphafieaaDoorWd5
import Derived.Test.YtgkgacmphafieaaDoorWd6
import Derived.Outline
namespace Go.Proofs.YtgkgacmphafieaaDoor
open Go.RowKit
set_option linter.unusedSimpArgs false
set_option linter.unusedVariables false

theorem lit64_par : parseOf [49, 56, 52, 52, 54, 55, 52, 52, 48, 55, 51, 55, 48, 57, 53, 53, 49, 54, 49, 54] = some 18446744073709551616 := by
  have e : decVal [49, 56, 52, 52, 54, 55, 52, 52, 48, 55, 51, 55, 48, 57, 53, 53, 49, 54, 49, 54] = 18446744073709551616 := by decide
  have h := parseOf_canon (l := [49, 56, 52, 52, 54, 55, 52, 52, 48, 55, 51, 55, 48, 57, 53, 53, 49, 54, 49, 54]) (by decide) (by decide) (by decide) (by rw [e]; decide) (Or.inr (by decide))
  rw [e] at h
  exact h
theorem lit64_dec : Lib.decDigits 18446744073709551616 = [49, 56, 52, 52, 54, 55, 52, 52, 48, 55, 51, 55, 48, 57, 53, 53, 49, 54, 49, 54] := by
  have e : decVal [49, 56, 52, 52, 54, 55, 52, 52, 48, 55, 51, 55, 48, 57, 53, 53, 49, 54, 49, 54] = 18446744073709551616 := by decide
  have h := canon 19 [49, 56, 52, 52, 54, 55, 52, 52, 48, 55, 51, 55, 48, 57, 53, 53, 49, 54, 49, 54] (by decide) (by decide) (Or.inr (by decide))
  rw [e] at h
  exact h
theorem ret_pw {a b c d : Int} {p q : Bool} (h1 : a = b) (h2 : c = d) (h3 : p = q) : Ending.returned (.tuple #[.agg #[.int .u64 a, .int .u64 c], .bool p]) = .returned (.tuple #[.agg #[.int .u64 b, .int .u64 d], .bool q]) := by rw [h1, h2, h3]
theorem ret_ag {a b c d : Int} (h1 : a = b) (h2 : c = d) : Ending.returned (.agg #[.int .u64 a, .int .u64 c]) = .returned (.agg #[.int .u64 b, .int .u64 d]) := by rw [h1, h2]
theorem par64 (w : World) : Calls Tryd.prog 33 #[.string { data := #[49, 56, 52, 52, 54, 55, 52, 52, 48, 55, 51, 55, 48, 57, 53, 53, 49, 54, 49, 54] }] w fun e w' => e = .returned (.tuple #[.agg #[.int .u64 1, .int .u64 0], .bool true]) ∧ Below w.heap.size w w' := by
  refine (wideParse_some { data := #[49, 56, 52, 52, 54, 55, 52, 52, 48, 55, 51, 55, 48, 57, 53, 53, 49, 54, 49, 54] } (by decide) (by decide) (Or.inr (by decide)) w).mono ?_
  rintro e w' ⟨rfl, hb⟩
  refine ⟨?_, hb⟩
  have e2 : ({ data := #[49, 56, 52, 52, 54, 55, 52, 52, 48, 55, 51, 55, 48, 57, 53, 53, 49, 54, 49, 54] } : ByteArray).data.toList = [49, 56, 52, 52, 54, 55, 52, 52, 48, 55, 51, 55, 48, 57, 53, 53, 49, 54, 49, 54] := rfl
  rw [e2, lit64_par]
  exact ret_pw (by decide) (by decide) rfl
theorem txt64 (w : World) (ht : PowTab w) : Calls Tryd.prog 32 #[.agg #[.int .u64 1, .int .u64 0]] w fun e w' => e = .returned (.string { data := #[49, 56, 52, 52, 54, 55, 52, 52, 48, 55, 51, 55, 48, 57, 53, 53, 49, 54, 49, 54] }) ∧ Below w.heap.size w w' := by
  refine (wideText_any 1 0 (by decide) (by decide) (by decide) (by decide) w ht).mono ?_
  rintro e w' ⟨rfl, hb⟩
  refine ⟨?_, hb⟩
  have e2 : wN 1 0 = 18446744073709551616 := by decide
  rw [e2, lit64_dec]
theorem mul24 (w : World) : Calls Tryd.prog 29 #[.int .u64 9223372036854775808, .int .u64 4] w fun e w' => e = .returned (.agg #[.int .u64 2, .int .u64 0]) ∧ Below w.heap.size w w' := by
  refine (wideMul_any 9223372036854775808 4 (by decide) (by decide) (by decide) (by decide) w).mono ?_
  rintro e w' ⟨rfl, hb⟩
  exact ⟨ret_ag (by decide) (by decide), hb⟩
set_option maxHeartbeats 1600000 in
set_option maxRecDepth 100000 in
theorem awake6 (w : World) (htab : PowTab w) : Calls Tryd.prog 26 #[] w fun e w' => e = .returned (.bool true) ∧ Below w.heap.size w w' := by
  have HT := Lib.hid htab
  clear htab
  have P := Lib.hid par64
  have X := Lib.hid txt64
  have MU := Lib.hid mul24
  go_enter Tryd.func26, Tryd.ntmps26
  go_wp2_with fail
  with_reducible refine (P.out _).mono ?_
  rintro e w1 ⟨rfl, hb1⟩
  have hw1 : Below w.heap.size w w1 := Below.trans (by repeat' (first | (with_reducible assumption) | (with_reducible exact Below.refl _ _) | (with_reducible refine below_drewN ?_ _) | (with_reducible refine Below.drew ?_) | (with_reducible refine Below.setCell ?_ ?_ _) | (with_reducible refine Below.alloc ?_ ?_ _) | omega | (simp; done) | (simp; omega))) (hb1.mono (by first | assumption | (simp; done) | (simp; omega)))
  have hz1 := hw1.size
  clear hb1
  go_wp2_with fail
  with_reducible refine (MU.out _).mono ?_
  rintro e w2 ⟨rfl, hb2⟩
  have c2_0 : w2.cell? ⟨w1.heap.size, 0, none⟩ = some (.int .u64 1) := (hb2.cell (p := ⟨w1.heap.size, 0, none⟩) (by first | assumption | (simp; done) | (simp; omega))).trans (by first | assumption | (simp [go_sem]; done) | (simp [go_sem, *]; done))
  have c2_1 : w2.cell? ⟨w1.heap.size, 1, none⟩ = some (.int .u64 0) := (hb2.cell (p := ⟨w1.heap.size, 1, none⟩) (by first | assumption | (simp; done) | (simp; omega))).trans (by first | assumption | (simp [go_sem]; done) | (simp [go_sem, *]; done))
  have hl2_0 : w1.heap.size < w2.heap.size := by have hs := hb2.size; first | (simp at hs; omega) | omega
  have hw2 : Below w.heap.size w w2 := Below.trans (by repeat' (first | (with_reducible assumption) | (with_reducible exact Below.refl _ _) | (with_reducible refine below_drewN ?_ _) | (with_reducible refine Below.drew ?_) | (with_reducible refine Below.setCell ?_ ?_ _) | (with_reducible refine Below.alloc ?_ ?_ _) | omega | (simp; done) | (simp; omega))) (hb2.mono (by first | assumption | (simp; done) | (simp; omega)))
  have hz2 := hw2.size
  clear hb2
  go_wp2_with fail
  with_reducible refine (X.out _ (tabIs_below HT.out hw2)).mono ?_
  rintro e w3 ⟨rfl, hb3⟩
  have hw3 : Below w.heap.size w w3 := Below.trans (by repeat' (first | (with_reducible assumption) | (with_reducible exact Below.refl _ _) | (with_reducible refine below_drewN ?_ _) | (with_reducible refine Below.drew ?_) | (with_reducible refine Below.setCell ?_ ?_ _) | (with_reducible refine Below.alloc ?_ ?_ _) | omega | (simp; done) | (simp; omega))) (hb3.mono (by first | assumption | (simp; done) | (simp; omega)))
  have hz3 := hw3.size
  clear hb3
  go_wp2_with fail
  go_ret
  exact ⟨rfl, by repeat' (first | (with_reducible assumption) | (with_reducible exact Below.refl _ _) | (with_reducible refine below_drewN ?_ _) | (with_reducible refine Below.drew ?_) | (with_reducible refine Below.setCell ?_ ?_ _) | (with_reducible refine Below.alloc ?_ ?_ _) | omega | (simp; done) | (simp; omega))⟩

set_option maxHeartbeats 3200000 in
set_option maxRecDepth 100000 in
theorem wideTimes_law (h l b ph pl po mh ml mo : Int) (T1 : ∀ w, Calls Tryd.prog 27 #[.agg #[.int .u64 h, .int .u64 l], .int .u64 b] w fun e w' => e = .returned (.tuple #[.agg #[.int .u64 ph, .int .u64 pl], .int .u64 po]) ∧ Below w.heap.size w w')
    (T2 : ∀ w, Calls Tryd.prog 28 #[.agg #[.int .u64 h, .int .u64 l], .int .u64 b] w fun e w' => e = .returned (.tuple #[.agg #[.int .u64 ph, .int .u64 pl], .int .u64 po]) ∧ Below w.heap.size w w')
    (T3 : ∀ w, Calls Tryd.prog 28 #[.agg #[.int .u64 0, .int .u64 h], .int .u64 b] w fun e w' => e = .returned (.tuple #[.agg #[.int .u64 mh, .int .u64 ml], .int .u64 mo]) ∧ Below w.heap.size w w')
    (MU : ∀ w, Calls Tryd.prog 29 #[.int .u64 h, .int .u64 b] w fun e w' => e = .returned (.agg #[.int .u64 mh, .int .u64 ml]) ∧ Below w.heap.size w w') (w : World) (htab : PowTab w) :
    Calls Tryd.prog 5 #[.agg #[.int .u64 h, .int .u64 l], .int .u64 b] w fun e w' => e = .returned (.bool true) ∧ Below w.heap.size w w' := by
  have HT := Lib.hid htab
  clear htab
  have AW := Lib.hid awake6
  replace T1 := Lib.hid T1
  replace T2 := Lib.hid T2
  replace T3 := Lib.hid T3
  replace MU := Lib.hid MU
  go_enter Tryd.func5, Tryd.ntmps5
  go_wp2_with fail
  with_reducible refine (AW.out _ (tabIs_below HT.out (by repeat' (first | (with_reducible assumption) | (with_reducible exact Below.refl _ _) | (with_reducible refine below_drewN ?_ _) | (with_reducible refine Below.drew ?_) | (with_reducible refine Below.setCell ?_ ?_ _) | (with_reducible refine Below.alloc ?_ ?_ _) | omega | (simp; done) | (simp; omega))))).mono ?_
  rintro e w1 ⟨rfl, hb1⟩
  have c1_0 : w1.cell? ⟨w.heap.size, 0, none⟩ = some (.int .u64 h) := (hb1.cell (p := ⟨w.heap.size, 0, none⟩) (by first | assumption | (simp; done) | (simp; omega))).trans (by first | assumption | (simp [go_sem]; done) | (simp [go_sem, *]; done))
  have c1_1 : w1.cell? ⟨w.heap.size, 1, none⟩ = some (.int .u64 l) := (hb1.cell (p := ⟨w.heap.size, 1, none⟩) (by first | assumption | (simp; done) | (simp; omega))).trans (by first | assumption | (simp [go_sem]; done) | (simp [go_sem, *]; done))
  have hl1_0 : w.heap.size < w1.heap.size := by have hs := hb1.size; first | (simp at hs; omega) | omega
  have hw1 : Below w.heap.size w w1 := Below.trans (by repeat' (first | (with_reducible assumption) | (with_reducible exact Below.refl _ _) | (with_reducible refine below_drewN ?_ _) | (with_reducible refine Below.drew ?_) | (with_reducible refine Below.setCell ?_ ?_ _) | (with_reducible refine Below.alloc ?_ ?_ _) | omega | (simp; done) | (simp; omega))) (hb1.mono (by first | assumption | (simp; done) | (simp; omega)))
  have hz1 := hw1.size
  clear hb1
  go_wp2_with fail
  with_reducible refine (T1.out _).mono ?_
  rintro e w2 ⟨rfl, hb2⟩
  have c2_0 : w2.cell? ⟨w.heap.size, 0, none⟩ = some (.int .u64 h) := (hb2.cell (p := ⟨w.heap.size, 0, none⟩) (by first | assumption | (simp; done) | (simp; omega))).trans (by first | assumption | (simp [go_sem]; done) | (simp [go_sem, *]; done))
  have c2_1 : w2.cell? ⟨w.heap.size, 1, none⟩ = some (.int .u64 l) := (hb2.cell (p := ⟨w.heap.size, 1, none⟩) (by first | assumption | (simp; done) | (simp; omega))).trans (by first | assumption | (simp [go_sem]; done) | (simp [go_sem, *]; done))
  have hl2_0 : w.heap.size < w2.heap.size := by have hs := hb2.size; first | (simp at hs; omega) | omega
  have hw2 : Below w.heap.size w w2 := Below.trans (by repeat' (first | (with_reducible assumption) | (with_reducible exact Below.refl _ _) | (with_reducible refine below_drewN ?_ _) | (with_reducible refine Below.drew ?_) | (with_reducible refine Below.setCell ?_ ?_ _) | (with_reducible refine Below.alloc ?_ ?_ _) | omega | (simp; done) | (simp; omega))) (hb2.mono (by first | assumption | (simp; done) | (simp; omega)))
  have hz2 := hw2.size
  clear hb2
  go_wp2_with fail
  with_reducible refine (T2.out _).mono ?_
  rintro e w3 ⟨rfl, hb3⟩
  have c3_0 : w3.cell? ⟨w.heap.size, 0, none⟩ = some (.int .u64 h) := (hb3.cell (p := ⟨w.heap.size, 0, none⟩) (by first | assumption | (simp; done) | (simp; omega))).trans (by first | assumption | (simp [go_sem]; done) | (simp [go_sem, *]; done))
  have c3_1 : w3.cell? ⟨w.heap.size, 1, none⟩ = some (.int .u64 l) := (hb3.cell (p := ⟨w.heap.size, 1, none⟩) (by first | assumption | (simp; done) | (simp; omega))).trans (by first | assumption | (simp [go_sem]; done) | (simp [go_sem, *]; done))
  have c3_2 : w3.cell? ⟨w2.heap.size, 0, none⟩ = some (.int .u64 ph) := (hb3.cell (p := ⟨w2.heap.size, 0, none⟩) (by first | assumption | (simp; done) | (simp; omega))).trans (by first | assumption | (simp [go_sem]; done) | (simp [go_sem, *]; done))
  have c3_3 : w3.cell? ⟨w2.heap.size, 1, none⟩ = some (.int .u64 pl) := (hb3.cell (p := ⟨w2.heap.size, 1, none⟩) (by first | assumption | (simp; done) | (simp; omega))).trans (by first | assumption | (simp [go_sem]; done) | (simp [go_sem, *]; done))
  have hl3_0 : w.heap.size < w3.heap.size := by have hs := hb3.size; first | (simp at hs; omega) | omega
  have hl3_1 : w2.heap.size < w3.heap.size := by have hs := hb3.size; first | (simp at hs; omega) | omega
  have hw3 : Below w.heap.size w w3 := Below.trans (by repeat' (first | (with_reducible assumption) | (with_reducible exact Below.refl _ _) | (with_reducible refine below_drewN ?_ _) | (with_reducible refine Below.drew ?_) | (with_reducible refine Below.setCell ?_ ?_ _) | (with_reducible refine Below.alloc ?_ ?_ _) | omega | (simp; done) | (simp; omega))) (hb3.mono (by first | assumption | (simp; done) | (simp; omega)))
  have hz3 := hw3.size
  clear hb3
  go_wp2_with fail
  with_reducible refine (T3.out _).mono ?_
  rintro e w4 ⟨rfl, hb4⟩
  have c4_0 : w4.cell? ⟨w.heap.size, 0, none⟩ = some (.int .u64 h) := (hb4.cell (p := ⟨w.heap.size, 0, none⟩) (by first | assumption | (simp; done) | (simp; omega))).trans (by first | assumption | (simp [go_sem]; done) | (simp [go_sem, *]; done))
  have c4_1 : w4.cell? ⟨w.heap.size, 1, none⟩ = some (.int .u64 l) := (hb4.cell (p := ⟨w.heap.size, 1, none⟩) (by first | assumption | (simp; done) | (simp; omega))).trans (by first | assumption | (simp [go_sem]; done) | (simp [go_sem, *]; done))
  have c4_2 : w4.cell? ⟨w2.heap.size, 0, none⟩ = some (.int .u64 ph) := (hb4.cell (p := ⟨w2.heap.size, 0, none⟩) (by first | assumption | (simp; done) | (simp; omega))).trans (by first | assumption | (simp [go_sem]; done) | (simp [go_sem, *]; done))
  have c4_3 : w4.cell? ⟨w2.heap.size, 1, none⟩ = some (.int .u64 pl) := (hb4.cell (p := ⟨w2.heap.size, 1, none⟩) (by first | assumption | (simp; done) | (simp; omega))).trans (by first | assumption | (simp [go_sem]; done) | (simp [go_sem, *]; done))
  have c4_4 : w4.cell? ⟨w3.heap.size, 0, none⟩ = some (.int .u64 ph) := (hb4.cell (p := ⟨w3.heap.size, 0, none⟩) (by first | assumption | (simp; done) | (simp; omega))).trans (by first | assumption | (simp [go_sem]; done) | (simp [go_sem, *]; done))
  have c4_5 : w4.cell? ⟨w3.heap.size, 1, none⟩ = some (.int .u64 pl) := (hb4.cell (p := ⟨w3.heap.size, 1, none⟩) (by first | assumption | (simp; done) | (simp; omega))).trans (by first | assumption | (simp [go_sem]; done) | (simp [go_sem, *]; done))
  have hl4_0 : w.heap.size < w4.heap.size := by have hs := hb4.size; first | (simp at hs; omega) | omega
  have hl4_1 : w2.heap.size < w4.heap.size := by have hs := hb4.size; first | (simp at hs; omega) | omega
  have hl4_2 : w3.heap.size < w4.heap.size := by have hs := hb4.size; first | (simp at hs; omega) | omega
  have hw4 : Below w.heap.size w w4 := Below.trans (by repeat' (first | (with_reducible assumption) | (with_reducible exact Below.refl _ _) | (with_reducible refine below_drewN ?_ _) | (with_reducible refine Below.drew ?_) | (with_reducible refine Below.setCell ?_ ?_ _) | (with_reducible refine Below.alloc ?_ ?_ _) | omega | (simp; done) | (simp; omega))) (hb4.mono (by first | assumption | (simp; done) | (simp; omega)))
  have hz4 := hw4.size
  clear hb4
  go_wp2_with fail
  go_region_held3 (fun W => W.cell? ⟨w.heap.size, 0, none⟩ = some (.int .u64 h) ∧ W.cell? ⟨w.heap.size, 1, none⟩ = some (.int .u64 l) ∧ W.cell? ⟨w2.heap.size, 0, none⟩ = some (.int .u64 ph) ∧ W.cell? ⟨w2.heap.size, 1, none⟩ = some (.int .u64 pl) ∧ W.cell? ⟨w3.heap.size, 0, none⟩ = some (.int .u64 ph) ∧ W.cell? ⟨w3.heap.size, 1, none⟩ = some (.int .u64 pl) ∧ W.cell? ⟨w4.heap.size, 0, none⟩ = some (.int .u64 mh) ∧ W.cell? ⟨w4.heap.size, 1, none⟩ = some (.int .u64 ml) ∧ w.heap.size < W.heap.size ∧ w2.heap.size < W.heap.size ∧ w3.heap.size < W.heap.size ∧ w4.heap.size < W.heap.size ∧ Below w.heap.size w W) (((try dsimp only); (repeat' apply And.intro) <;> (first | assumption | (simp [*, go_sem]; done) | omega | (simp; omega) | (repeat' (first | (with_reducible assumption) | (with_reducible exact Below.refl _ _) | (with_reducible refine below_drewN ?_ _) | (with_reducible refine Below.drew ?_) | (with_reducible refine Below.setCell ?_ ?_ _) | (with_reducible refine Below.alloc ?_ ?_ _) | omega | (simp; done) | (simp; omega)))))) (first | (go_at_call 29; (with_reducible refine (MU.out _).mono ?_); rintro e w5 ⟨rfl, hb5⟩; have c5_0 : w5.cell? ⟨w.heap.size, 0, none⟩ = some (.int .u64 h) := (hb5.cell (p := ⟨w.heap.size, 0, none⟩) (by first | assumption | omega | (simp; done) | (simp; omega))).trans (by first | assumption | (simp [go_sem, *]; done)); have c5_1 : w5.cell? ⟨w.heap.size, 1, none⟩ = some (.int .u64 l) := (hb5.cell (p := ⟨w.heap.size, 1, none⟩) (by first | assumption | omega | (simp; done) | (simp; omega))).trans (by first | assumption | (simp [go_sem, *]; done)); have c5_2 : w5.cell? ⟨w2.heap.size, 0, none⟩ = some (.int .u64 ph) := (hb5.cell (p := ⟨w2.heap.size, 0, none⟩) (by first | assumption | omega | (simp; done) | (simp; omega))).trans (by first | assumption | (simp [go_sem, *]; done)); have c5_3 : w5.cell? ⟨w2.heap.size, 1, none⟩ = some (.int .u64 pl) := (hb5.cell (p := ⟨w2.heap.size, 1, none⟩) (by first | assumption | omega | (simp; done) | (simp; omega))).trans (by first | assumption | (simp [go_sem, *]; done)); have c5_4 : w5.cell? ⟨w3.heap.size, 0, none⟩ = some (.int .u64 ph) := (hb5.cell (p := ⟨w3.heap.size, 0, none⟩) (by first | assumption | omega | (simp; done) | (simp; omega))).trans (by first | assumption | (simp [go_sem, *]; done)); have c5_5 : w5.cell? ⟨w3.heap.size, 1, none⟩ = some (.int .u64 pl) := (hb5.cell (p := ⟨w3.heap.size, 1, none⟩) (by first | assumption | omega | (simp; done) | (simp; omega))).trans (by first | assumption | (simp [go_sem, *]; done)); have c5_6 : w5.cell? ⟨w4.heap.size, 0, none⟩ = some (.int .u64 mh) := (hb5.cell (p := ⟨w4.heap.size, 0, none⟩) (by first | assumption | omega | (simp; done) | (simp; omega))).trans (by first | assumption | (simp [go_sem, *]; done)); have c5_7 : w5.cell? ⟨w4.heap.size, 1, none⟩ = some (.int .u64 ml) := (hb5.cell (p := ⟨w4.heap.size, 1, none⟩) (by first | assumption | omega | (simp; done) | (simp; omega))).trans (by first | assumption | (simp [go_sem, *]; done)); have hl5_0 : w.heap.size < w5.heap.size := (by have hs := hb5.size; first | (simp at hs; omega) | omega); have hl5_1 : w2.heap.size < w5.heap.size := (by have hs := hb5.size; first | (simp at hs; omega) | omega); have hl5_2 : w3.heap.size < w5.heap.size := (by have hs := hb5.size; first | (simp at hs; omega) | omega); have hl5_3 : w4.heap.size < w5.heap.size := (by have hs := hb5.size; first | (simp at hs; omega) | omega); have hw5 : Below w.heap.size w w5 := Below.trans (by first | assumption | (repeat' (first | (with_reducible assumption) | (with_reducible exact Below.refl _ _) | (with_reducible refine below_drewN ?_ _) | (with_reducible refine Below.drew ?_) | (with_reducible refine Below.setCell ?_ ?_ _) | (with_reducible refine Below.alloc ?_ ?_ _) | omega | (simp; done) | (simp; omega)))) (hb5.mono (by first | assumption | omega | (simp; done) | (simp; omega))); clear hb5))
  all_goals
    go_wp2_with fail
    go_ret
    exact ⟨rfl, by repeat' (first | (with_reducible assumption) | (with_reducible exact Below.refl _ _) | (with_reducible refine below_drewN ?_ _) | (with_reducible refine Below.drew ?_) | (with_reducible refine Below.setCell ?_ ?_ _) | (with_reducible refine Below.alloc ?_ ?_ _) | omega | (simp; done) | (simp; omega))⟩
end Go.Proofs.YtgkgacmphafieaaDoor
