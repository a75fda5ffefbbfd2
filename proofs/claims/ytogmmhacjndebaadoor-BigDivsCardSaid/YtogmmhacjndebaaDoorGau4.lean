/- Contracts of package gauss: Times, Norm, Turn. Conditions: as each says. -/
import Derived.Test.YtogmmhacjndebaaDoorGau3
namespace Go.Proofs.YtogmmhacjndebaaDoor
open Go.RowKit
set_option linter.unusedSimpArgs false
set_option linter.unusedVariables false

def RetC (p q : Int) (w : World) (e : Ending) (w' : World) : Prop := ∃ re im, e = .returned (.complex .f64 re im) ∧ Fl.Rep re p ∧ Fl.Rep im q ∧ Below w.heap.size w w'
theorem sq25 {a b : Int} (a0 : -33554432 ≤ a) (a1 : a ≤ 33554432) (b0 : -33554432 ≤ b) (b1 : b ≤ 33554432) : -1125899906842624 ≤ a * b ∧ a * b ≤ 1125899906842624 := by
  have h := Fl.mul_bound (A := 33554432) (B := 33554432) (a := a) (b := b) (by omega) (by omega)
  omega

set_option maxRecDepth 100000 in
set_option maxHeartbeats 400000 in
theorem times_yes {x y u v : Nat} {a b c d : Int} (hx : Fl.Rep x a) (hy : Fl.Rep y b) (hu : Fl.Rep u c) (hv : Fl.Rep v d)
    (a0 : -33554432 ≤ a) (a1 : a ≤ 33554432) (b0 : -33554432 ≤ b) (b1 : b ≤ 33554432) (c0 : -33554432 ≤ c) (c1 : c ≤ 33554432) (d0 : -33554432 ≤ d) (d1 : d ≤ 33554432) (w : World) :
    Calls Tryd.prog 32 #[.complex .f64 x y, .complex .f64 u v] w (RetC (a * c - b * d) (a * d + b * c) w) := by
  have s1 := sq25 a0 a1 c0 c1
  have s2 := sq25 b0 b1 d0 d1
  have s3 := sq25 a0 a1 d0 d1
  have s4 := sq25 b0 b1 c0 c1
  obtain ⟨re, im, hm, hre, him⟩ := Fl.cmul_rep hx hy hu hv (by omega) (by omega) (by omega) (by omega) (by omega) (by omega)
  have T := fun w => small_any x y w
  have U := fun w => small_any u v w
  rw [W25_yes hx a0 a1, W25_yes hy b0 b1] at T
  rw [W25_yes hu c0 c1, W25_yes hv d0 d1] at U
  have TH := Lib.hid T
  have UH := Lib.hid U
  have r1 := fun w => run_complex_mul (P := Tryd.prog) w 57 x y u v re im hm
  clear T U hm hx hy hu hv s1 s2 s3 s4
  go_enter Tryd.func32, Tryd.ntmps32
  go_wp2_with fail
  with_reducible refine (TH.out _).mono ?_
  rintro e w1 ⟨rfl, hb⟩
  have hz := hb.size
  go_wp2_with fail
  with_reducible refine (UH.out _).mono ?_
  rintro e w2 ⟨rfl, hb2⟩
  have hb3 := hb.trans (hb2.mono hz)
  clear hb2
  go_wp2_with fail
  go_ret
  exact ⟨re, im, rfl, hre, him, hb3⟩

theorem run_store_complex {P : Program} (w : World) (a : Addr) (k : FloatKind) (x y : Nat) (m : Mode) : (store a (.complex k x y) m).run P w = stored P w a (.complex k x y) m := run_store P w a _ m rfl

def qre (k a b : Int) : Int := if k % 4 = 0 then a else if k % 4 = 1 then -b else if k % 4 = 2 then -a else b
def qim (k a b : Int) : Int := if k % 4 = 0 then b else if k % 4 = 1 then a else if k % 4 = 2 then -b else -a
theorem and3 (k : Int) : bits .and .i64 k 3 = k % 4 := by
  have h3 : (BitVec.ofInt 64 3).toNat = 2 ^ 2 - 1 := by decide
  have key : (BitVec.ofInt 64 k &&& BitVec.ofInt 64 3).toNat = (k % ((2 ^ 64 : Nat) : Int)).toNat % 2 ^ 2 := by
    rw [BitVec.toNat_and, BitVec.toNat_ofInt, h3, Nat.and_two_pow_sub_one_eq_mod]
  show IntKind.i64.wrap ((BitVec.ofInt 64 k &&& BitVec.ofInt 64 3).toNat : Nat) = k % 4
  rw [key, IntKind.wrap_i64]
  omega

attribute [local go_sem] run_store_complex
set_option maxRecDepth 100000 in
set_option maxHeartbeats 800000 in
theorem turn_yes {x y : Nat} {a b : Int} (hx : Fl.Rep x a) (hy : Fl.Rep y b) (a0 : -4503599627370496 ≤ a) (a1 : a ≤ 4503599627370496) (b0 : -4503599627370496 ≤ b) (b1 : b ≤ 4503599627370496)
    (k : Int) (w : World) :
    Calls Tryd.prog 56 #[.complex .f64 x y, .int .i64 k] w (RetC (qre k a b) (qim k a b) w) := by
  have T := fun w => whole52 x y w
  rw [W52_yes hx a0 a1, W52_yes hy b0 b1] at T
  have TH := Lib.hid T
  clear T
  have hb := and3 k
  rcases (show k % 4 = 0 ∨ k % 4 = 1 ∨ k % 4 = 2 ∨ k % 4 = 3 from by omega) with hk | hk | hk | hk
  · have hmul : ∃ re im, cMulBits x y 4607182418800017408 0 = some (re, im) ∧ Fl.Rep re (qre k a b) ∧ Fl.Rep im (qim k a b) := by
      obtain ⟨re, im, h1, h2, h3⟩ := Fl.cmul_rep hx hy Fl.rep1 Fl.rep0 (by omega) (by omega) (by omega) (by omega) (by omega) (by omega)
      have e1 : qre k a b = a := by unfold qre; rw [hk]; simp
      have e2 : qim k a b = b := by unfold qim; rw [hk]; simp
      refine ⟨re, im, h1, ?_, ?_⟩
      · rw [e1, show a = a * 1 - b * 0 from by omega]; exact h2
      · rw [e2, show b = a * 0 + b * 1 from by omega]; exact h3
    obtain ⟨re, im, hm, hre, him⟩ := hmul
    have r1 := fun w => run_complex_mul (P := Tryd.prog) w 57 x y 4607182418800017408 0 re im hm
    rw [hk] at hb
    clear hm hx hy hk
    go_enter Tryd.func56, Tryd.ntmps56
    go_wp2_with fail
    with_reducible refine (TH.out _).mono ?_
    rintro e w1 ⟨rfl, hb1⟩
    have hz1 := hb1.size
    go_wp2_with fail
    go_ret
    exact ⟨re, im, rfl, hre, him, by repeat' (first | (with_reducible assumption) | (with_reducible exact Below.refl _ _) | (with_reducible refine below_drewN ?_ _) | (with_reducible refine Below.drew ?_) | (with_reducible refine Below.setCell ?_ ?_ _) | (with_reducible refine Below.alloc ?_ ?_ _) | omega | (simp; done) | (simp; omega))⟩
  · have hmul : ∃ re im, cMulBits x y 0 4607182418800017408 = some (re, im) ∧ Fl.Rep re (qre k a b) ∧ Fl.Rep im (qim k a b) := by
      obtain ⟨re, im, h1, h2, h3⟩ := Fl.cmul_rep hx hy Fl.rep0 Fl.rep1 (by omega) (by omega) (by omega) (by omega) (by omega) (by omega)
      have e1 : qre k a b = -b := by unfold qre; rw [hk]; simp
      have e2 : qim k a b = a := by unfold qim; rw [hk]; simp
      refine ⟨re, im, h1, ?_, ?_⟩
      · rw [e1, show -b = a * 0 - b * 1 from by omega]; exact h2
      · rw [e2, show a = a * 1 + b * 0 from by omega]; exact h3
    obtain ⟨re, im, hm, hre, him⟩ := hmul
    have r1 := fun w => run_complex_mul (P := Tryd.prog) w 57 x y 0 4607182418800017408 re im hm
    rw [hk] at hb
    clear hm hx hy hk
    go_enter Tryd.func56, Tryd.ntmps56
    go_wp2_with fail
    with_reducible refine (TH.out _).mono ?_
    rintro e w1 ⟨rfl, hb1⟩
    have hz1 := hb1.size
    go_wp2_with fail
    go_ret
    exact ⟨re, im, rfl, hre, him, by repeat' (first | (with_reducible assumption) | (with_reducible exact Below.refl _ _) | (with_reducible refine below_drewN ?_ _) | (with_reducible refine Below.drew ?_) | (with_reducible refine Below.setCell ?_ ?_ _) | (with_reducible refine Below.alloc ?_ ?_ _) | omega | (simp; done) | (simp; omega))⟩
  · have hmul : ∃ re im, cMulBits x y 13830554455654793216 0 = some (re, im) ∧ Fl.Rep re (qre k a b) ∧ Fl.Rep im (qim k a b) := by
      obtain ⟨re, im, h1, h2, h3⟩ := Fl.cmul_rep hx hy Fl.rep1n Fl.rep0 (by omega) (by omega) (by omega) (by omega) (by omega) (by omega)
      have e1 : qre k a b = -a := by unfold qre; rw [hk]; simp
      have e2 : qim k a b = -b := by unfold qim; rw [hk]; simp
      refine ⟨re, im, h1, ?_, ?_⟩
      · rw [e1, show -a = a * -1 - b * 0 from by omega]; exact h2
      · rw [e2, show -b = a * 0 + b * -1 from by omega]; exact h3
    obtain ⟨re, im, hm, hre, him⟩ := hmul
    have r1 := fun w => run_complex_mul (P := Tryd.prog) w 57 x y 13830554455654793216 0 re im hm
    rw [hk] at hb
    clear hm hx hy hk
    go_enter Tryd.func56, Tryd.ntmps56
    go_wp2_with fail
    with_reducible refine (TH.out _).mono ?_
    rintro e w1 ⟨rfl, hb1⟩
    have hz1 := hb1.size
    go_wp2_with fail
    go_ret
    exact ⟨re, im, rfl, hre, him, by repeat' (first | (with_reducible assumption) | (with_reducible exact Below.refl _ _) | (with_reducible refine below_drewN ?_ _) | (with_reducible refine Below.drew ?_) | (with_reducible refine Below.setCell ?_ ?_ _) | (with_reducible refine Below.alloc ?_ ?_ _) | omega | (simp; done) | (simp; omega))⟩
  · have hmul : ∃ re im, cMulBits x y 0 13830554455654793216 = some (re, im) ∧ Fl.Rep re (qre k a b) ∧ Fl.Rep im (qim k a b) := by
      obtain ⟨re, im, h1, h2, h3⟩ := Fl.cmul_rep hx hy Fl.rep0 Fl.rep1n (by omega) (by omega) (by omega) (by omega) (by omega) (by omega)
      have e1 : qre k a b = b := by unfold qre; rw [hk]; simp
      have e2 : qim k a b = -a := by unfold qim; rw [hk]; simp
      refine ⟨re, im, h1, ?_, ?_⟩
      · rw [e1, show b = a * 0 - b * -1 from by omega]; exact h2
      · rw [e2, show -a = a * -1 + b * 0 from by omega]; exact h3
    obtain ⟨re, im, hm, hre, him⟩ := hmul
    have r1 := fun w => run_complex_mul (P := Tryd.prog) w 57 x y 0 13830554455654793216 re im hm
    rw [hk] at hb
    clear hm hx hy hk
    go_enter Tryd.func56, Tryd.ntmps56
    go_wp2_with fail
    with_reducible refine (TH.out _).mono ?_
    rintro e w1 ⟨rfl, hb1⟩
    have hz1 := hb1.size
    go_wp2_with fail
    go_ret
    exact ⟨re, im, rfl, hre, him, by repeat' (first | (with_reducible assumption) | (with_reducible exact Below.refl _ _) | (with_reducible refine below_drewN ?_ _) | (with_reducible refine Below.drew ?_) | (with_reducible refine Below.setCell ?_ ?_ _) | (with_reducible refine Below.alloc ?_ ?_ _) | omega | (simp; done) | (simp; omega))⟩
end Go.Proofs.YtogmmhacjndebaaDoor
