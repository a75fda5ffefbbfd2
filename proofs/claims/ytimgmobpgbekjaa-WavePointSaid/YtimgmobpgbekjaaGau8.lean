/- Contracts of package gauss: Quo. Conditions: as each says. -/
import Derived.Test.YtimgmobpgbekjaaGau7
namespace Go.Proofs.Ytimgmobpgbekjaa
open Go.RowKit

theorem eqB_zero {u : Nat} {c : Int} (hu : Fl.Rep u c) : Fl.eqB u 0 = decide (c = 0) := by
  have h := Fl.eqB_val (Fl.val_of_rep hu) (Fl.val_of_rep Fl.rep0)
  have hp := Fl.two_pos
  rw [Bool.eq_iff_iff, h, decide_eq_true_iff]
  rw [Int.zero_mul]
  constructor
  · intro h1
    rcases Int.mul_eq_zero.1 h1 with h2 | h2
    · exact h2
    · exact absurd h2 (Int.ne_of_gt hp)
  · rintro rfl; rw [Int.zero_mul]
theorem run_ceql0 {P : Program} (t : TypeId) (u v : Nat) (w : World) : (binOp .eql t (.complex .f64 u v) (.complex .f64 0 0)).run P w = .ok (.bool (Fl.eqB u 0 && Fl.eqB v 0)) w := rfl
theorem sq_pos {c : Int} (h : ¬ c = 0) : 0 < c * c := by
  rcases Int.lt_or_gt_of_ne h with h1 | h1
  · exact Int.mul_pos_of_neg_of_neg h1 h1
  · exact Int.mul_pos h1 h1
theorem sq_nonneg (c : Int) : 0 ≤ c * c := by
  by_cases h : c = 0
  · subst h; decide
  · exact Int.le_of_lt (sq_pos h)
theorem norm_pos {c d : Int} (h : ¬ (c = 0 ∧ d = 0)) : 0 < c * c + d * d := by
  have h1 := sq_nonneg c
  have h2 := sq_nonneg d
  by_cases hc : c = 0
  · have := sq_pos (c := d) (fun hd => h ⟨hc, hd⟩); omega
  · have := sq_pos hc; omega
theorem eq0_no {u v : Nat} {c d : Int} (hu : Fl.Rep u c) (hv : Fl.Rep v d) (h : ¬ (c = 0 ∧ d = 0)) : (Fl.eqB u 0 && Fl.eqB v 0) = false := by
  rw [eqB_zero hu, eqB_zero hv]
  simpa using fun hc => fun hd => h ⟨hc, hd⟩
theorem eq0_yes {u v : Nat} (hu : Fl.Rep u 0) (hv : Fl.Rep v 0) : (Fl.eqB u 0 && Fl.eqB v 0) = true := by
  rw [eqB_zero hu, eqB_zero hv]; rfl

set_option maxHeartbeats 800000 in
theorem quo_zero {x y u v : Nat} {a b : Int} (hx : Fl.Rep x a) (hy : Fl.Rep y b) (hu : Fl.Rep u 0) (hv : Fl.Rep v 0) (p0 : -33554432 ≤ a) (p1 : a ≤ 33554432) (q0 : -33554432 ≤ b) (q1 : b ≤ 33554432) (w : World) :
    Calls Try.prog 25 #[.complex .f64 x y, .complex .f64 u v] w fun e w' => e = .returned (.tuple #[.complex .f64 0 0, .bool false]) ∧ Below w.heap.size w w' := by
  have SA := fun w => small_any x y w
  have SB := fun w => small_any u v w
  rw [W25_yes hx p0 p1, W25_yes hy q0 q1] at SA
  rw [W25_yes hu (by decide) (by decide), W25_yes hv (by decide) (by decide)] at SB
  replace SA := Lib.hid SA
  replace SB := Lib.hid SB
  have hq := fun w => run_ceql0 (P := Try.prog) 25 u v w
  rw [eq0_yes hu hv] at hq
  clear hx hy hu hv
  go_enter Try.func25, Try.ntmps25
  go_wp2_with fail
  with_reducible refine (SA.out _).mono ?_
  rintro e w1 ⟨rfl, hb1⟩
  have hw1 : Below w.heap.size w w1 := Below.trans (by repeat' (first | (with_reducible assumption) | (with_reducible exact Below.refl _ _) | (with_reducible refine below_drewN ?_ _) | (with_reducible refine Below.drew ?_) | (with_reducible refine Below.setCell ?_ ?_ _) | (with_reducible refine Below.alloc ?_ ?_ _) | omega | (simp; done) | (simp; omega))) (hb1.mono (by first | assumption | (simp; done) | (simp; omega)))
  have hz1 := hw1.size
  clear hb1
  go_wp2_with fail
  with_reducible refine (SB.out _).mono ?_
  rintro e w2 ⟨rfl, hb2⟩
  have hw2 : Below w.heap.size w w2 := Below.trans (by repeat' (first | (with_reducible assumption) | (with_reducible exact Below.refl _ _) | (with_reducible refine below_drewN ?_ _) | (with_reducible refine Below.drew ?_) | (with_reducible refine Below.setCell ?_ ?_ _) | (with_reducible refine Below.alloc ?_ ?_ _) | omega | (simp; done) | (simp; omega))) (hb2.mono (by first | assumption | (simp; done) | (simp; omega)))
  have hz2 := hw2.size
  clear hb2
  go_wp2_with fail
  refine bodyPost_ret (results_tmp2 rfl _ _ _) rfl ?_
  exact ⟨rfl, by repeat' (first | (with_reducible assumption) | (with_reducible exact Below.refl _ _) | (with_reducible refine below_drewN ?_ _) | (with_reducible refine Below.drew ?_) | (with_reducible refine Below.setCell ?_ ?_ _) | (with_reducible refine Below.alloc ?_ ?_ _) | omega | (simp; done) | (simp; omega))⟩

theorem tdiv_bound {R N B : Int} (h0 : -B ≤ R) (h1 : R ≤ B) : -B ≤ R.tdiv N ∧ R.tdiv N ≤ B := by
  have h := Int.natAbs_tdiv_le_natAbs R N
  omega

/-- What Quo tells where the divisor is not 0: R, I are the parts of z times the turned w, N is w's norm. -/
def qOk (R I N : Int) : Bool := R.tmod N == 0 && I.tmod N == 0

set_option maxHeartbeats 800000 in
theorem quo_no {x y u v : Nat} {a b c d : Int} (hx : Fl.Rep x a) (hy : Fl.Rep y b) (hu : Fl.Rep u c) (hv : Fl.Rep v d) (p0 : -33554432 ≤ a) (p1 : a ≤ 33554432) (q0 : -33554432 ≤ b) (q1 : b ≤ 33554432) (r0 : -33554432 ≤ c) (r1 : c ≤ 33554432) (s0 : -33554432 ≤ d) (s1 : d ≤ 33554432) (hcd : ¬ (c = 0 ∧ d = 0)) (hok : qOk (a * c + b * d) (b * c - a * d) (c * c + d * d) = false) (w : World) :
    Calls Try.prog 25 #[.complex .f64 x y, .complex .f64 u v] w fun e w' => e = .returned (.tuple #[.complex .f64 0 0, .bool false]) ∧ Below w.heap.size w w' := by
  have SA := fun w => small_any x y w
  have SB := fun w => small_any u v w
  rw [W25_yes hx p0 p1, W25_yes hy q0 q1] at SA
  rw [W25_yes hu r0 r1, W25_yes hv s0 s1] at SB
  replace SA := Lib.hid SA
  replace SB := Lib.hid SB
  have k1 := sq25 p0 p1 r0 r1
  have k2 := sq25 q0 q1 s0 s1
  have k3 := sq25 p0 p1 s0 s1
  have k4 := sq25 q0 q1 r0 r1
  have k5 := sq25 p0 p1 p0 p1
  have k6 := sq25 q0 q1 q0 q1
  have k7 := sq25 r0 r1 r0 r1
  have k8 := sq25 s0 s1 s0 s1
  have NM := fun w => norm_yes hu hv r0 r1 s0 s1 w
  have TU := fun w => turned_any u v w
  obtain ⟨re, im, hm, hre, him⟩ := Fl.cmul_rep hx hy hu (Fl.neg_rep hv) (by omega) (by rw [Int.mul_neg]; omega) (by rw [Int.mul_neg]; omega) (by rw [Int.mul_neg]; omega) (by omega) (by rw [Int.mul_neg]; omega)
  have e1 : a * c - b * -d = a * c + b * d := by rw [Int.mul_neg]; omega
  have e2 : a * -d + b * c = b * c - a * d := by rw [Int.mul_neg]; omega
  rw [e1] at hre
  rw [e2] at him
  have PA := fun w => parts_yes hre him (by omega) (by omega) (by omega) (by omega) w
  have hN : 0 < c * c + d * d := norm_pos hcd
  have n1 : c * c + d * d ≤ 4503599627370496 := by omega
  have g1 : -4503599627370496 ≤ a * c + b * d := by omega
  have g2 : a * c + b * d ≤ 4503599627370496 := by omega
  have g3 : -4503599627370496 ≤ b * c - a * d := by omega
  have g4 : b * c - a * d ≤ 4503599627370496 := by omega
  have r1' := fun w => run_complex_mul (P := Try.prog) w 25 x y u (Op.negFloat .f64 v) re im hm
  have hz := eq0_no hu hv hcd
  clear k1 k2 k3 k4 k5 k6 k7 k8 e1 e2 hm hre him hx hy hu hv hcd
  generalize a * c + b * d = R at *
  generalize b * c - a * d = I at *
  generalize c * c + d * d = N at *
  generalize Op.negFloat .f64 v = v' at *
  replace NM := Lib.hid NM
  replace TU := Lib.hid TU
  replace PA := Lib.hid PA
  
  have hN' : ¬ N = 0 := by omega
  have hq := fun w => run_ceql0 (P := Try.prog) 25 u v w
  rw [hz] at hq
  clear hz
  unfold qOk at hok
  by_cases hr : R.tmod N = 0
  · have f1 : (R.tmod N != 0) = false := bne_f hr
    have hi : ¬ I.tmod N = 0 := by intro hi; rw [hr, hi] at hok; cases hok
    have f2 : (I.tmod N != 0) = true := bne_t hi
    clear hok hr hi
    go_enter Try.func25, Try.ntmps25
    go_wp2_with fail
    with_reducible refine (SA.out _).mono ?_
    rintro e w1 ⟨rfl, hb1⟩
    have hw1 : Below w.heap.size w w1 := Below.trans (by repeat' (first | (with_reducible assumption) | (with_reducible exact Below.refl _ _) | (with_reducible refine below_drewN ?_ _) | (with_reducible refine Below.drew ?_) | (with_reducible refine Below.setCell ?_ ?_ _) | (with_reducible refine Below.alloc ?_ ?_ _) | omega | (simp; done) | (simp; omega))) (hb1.mono (by first | assumption | (simp; done) | (simp; omega)))
    have hz1 := hw1.size
    clear hb1
    go_wp2_with fail
    with_reducible refine (SB.out _).mono ?_
    rintro e w2 ⟨rfl, hb2⟩
    have hw2 : Below w.heap.size w w2 := Below.trans (by repeat' (first | (with_reducible assumption) | (with_reducible exact Below.refl _ _) | (with_reducible refine below_drewN ?_ _) | (with_reducible refine Below.drew ?_) | (with_reducible refine Below.setCell ?_ ?_ _) | (with_reducible refine Below.alloc ?_ ?_ _) | omega | (simp; done) | (simp; omega))) (hb2.mono (by first | assumption | (simp; done) | (simp; omega)))
    have hz2 := hw2.size
    clear hb2
    go_wp2_with fail
    with_reducible refine (NM.out _).mono ?_
    rintro e w3 ⟨rfl, hb3⟩
    have hw3 : Below w.heap.size w w3 := Below.trans (by repeat' (first | (with_reducible assumption) | (with_reducible exact Below.refl _ _) | (with_reducible refine below_drewN ?_ _) | (with_reducible refine Below.drew ?_) | (with_reducible refine Below.setCell ?_ ?_ _) | (with_reducible refine Below.alloc ?_ ?_ _) | omega | (simp; done) | (simp; omega))) (hb3.mono (by first | assumption | (simp; done) | (simp; omega)))
    have hz3 := hw3.size
    clear hb3
    go_wp2_with fail
    with_reducible refine (TU.out _).mono ?_
    rintro e w' ⟨rfl, rfl⟩
    go_wp2_with fail
    with_reducible refine (PA.out _).mono ?_
    rintro e w4 ⟨rfl, hb4⟩
    have hw4 : Below w.heap.size w w4 := Below.trans (by repeat' (first | (with_reducible assumption) | (with_reducible exact Below.refl _ _) | (with_reducible refine below_drewN ?_ _) | (with_reducible refine Below.drew ?_) | (with_reducible refine Below.setCell ?_ ?_ _) | (with_reducible refine Below.alloc ?_ ?_ _) | omega | (simp; done) | (simp; omega))) (hb4.mono (by first | assumption | (simp; done) | (simp; omega)))
    have hz4 := hw4.size
    clear hb4
    go_wp2_with fail
    go_wp2_with fail
    refine bodyPost_ret (results_tmp2 rfl _ _ _) rfl ?_
    exact ⟨rfl, by repeat' (first | (with_reducible assumption) | (with_reducible exact Below.refl _ _) | (with_reducible refine below_drewN ?_ _) | (with_reducible refine Below.drew ?_) | (with_reducible refine Below.setCell ?_ ?_ _) | (with_reducible refine Below.alloc ?_ ?_ _) | omega | (simp; done) | (simp; omega))⟩
  · have f1 : (R.tmod N != 0) = true := bne_t hr
    clear hok hr
    go_enter Try.func25, Try.ntmps25
    go_wp2_with fail
    with_reducible refine (SA.out _).mono ?_
    rintro e w1 ⟨rfl, hb1⟩
    have hw1 : Below w.heap.size w w1 := Below.trans (by repeat' (first | (with_reducible assumption) | (with_reducible exact Below.refl _ _) | (with_reducible refine below_drewN ?_ _) | (with_reducible refine Below.drew ?_) | (with_reducible refine Below.setCell ?_ ?_ _) | (with_reducible refine Below.alloc ?_ ?_ _) | omega | (simp; done) | (simp; omega))) (hb1.mono (by first | assumption | (simp; done) | (simp; omega)))
    have hz1 := hw1.size
    clear hb1
    go_wp2_with fail
    with_reducible refine (SB.out _).mono ?_
    rintro e w2 ⟨rfl, hb2⟩
    have hw2 : Below w.heap.size w w2 := Below.trans (by repeat' (first | (with_reducible assumption) | (with_reducible exact Below.refl _ _) | (with_reducible refine below_drewN ?_ _) | (with_reducible refine Below.drew ?_) | (with_reducible refine Below.setCell ?_ ?_ _) | (with_reducible refine Below.alloc ?_ ?_ _) | omega | (simp; done) | (simp; omega))) (hb2.mono (by first | assumption | (simp; done) | (simp; omega)))
    have hz2 := hw2.size
    clear hb2
    go_wp2_with fail
    with_reducible refine (NM.out _).mono ?_
    rintro e w3 ⟨rfl, hb3⟩
    have hw3 : Below w.heap.size w w3 := Below.trans (by repeat' (first | (with_reducible assumption) | (with_reducible exact Below.refl _ _) | (with_reducible refine below_drewN ?_ _) | (with_reducible refine Below.drew ?_) | (with_reducible refine Below.setCell ?_ ?_ _) | (with_reducible refine Below.alloc ?_ ?_ _) | omega | (simp; done) | (simp; omega))) (hb3.mono (by first | assumption | (simp; done) | (simp; omega)))
    have hz3 := hw3.size
    clear hb3
    go_wp2_with fail
    with_reducible refine (TU.out _).mono ?_
    rintro e w' ⟨rfl, rfl⟩
    go_wp2_with fail
    with_reducible refine (PA.out _).mono ?_
    rintro e w4 ⟨rfl, hb4⟩
    have hw4 : Below w.heap.size w w4 := Below.trans (by repeat' (first | (with_reducible assumption) | (with_reducible exact Below.refl _ _) | (with_reducible refine below_drewN ?_ _) | (with_reducible refine Below.drew ?_) | (with_reducible refine Below.setCell ?_ ?_ _) | (with_reducible refine Below.alloc ?_ ?_ _) | omega | (simp; done) | (simp; omega))) (hb4.mono (by first | assumption | (simp; done) | (simp; omega)))
    have hz4 := hw4.size
    clear hb4
    go_wp2_with fail
    go_wp2_with fail
    refine bodyPost_ret (results_tmp2 rfl _ _ _) rfl ?_
    exact ⟨rfl, by repeat' (first | (with_reducible assumption) | (with_reducible exact Below.refl _ _) | (with_reducible refine below_drewN ?_ _) | (with_reducible refine Below.drew ?_) | (with_reducible refine Below.setCell ?_ ?_ _) | (with_reducible refine Below.alloc ?_ ?_ _) | omega | (simp; done) | (simp; omega))⟩

def RetQ (p q : Int) (w : World) (e : Ending) (w' : World) : Prop := e = .returned (.tuple #[.complex .f64 (floatOfInt .f64 p) (floatOfInt .f64 q), .bool true]) ∧ Below w.heap.size w w'
set_option maxHeartbeats 800000 in
theorem quo_yes {x y u v : Nat} {a b c d : Int} (hx : Fl.Rep x a) (hy : Fl.Rep y b) (hu : Fl.Rep u c) (hv : Fl.Rep v d) (p0 : -33554432 ≤ a) (p1 : a ≤ 33554432) (q0 : -33554432 ≤ b) (q1 : b ≤ 33554432) (r0 : -33554432 ≤ c) (r1 : c ≤ 33554432) (s0 : -33554432 ≤ d) (s1 : d ≤ 33554432) (hcd : ¬ (c = 0 ∧ d = 0)) (hok : qOk (a * c + b * d) (b * c - a * d) (c * c + d * d) = true) (w : World) :
    Calls Try.prog 25 #[.complex .f64 x y, .complex .f64 u v] w (RetQ ((a * c + b * d).tdiv (c * c + d * d)) ((b * c - a * d).tdiv (c * c + d * d)) w) := by
  have SA := fun w => small_any x y w
  have SB := fun w => small_any u v w
  rw [W25_yes hx p0 p1, W25_yes hy q0 q1] at SA
  rw [W25_yes hu r0 r1, W25_yes hv s0 s1] at SB
  replace SA := Lib.hid SA
  replace SB := Lib.hid SB
  have k1 := sq25 p0 p1 r0 r1
  have k2 := sq25 q0 q1 s0 s1
  have k3 := sq25 p0 p1 s0 s1
  have k4 := sq25 q0 q1 r0 r1
  have k5 := sq25 p0 p1 p0 p1
  have k6 := sq25 q0 q1 q0 q1
  have k7 := sq25 r0 r1 r0 r1
  have k8 := sq25 s0 s1 s0 s1
  have NM := fun w => norm_yes hu hv r0 r1 s0 s1 w
  have TU := fun w => turned_any u v w
  obtain ⟨re, im, hm, hre, him⟩ := Fl.cmul_rep hx hy hu (Fl.neg_rep hv) (by omega) (by rw [Int.mul_neg]; omega) (by rw [Int.mul_neg]; omega) (by rw [Int.mul_neg]; omega) (by omega) (by rw [Int.mul_neg]; omega)
  have e1 : a * c - b * -d = a * c + b * d := by rw [Int.mul_neg]; omega
  have e2 : a * -d + b * c = b * c - a * d := by rw [Int.mul_neg]; omega
  rw [e1] at hre
  rw [e2] at him
  have PA := fun w => parts_yes hre him (by omega) (by omega) (by omega) (by omega) w
  have hN : 0 < c * c + d * d := norm_pos hcd
  have n1 : c * c + d * d ≤ 4503599627370496 := by omega
  have g1 : -4503599627370496 ≤ a * c + b * d := by omega
  have g2 : a * c + b * d ≤ 4503599627370496 := by omega
  have g3 : -4503599627370496 ≤ b * c - a * d := by omega
  have g4 : b * c - a * d ≤ 4503599627370496 := by omega
  have r1' := fun w => run_complex_mul (P := Try.prog) w 25 x y u (Op.negFloat .f64 v) re im hm
  have hz := eq0_no hu hv hcd
  clear k1 k2 k3 k4 k5 k6 k7 k8 e1 e2 hm hre him hx hy hu hv hcd
  generalize a * c + b * d = R at *
  generalize b * c - a * d = I at *
  generalize c * c + d * d = N at *
  generalize Op.negFloat .f64 v = v' at *
  replace NM := Lib.hid NM
  replace TU := Lib.hid TU
  replace PA := Lib.hid PA
  
  have hN' : ¬ N = 0 := by omega
  have hq := fun w => run_ceql0 (P := Try.prog) 25 u v w
  rw [hz] at hq
  clear hz
  unfold qOk at hok
  rw [Bool.and_eq_true, beq_iff_eq, beq_iff_eq] at hok
  have f1 : (R.tmod N != 0) = false := bne_f hok.1
  have f2 : (I.tmod N != 0) = false := bne_f hok.2
  have c1 := fun w => run_i2f (R.tdiv N) w
  have c2 := fun w => run_i2f (I.tdiv N) w
  clear hok
  go_enter Try.func25, Try.ntmps25
  go_wp2_with fail
  with_reducible refine (SA.out _).mono ?_
  rintro e w1 ⟨rfl, hb1⟩
  have hw1 : Below w.heap.size w w1 := Below.trans (by repeat' (first | (with_reducible assumption) | (with_reducible exact Below.refl _ _) | (with_reducible refine below_drewN ?_ _) | (with_reducible refine Below.drew ?_) | (with_reducible refine Below.setCell ?_ ?_ _) | (with_reducible refine Below.alloc ?_ ?_ _) | omega | (simp; done) | (simp; omega))) (hb1.mono (by first | assumption | (simp; done) | (simp; omega)))
  have hz1 := hw1.size
  clear hb1
  go_wp2_with fail
  with_reducible refine (SB.out _).mono ?_
  rintro e w2 ⟨rfl, hb2⟩
  have hw2 : Below w.heap.size w w2 := Below.trans (by repeat' (first | (with_reducible assumption) | (with_reducible exact Below.refl _ _) | (with_reducible refine below_drewN ?_ _) | (with_reducible refine Below.drew ?_) | (with_reducible refine Below.setCell ?_ ?_ _) | (with_reducible refine Below.alloc ?_ ?_ _) | omega | (simp; done) | (simp; omega))) (hb2.mono (by first | assumption | (simp; done) | (simp; omega)))
  have hz2 := hw2.size
  clear hb2
  go_wp2_with fail
  with_reducible refine (NM.out _).mono ?_
  rintro e w3 ⟨rfl, hb3⟩
  have hw3 : Below w.heap.size w w3 := Below.trans (by repeat' (first | (with_reducible assumption) | (with_reducible exact Below.refl _ _) | (with_reducible refine below_drewN ?_ _) | (with_reducible refine Below.drew ?_) | (with_reducible refine Below.setCell ?_ ?_ _) | (with_reducible refine Below.alloc ?_ ?_ _) | omega | (simp; done) | (simp; omega))) (hb3.mono (by first | assumption | (simp; done) | (simp; omega)))
  have hz3 := hw3.size
  clear hb3
  go_wp2_with fail
  with_reducible refine (TU.out _).mono ?_
  rintro e w' ⟨rfl, rfl⟩
  go_wp2_with fail
  with_reducible refine (PA.out _).mono ?_
  rintro e w4 ⟨rfl, hb4⟩
  have hw4 : Below w.heap.size w w4 := Below.trans (by repeat' (first | (with_reducible assumption) | (with_reducible exact Below.refl _ _) | (with_reducible refine below_drewN ?_ _) | (with_reducible refine Below.drew ?_) | (with_reducible refine Below.setCell ?_ ?_ _) | (with_reducible refine Below.alloc ?_ ?_ _) | omega | (simp; done) | (simp; omega))) (hb4.mono (by first | assumption | (simp; done) | (simp; omega)))
  have hz4 := hw4.size
  clear hb4
  go_wp2_with fail
  go_wp2_with fail
  go_quiet (fail)
  go_wp2_with fail
  refine bodyPost_ret (results_tmp2 rfl _ _ _) rfl ?_
  exact ⟨rfl, by repeat' (first | (with_reducible assumption) | (with_reducible exact Below.refl _ _) | (with_reducible refine below_drewN ?_ _) | (with_reducible refine Below.drew ?_) | (with_reducible refine Below.setCell ?_ ?_ _) | (with_reducible refine Below.alloc ?_ ?_ _) | omega | (simp; done) | (simp; omega))⟩
end Go.Proofs.Ytimgmobpgbekjaa
