/- Contracts of package wave: Four, Back. Conditions: as each says. -/
import Derived.Test.YtogmmhacjndebaaDoorWav2
namespace Go.Proofs.YtogmmhacjndebaaDoor
open Go.RowKit
set_option linter.unusedSimpArgs false
set_option linter.unusedVariables false

theorem reps_zero : Reps (fun _ => 0) (fun _ => 0) (fun _ => 0) (fun _ => 0) 4 := fun _ _ => ⟨Fl.rep0, Fl.rep0⟩
def Fit (a b : Nat → Int) : Prop := ∀ i, i < 4 → -1125899906842624 ≤ a i ∧ a i ≤ 1125899906842624 ∧ -1125899906842624 ≤ b i ∧ b i ≤ 1125899906842624
theorem fitTo_of {x y : Nat → Nat} {a b : Nat → Int} (hr : Reps x y a b 4) (hb : Fit a b) : fitTo x y 4 := fun i hi => by
  obtain ⟨h1, h2⟩ := hr i hi
  obtain ⟨b1, b2, b3, b4⟩ := hb i hi
  rw [W50_yes h1 b1 b2, W50_yes h2 b3 b4]; rfl
theorem rows2 (w : World) (x y : Nat → Nat) (T U : TypeId) :
    Row ((w.alloc (.cells #[.complex .f64 (x 0) (y 0), .complex .f64 (x 1) (y 1), .complex .f64 (x 2) (y 2), .complex .f64 (x 3) (y 3)] T)).alloc (.cells #[.complex .f64 0 0, .complex .f64 0 0, .complex .f64 0 0, .complex .f64 0 0] U)) w.heap.size 4 (cx x y) ∧ Row ((w.alloc (.cells #[.complex .f64 (x 0) (y 0), .complex .f64 (x 1) (y 1), .complex .f64 (x 2) (y 2), .complex .f64 (x 3) (y 3)] T)).alloc (.cells #[.complex .f64 0 0, .complex .f64 0 0, .complex .f64 0 0, .complex .f64 0 0] U)) (w.heap.size + 1) 4 (fun _ => .complex .f64 0 0) := by
  refine ⟨(row_new w _ T (cx x y) 4 (fun i hi => list_four (f := cx x y) i hi)).alloc _, ?_⟩
  have h := row_new (w.alloc (.cells #[.complex .f64 (x 0) (y 0), .complex .f64 (x 1) (y 1), .complex .f64 (x 2) (y 2), .complex .f64 (x 3) (y 3)] T)) #[.complex .f64 0 0, .complex .f64 0 0, .complex .f64 0 0, .complex .f64 0 0] U (fun _ => .complex .f64 0 0) 4 (fun i hi => list_four (f := fun _ => .complex .f64 0 0) i hi)
  simp at h
  exact h
theorem cells_at {w : World} {b : Nat} {x y : Nat → Nat} (r : Row w b 4 (cx x y)) : w.cell? ⟨b, 0, none⟩ = some (.complex .f64 (x 0) (y 0)) ∧ w.cell? ⟨b, 1, none⟩ = some (.complex .f64 (x 1) (y 1)) ∧ w.cell? ⟨b, 2, none⟩ = some (.complex .f64 (x 2) (y 2)) ∧ w.cell? ⟨b, 3, none⟩ = some (.complex .f64 (x 3) (y 3)) :=
  ⟨r.at 0 (by decide), r.at 1 (by decide), r.at 2 (by decide), r.at 3 (by decide)⟩
theorem zero_at {w : World} {b : Nat} {v : Value} (r : Row w b 4 (fun _ => v)) : w.cell? ⟨b, 0, none⟩ = some v ∧ w.cell? ⟨b, 1, none⟩ = some v ∧ w.cell? ⟨b, 2, none⟩ = some v ∧ w.cell? ⟨b, 3, none⟩ = some v :=
  ⟨r.at 0 (by decide), r.at 1 (by decide), r.at 2 (by decide), r.at 3 (by decide)⟩
theorem free_at {w : World} {b : Nat} {g : Nat → Value} (r : Row w b 4 g) : w.frozen? ⟨b, 0, none⟩ = false ∧ w.frozen? ⟨b, 1, none⟩ = false ∧ w.frozen? ⟨b, 2, none⟩ = false ∧ w.frozen? ⟨b, 3, none⟩ = false :=
  ⟨r.free 0 (by decide), r.free 1 (by decide), r.free 2 (by decide), r.free 3 (by decide)⟩

attribute [local go_sem] run_store_complex
set_option maxRecDepth 100000 in
set_option maxHeartbeats 1600000 in
theorem four_yes (x y : Nat → Nat) (a b : Nat → Int) (hr : Reps x y a b 4) (hb : Fit a b) (w : World) :
    Calls Tryd.prog 43 #[c4 x y] w (RetC4 (fun k => sre a b 1 k 4) (fun k => sim a b 1 k 4) w) := by
  have F := Lib.hid (fun w => fit_yes x y (fitTo_of hr hb) w)
  have S := Lib.hid (fun w => sums_any x y a b hr hb 1 (.inl rfl) w)
  clear hr hb
  unfold c4 at F S ⊢
  have R := Lib.hid (rows2 w x y 58 58)
  go_enter Tryd.func43, Tryd.ntmps43
  go_wp2_with fail
  with_reducible refine (F.out _).mono ?_
  rintro e w1 ⟨rfl, hb1⟩
  have r0 := R.out.1.beyond hb1
  have r1 := R.out.2.beyond hb1
  have hw1 : Below w.heap.size w w1 := Below.trans (by repeat' (first | (with_reducible assumption) | (with_reducible exact Below.refl _ _) | (with_reducible refine below_drewN ?_ _) | (with_reducible refine Below.drew ?_) | (with_reducible refine Below.setCell ?_ ?_ _) | (with_reducible refine Below.alloc ?_ ?_ _) | omega | (simp; done) | (simp; omega))) (hb1.mono (by first | assumption | (simp; done) | (simp; omega)))
  have hz1 := hw1.size
  clear hb1
  obtain ⟨b0, b1, b2, b3⟩ := cells_at r0
  replace r0 := Lib.hid r0
  replace r1 := Lib.hid r1
  go_wp2_with fail
  with_reducible refine (S.out _).mono ?_
  rintro e w2 ⟨X, Y, rfl, hXY, hb2⟩
  have r2 := r1.out.beyond hb2
  have hw2 : Below w.heap.size w w2 := Below.trans (by repeat' (first | (with_reducible assumption) | (with_reducible exact Below.refl _ _) | (with_reducible refine below_drewN ?_ _) | (with_reducible refine Below.drew ?_) | (with_reducible refine Below.setCell ?_ ?_ _) | (with_reducible refine Below.alloc ?_ ?_ _) | omega | (simp; done) | (simp; omega))) (hb2.mono hz1)
  have l2 := r2.lt
  clear hb2
  obtain ⟨d0, d1, d2, d3⟩ := zero_at r2
  obtain ⟨f0, f1, f2, f3⟩ := free_at r2
  replace hXY := Lib.hid hXY
  clear r2
  unfold c4
  go_wp2_with fail
  refine bodyPost_ret (v := c4 X Y) (by unfold c4; simp (maxDischargeDepth := 6) [results, Tryd.results43, go_sem, *]) rfl ?_
  exact ⟨X, Y, rfl, hXY.out, by repeat' (first | (with_reducible assumption) | (with_reducible exact Below.refl _ _) | (with_reducible refine below_drewN ?_ _) | (with_reducible refine Below.drew ?_) | (with_reducible refine Below.setCell ?_ ?_ _) | (with_reducible refine Below.alloc ?_ ?_ _) | omega | (simp; done) | (simp; omega))⟩
def RetB (ok : Bool) (p q : Nat → Int) (w : World) (e : Ending) (w' : World) : Prop := ∃ x y : Nat → Nat, e = .returned (.tuple #[c4 x y, .bool ok]) ∧ Reps x y p q 4 ∧ Below w.heap.size w w'
/-- The first n numbers can be divided by 4. -/
def divTo (p q : Nat → Int) (n : Nat) : Prop := ∀ i, i < n → (p i).tmod 4 = 0 ∧ (q i).tmod 4 = 0
def dq (ok : Bool) (p : Nat → Int) (k : Nat) : Int := if ok then (p k).tdiv 4 else 0
theorem tdiv4 {p B : Int} (h0 : -B ≤ p) (h1 : p ≤ B) : -B ≤ p.tdiv 4 ∧ p.tdiv 4 ≤ B := tdiv_bound h0 h1

set_option maxRecDepth 100000 in
set_option maxHeartbeats 3200000 in
theorem back_fit (x y : Nat → Nat) (a b p q : Nat → Int) (hr : Reps x y a b 4) (hb : Fit a b) (hp : ∀ k : Nat, k < 4 → sre a b (-1) k 4 = p k ∧ sim a b (-1) k 4 = q k) (ok : Bool) (hok : ok = true ↔ divTo p q 4) (w : World) :
    Calls Tryd.prog 33 #[c4 x y] w (RetB ok (dq ok p) (dq ok q) w) := by
  have F := Lib.hid (fun w => fit_yes x y (fitTo_of hr hb) w)
  have S := Lib.hid (fun w => sums_any x y a b hr hb (-1) (.inr rfl) w)
  have hpb : ∀ k : Nat, k < 4 → -4503599627370496 ≤ p k ∧ p k ≤ 4503599627370496 ∧ -4503599627370496 ≤ q k ∧ q k ≤ 4503599627370496 := by
    intro k hk
    have := s_bound a b (-1) k 1125899906842624 hb (by decide) 4 (by decide)
    rw [(hp k hk).1, (hp k hk).2] at this
    omega
  replace hpb := Lib.hid hpb
  replace hp := Lib.hid hp
  replace hok := Lib.hid hok
  clear hr hb
  unfold c4 at F S ⊢
  have R := Lib.hid (rows2 w x y 58 58)
  go_enter Tryd.func33, Tryd.ntmps33
  go_wp2_with fail
  with_reducible refine (F.out _).mono ?_
  rintro e w1 ⟨rfl, hb1⟩
  have r0 := R.out.1.beyond hb1
  have r1 := R.out.2.beyond hb1
  have hw1 : Below w.heap.size w w1 := Below.trans (by repeat' (first | (with_reducible assumption) | (with_reducible exact Below.refl _ _) | (with_reducible refine below_drewN ?_ _) | (with_reducible refine Below.drew ?_) | (with_reducible refine Below.setCell ?_ ?_ _) | (with_reducible refine Below.alloc ?_ ?_ _) | omega | (simp; done) | (simp; omega))) (hb1.mono (by first | assumption | (simp; done) | (simp; omega)))
  have hz1 := hw1.size
  clear hb1
  obtain ⟨b0, b1, b2, b3⟩ := cells_at r0
  replace r0 := Lib.hid r0
  replace r1 := Lib.hid r1
  go_wp2_with fail
  with_reducible refine (S.out _).mono ?_
  rintro e w2 ⟨X, Y, rfl, hXY, hb2⟩
  have r2 := r1.out.beyond hb2
  have hw2 : Below w.heap.size w w2 := Below.trans (by repeat' (first | (with_reducible assumption) | (with_reducible exact Below.refl _ _) | (with_reducible refine below_drewN ?_ _) | (with_reducible refine Below.drew ?_) | (with_reducible refine Below.setCell ?_ ?_ _) | (with_reducible refine Below.alloc ?_ ?_ _) | omega | (simp; done) | (simp; omega))) (hb2.mono hz1)
  have l2 := r2.lt
  clear hb2
  replace hXY := Lib.hid hXY
  replace r2 := Lib.hid r2
  have hix := Lib.hid (fun j hj w => idx4 X Y j hj w)
  clear b0 b1 b2 b3 r0 r1 R F S
  unfold c4
  go_wp2_with fail
  go_loopw [17] (fun k wr => ∃ K : Nat, K ≤ 4 ∧ k = .int .i64 K ∧ Row wr (w.heap.size + 1) 4 (fun _ => .complex .f64 0 0) ∧ Below w.heap.size w wr ∧
      ∃ X' Y' : Nat → Nat, Row wr w2.heap.size 4 (cx X' Y') ∧ Hid (Reps X' Y' (fun k => (p k).tdiv 4) (fun k => (q k).tdiv 4) K) ∧ Hid (divTo p q K)) (fun k _ => (4 - intOf k).toNat)
  case atStart =>
    exact ⟨0, by omega, rfl, r2.out.alloc _, by repeat' (first | (with_reducible assumption) | (with_reducible exact Below.refl _ _) | (with_reducible refine below_drewN ?_ _) | (with_reducible refine Below.drew ?_) | (with_reducible refine Below.setCell ?_ ?_ _) | (with_reducible refine Below.alloc ?_ ?_ _) | omega | (simp; done) | (simp; omega)), X, Y, row_new w2 _ _ (cx X Y) 4 (fun i hi => list_four (f := cx X Y) i hi), Lib.hid (fun i hi => by omega), Lib.hid (fun i hi => by omega)⟩
  case round =>
    obtain ⟨K, hK, rfl, r1, hbw, X', Y', r3, hXY', hdv⟩ := hrel
    by_cases hK4 : K < 4
    · have hi := fun w => hix.out K hK4 w
      obtain ⟨g1, g2⟩ := hXY.out K hK4
      obtain ⟨h1, h2⟩ := hp.out K hK4
      simp only [h1, h2] at g1 g2
      obtain ⟨k1, k2, k3, k4⟩ := hpb.out K hK4
      have PP := Lib.hid (fun w => parts_yes g1 g2 k1 k2 k3 k4 w)
      clear g1 g2 h1 h2
      by_cases m1 : (p K).tmod 4 = 0
      · have n1 : ((p K).tmod 4 != 0) = false := bne_f m1
        by_cases m2 : (q K).tmod 4 = 0
        · have n2 : ((q K).tmod 4 != 0) = false := bne_f m2
          have hdv' := Lib.hid (show divTo p q (K + 1) from fun i hi' => by
            by_cases hik : i < K
            · exact hdv.out i hik
            · obtain rfl : i = K := by omega
              exact ⟨m1, m2⟩)
          have t1 := tdiv4 k1 k2
          have t2 := tdiv4 k3 k4
          have q1 := Fl.rep_ofInt ((p K).tdiv 4) (by omega)
          have q2 := Fl.rep_ofInt ((q K).tdiv 4) (by omega)
          have c1 := fun w => run_i2f ((p K).tdiv 4) w
          have c2 := fun w => run_i2f ((q K).tdiv 4) w
          have hXY2 := Lib.hid (show Reps (fun i => if i = K then floatOfInt .f64 ((p K).tdiv 4) else X' i) (fun i => if i = K then floatOfInt .f64 ((q K).tdiv 4) else Y' i) (fun k => (p k).tdiv 4) (fun k => (q k).tdiv 4) (K + 1) from fun i hi' => by
            by_cases hik : i = K
            · subst hik
              simp only [if_pos rfl]
              exact ⟨q1, q2⟩
            · simp only [if_neg hik]
              exact hXY'.out i (by omega))
          have r5 := fun (W : World) (h : Row W w2.heap.size 4 (cx X' Y')) => (h.set K hK4 (.complex .f64 (floatOfInt .f64 ((p K).tdiv 4)) (floatOfInt .f64 ((q K).tdiv 4)))).congr (g' := cx (fun i => if i = K then floatOfInt .f64 ((p K).tdiv 4) else X' i) (fun i => if i = K then floatOfInt .f64 ((q K).tdiv 4) else Y' i)) (fun i hi => by
            unfold upd cx
            by_cases hik : i = K
            · simp only [if_pos hik]
            · simp only [if_neg hik])
          replace r5 := Lib.hid r5
          generalize floatOfInt .f64 ((p K).tdiv 4) = u at *
          generalize floatOfInt .f64 ((q K).tdiv 4) = v at *
          replace r1 := Lib.hid r1
          replace r3 := Lib.hid r3
          have hK0 : (0 : Int) ≤ (K : Int) := by omega
          have hK1 : (K : Int) < 4 := by omega
          clear m1 m2 q1 q2 t1 t2
          go_wp2_with fail
          with_reducible refine (PP.out _).mono ?_
          rintro e w4 ⟨rfl, hb4⟩
          have t1 := r1.out.beyond hb4
          have t3 := r3.out.beyond hb4
          have hw4 : Below w.heap.size w w4 := hbw.trans (hb4.mono hbw.size)
          clear hb4
          have tc := t3.at K hK4
          unfold cx at tc
          have tf := t3.free K hK4
          have tl := t3.lt
          replace t1 := Lib.hid t1
          replace t3 := Lib.hid t3
          go_wp2_with fail
          go_roundw
          case measure => simp [intOf]; omega
          case rel => exact ⟨K + 1, by omega, by go_num, t1.out.setOther _ (by show w2.heap.size ≠ w.heap.size + 1; omega) _, hw4.setCell (by show w.heap.size ≤ w2.heap.size; omega) _, _, _, r5.out _ t3.out, hXY2, hdv'⟩
        · have n2 : ((q K).tmod 4 != 0) = true := bne_t m2
          have hno : ok = false := by
            rw [← Bool.not_eq_true, hok.out]
            intro hd
            have := hd K hK4
            omega
          obtain ⟨d0, d1, d2, d3⟩ := zero_at r1
          obtain ⟨f0, f1, f2, f3⟩ := free_at r1
          have ll := r1.lt
          replace hno := Lib.hid hno
          replace r1 := Lib.hid r1
          go_wp2_with fail
          with_reducible refine (PP.out _).mono ?_
          rintro e w4 ⟨rfl, hb4⟩
          have r2' := r1.out.beyond hb4
          have hw4 : Below w.heap.size w w4 := hbw.trans (hb4.mono hbw.size)
          clear hb4 d0 d1 d2 d3 f0 f1 f2 f3 ll
          obtain ⟨d0, d1, d2, d3⟩ := zero_at r2'
          obtain ⟨f0, f1, f2, f3⟩ := free_at r2'
          have ll := r2'.lt
          clear r2'
          go_wp2_with fail
          refine bodyPost_ret (v := .tuple #[c4 (fun _ => 0) (fun _ => 0), .bool false]) (by unfold c4; simp (maxDischargeDepth := 6) [results, Tryd.results33, go_sem, *]) rfl ?_
          rw [hno.out]
          exact ⟨_, _, rfl, reps_zero, by repeat' (first | (with_reducible assumption) | (with_reducible exact Below.refl _ _) | (with_reducible refine below_drewN ?_ _) | (with_reducible refine Below.drew ?_) | (with_reducible refine Below.setCell ?_ ?_ _) | (with_reducible refine Below.alloc ?_ ?_ _) | omega | (simp; done) | (simp; omega))⟩
      · have n1 : ((p K).tmod 4 != 0) = true := bne_t m1
        have hno : ok = false := by
          rw [← Bool.not_eq_true, hok.out]
          intro hd
          have := hd K hK4
          omega
        obtain ⟨d0, d1, d2, d3⟩ := zero_at r1
        obtain ⟨f0, f1, f2, f3⟩ := free_at r1
        have ll := r1.lt
        replace hno := Lib.hid hno
        replace r1 := Lib.hid r1
        go_wp2_with fail
        with_reducible refine (PP.out _).mono ?_
        rintro e w4 ⟨rfl, hb4⟩
        have r2' := r1.out.beyond hb4
        have hw4 : Below w.heap.size w w4 := hbw.trans (hb4.mono hbw.size)
        clear hb4 d0 d1 d2 d3 f0 f1 f2 f3 ll
        obtain ⟨d0, d1, d2, d3⟩ := zero_at r2'
        obtain ⟨f0, f1, f2, f3⟩ := free_at r2'
        have ll := r2'.lt
        clear r2'
        go_wp2_with fail
        refine bodyPost_ret (v := .tuple #[c4 (fun _ => 0) (fun _ => 0), .bool false]) (by unfold c4; simp (maxDischargeDepth := 6) [results, Tryd.results33, go_sem, *]) rfl ?_
        rw [hno.out]
        exact ⟨_, _, rfl, reps_zero, by repeat' (first | (with_reducible assumption) | (with_reducible exact Below.refl _ _) | (with_reducible refine below_drewN ?_ _) | (with_reducible refine Below.drew ?_) | (with_reducible refine Below.setCell ?_ ?_ _) | (with_reducible refine Below.alloc ?_ ?_ _) | omega | (simp; done) | (simp; omega))⟩
    · have hKe : K = 4 := by omega
      rw [hKe] at hXY' hdv
      have hyes : ok = true := hok.out.2 hdv.out
      have hfin : Reps X' Y' (dq ok p) (dq ok q) 4 := fun i hi => by
        have := hXY'.out i hi
        rw [hyes]
        exact this
      obtain ⟨b0, b1, b2, b3⟩ := cells_at r3
      obtain ⟨d0, d1, d2, d3⟩ := zero_at r1
      obtain ⟨f0, f1, f2, f3⟩ := free_at r1
      have ll := r1.lt
      have ll2 := r3.lt
      replace hyes := Lib.hid hyes
      replace hfin := Lib.hid hfin
      replace hKe := Lib.hid hKe
      clear r1 r3 hXY' hdv
      go_wp2_with fail
      refine bodyPost_ret (v := .tuple #[c4 X' Y', .bool true]) (by unfold c4; simp (maxDischargeDepth := 6) [results, Tryd.results33, go_sem, *]) rfl ?_
      exact ⟨X', Y', by rw [hyes.out], hfin.out, by repeat' (first | (with_reducible assumption) | (with_reducible exact Below.refl _ _) | (with_reducible refine below_drewN ?_ _) | (with_reducible refine Below.drew ?_) | (with_reducible refine Below.setCell ?_ ?_ _) | (with_reducible refine Below.alloc ?_ ?_ _) | omega | (simp; done) | (simp; omega))⟩
end Go.Proofs.YtogmmhacjndebaaDoor
