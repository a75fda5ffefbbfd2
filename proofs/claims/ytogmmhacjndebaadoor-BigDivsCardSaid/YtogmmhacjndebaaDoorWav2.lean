/- Contracts of package wave: sums. Conditions: as each says. -/
import Derived.Test.YtogmmhacjndebaaDoorWav1
import Derived.Test.YtogmmhacjndebaaDoorRow
import Derived.Test.YtogmmhacjndebaaDoorGau9
namespace Go.Proofs.YtogmmhacjndebaaDoor
open Go.RowKit
set_option linter.unusedSimpArgs false
set_option linter.unusedVariables false

namespace Fl
theorem cadd_rep {x y u v : Nat} {a b c d : Int} (hx : Rep x a) (hy : Rep y b) (hu : Rep u c) (hv : Rep v d) (h1 : (a + c).natAbs < 9007199254740992) (h2 : (b + d).natAbs < 9007199254740992) :
    ∃ re im, cSumBits .add .f64 x y u v = some (re, im) ∧ Rep re (a + c) ∧ Rep im (b + d) := by
  obtain ⟨r1, e1, p1⟩ := add_rep hx hu h1
  obtain ⟨r2, e2, p2⟩ := add_rep hy hv h2
  refine ⟨r1, r2, ?_, p1, p2⟩
  unfold cSumBits
  rw [e1, e2]
  rfl
end Fl

/-- The parts of the sum of the first n numbers, each turned by its place times k times way quarters. -/
def sre (a b : Nat → Int) (way k : Int) : Nat → Int
  | 0 => 0
  | n + 1 => sre a b way k n + qre ((n : Int) * k * way) (a n) (b n)
def sim (a b : Nat → Int) (way k : Int) : Nat → Int
  | 0 => 0
  | n + 1 => sim a b way k n + qim ((n : Int) * k * way) (a n) (b n)
theorem s_bound (a b : Nat → Int) (way k : Int) (M : Int) (h : ∀ i, i < 4 → -M ≤ a i ∧ a i ≤ M ∧ -M ≤ b i ∧ b i ≤ M) (h0 : 0 ≤ M) : ∀ n, n ≤ 4 → -(n * M) ≤ sre a b way k n ∧ sre a b way k n ≤ n * M ∧ -(n * M) ≤ sim a b way k n ∧ sim a b way k n ≤ n * M := by
  intro n
  induction n with
  | zero => intro _; simp [sre, sim]
  | succ n ih =>
    intro hn
    obtain ⟨i1, i2, i3, i4⟩ := ih (by omega)
    obtain ⟨j1, j2, j3, j4⟩ := h n (by omega)
    obtain ⟨k1, k2, k3, k4⟩ := q_bound ((n : Int) * k * way) (a n) (b n) M j1 j2 j3 j4
    have e : ((n + 1 : Nat) : Int) * M = n * M + M := by rw [Int.natCast_add, Int.add_mul]; simp
    rw [e]
    unfold sre sim
    omega

/-- x, y are the bits of the numbers with the parts a, b. -/
def Reps (x y : Nat → Nat) (a b : Nat → Int) (n : Nat) : Prop := ∀ i, i < n → Fl.Rep (x i) (a i) ∧ Fl.Rep (y i) (b i)
def RetC4 (p q : Nat → Int) (w : World) (e : Ending) (w' : World) : Prop := ∃ x y : Nat → Nat, e = .returned (c4 x y) ∧ Reps x y p q 4 ∧ Below w.heap.size w w'
def cx (x y : Nat → Nat) (i : Nat) : Value := .complex .f64 (x i) (y i)

attribute [local go_sem] run_store_complex
set_option maxRecDepth 100000 in
set_option maxHeartbeats 3200000 in
theorem sums_any (x y : Nat → Nat) (a b : Nat → Int) (hr : Reps x y a b 4) (hb : ∀ i, i < 4 → -1125899906842624 ≤ a i ∧ a i ≤ 1125899906842624 ∧ -1125899906842624 ≤ b i ∧ b i ≤ 1125899906842624)
    (way : Int) (hway : way = 1 ∨ way = -1) (w : World) :
    Calls Tryd.prog 46 #[c4 x y, .int .i64 way] w (RetC4 (fun k => sre a b way k 4) (fun k => sim a b way k 4) w) := by
  unfold c4
  have hix := Lib.hid (fun j hj w => idx4 x y j hj w)
  have hsb := Lib.hid (fun (k : Int) n hn => s_bound a b way k 1125899906842624 hb (by decide) n hn)
  have wy0 : -1 ≤ way := by omega
  have wy1 : way ≤ 1 := by omega
  replace hr := Lib.hid hr
  replace hb := Lib.hid hb
  replace hway := Lib.hid hway
  go_enter Tryd.func46, Tryd.ntmps46
  go_wp2_with fail
  go_loopw [9] (fun k wr => ∃ K : Nat, K ≤ 4 ∧ k = .int .i64 K ∧ Row wr w.heap.size 4 (cx x y) ∧ Row wr (w.heap.size + 1) 4 (fun _ => .complex .f64 0 0) ∧ Below w.heap.size w wr ∧
      ∃ X Y : Nat → Nat, Row wr (w.heap.size + 1 + 1) 4 (cx X Y) ∧ Reps X Y (fun k => sre a b way k 4) (fun k => sim a b way k 4) K ∧ ∀ i, K ≤ i → X i = 0 ∧ Y i = 0) (fun k _ => (4 - intOf k).toNat)
  case atStart =>
    refine ⟨0, by omega, rfl, ?_, ?_, ?_, fun _ => 0, fun _ => 0, ?_, fun i hi => by omega, fun i _ => ⟨rfl, rfl⟩⟩
    · exact (Row.alloc (Row.alloc (row_new w _ _ _ 4 (fun i hi => list_four (f := cx x y) i hi)) _) _)
    · have h := row_new (w.alloc (.cells #[cx x y 0, cx x y 1, cx x y 2, cx x y 3] 58)) #[.complex .f64 0 0, .complex .f64 0 0, .complex .f64 0 0, .complex .f64 0 0] 58 (fun _ => .complex .f64 0 0) 4 (fun i hi => list_four (f := fun _ => .complex .f64 0 0) i hi)
      simp at h
      exact h.alloc _
    · repeat' (first | (with_reducible assumption) | (with_reducible exact Below.refl _ _) | (with_reducible refine below_drewN ?_ _) | (with_reducible refine Below.drew ?_) | (with_reducible refine Below.setCell ?_ ?_ _) | (with_reducible refine Below.alloc ?_ ?_ _) | omega | (simp; done) | (simp; omega))
    · have h := row_new ((w.alloc (.cells #[cx x y 0, cx x y 1, cx x y 2, cx x y 3] 58)).alloc (.cells #[.complex .f64 0 0, .complex .f64 0 0, .complex .f64 0 0, .complex .f64 0 0] 58)) #[.complex .f64 0 0, .complex .f64 0 0, .complex .f64 0 0, .complex .f64 0 0] 58 (cx (fun _ => 0) (fun _ => 0)) 4 (fun i hi => list_four (f := cx (fun _ => 0) (fun _ => 0)) i hi)
      simp at h
      exact h
  case round =>
    obtain ⟨K, hK, rfl, r0, r1, hbw, X, Y, r2, hXY, hz⟩ := hrel
    obtain ⟨wo, rfl⟩ : ∃ wo : World, wo = wr := ⟨_, rfl⟩
    have l2 := r2.lt
    by_cases hK4 : K < 4
    · have hd : decide ((K : Int) < 4) = true := by simp; omega
      have b0 := r0.at 0 (by decide)
      have b1 := r0.at 1 (by decide)
      have b2 := r0.at 2 (by decide)
      have b3 := r0.at 3 (by decide)
      unfold cx at b0 b1 b2 b3
      replace r0 := Lib.hid r0
      replace r1 := Lib.hid r1
      replace r2 := Lib.hid r2
      replace hXY := Lib.hid hXY
      replace hz := Lib.hid hz
      go_wp2_with fail
      go_loopw [13] (fun j wi => ∃ J : Nat, J ≤ 4 ∧ j = .int .i64 J ∧ Row wi w.heap.size 4 (cx x y) ∧ Row wi (w.heap.size + 1) 4 (fun _ => .complex .f64 0 0) ∧ Below w.heap.size w wi ∧
          ∃ p q : Nat, Row wi (w.heap.size + 1 + 1) 4 (upd (cx X Y) K (.complex .f64 p q)) ∧ Fl.Rep p (sre a b way K J) ∧ Fl.Rep q (sim a b way K J)) (fun j _ => (4 - intOf j).toNat)
      case atStart =>
        refine ⟨0, by omega, rfl, r0.out, r1.out, hbw, X K, Y K, ?_, ?_, ?_⟩
        · have e : Value.complex .f64 (X K) (Y K) = cx X Y K := rfl
          rw [e, upd_self]
          exact r2.out
        · rw [(hz.out K (Nat.le_refl _)).1]; exact Fl.rep0
        · rw [(hz.out K (Nat.le_refl _)).2]; exact Fl.rep0
      case round =>
        obtain ⟨J, hJ, rfl, s0, s1, hbi, p, q, s2, hp, hq⟩ := hrel
        obtain ⟨wj, rfl⟩ : ∃ wj : World, wj = wr := ⟨_, rfl⟩
        have l3 := s2.lt
        have ck := s2.at K hK4
        have fk := s2.free K hK4
        rw [upd_same] at ck
        clear b0 b1 b2 b3 r0 r1 r2
        by_cases hJ4 : J < 4
        · have hi := fun w => hix.out J hJ4 w
          have e1 : (0 : Int) ≤ (J : Int) * (K : Int) := Int.mul_nonneg (by omega) (by omega)
          have e2 : (J : Int) * (K : Int) ≤ 9 := by
            have := Int.mul_le_mul (show (J : Int) ≤ 3 by omega) (show (K : Int) ≤ 3 by omega) (by omega) (by omega)
            omega
          have e3 : -9 ≤ (J : Int) * (K : Int) * way ∧ (J : Int) * (K : Int) * way ≤ 9 := by
            rcases hway.out with h | h <;> rw [h] <;> omega
          have w1 : IntKind.i64.wrap ((J : Int) * (K : Int)) = (J : Int) * (K : Int) := by rw [IntKind.wrap_i64]; omega
          have w2 : IntKind.i64.wrap ((J : Int) * (K : Int) * way) = (J : Int) * (K : Int) * way := by rw [IntKind.wrap_i64]; omega
          have bj := hb.out J hJ4
          have T := Lib.hid (fun w => turn_yes (hr.out J hJ4).1 (hr.out J hJ4).2 (by omega) (by omega) (by omega) (by omega) ((J : Int) * (K : Int) * way) w)
          have sb1 := hsb.out K J hJ
          have qb := q_bound ((J : Int) * (K : Int) * way) (a J) (b J) 1125899906842624 bj.1 bj.2.1 bj.2.2.1 bj.2.2.2
          have hadd := Lib.hid (fun u v hu hv => Fl.cadd_rep (u := u) (v := v) (c := qre ((J : Int) * (K : Int) * way) (a J) (b J)) (d := qim ((J : Int) * (K : Int) * way) (a J) (b J)) hp hq hu hv (by omega) (by omega))
          have hK0 : (0 : Int) ≤ (K : Int) := by omega
          have hK1 : (K : Int) < 4 := by omega
          replace s0 := Lib.hid s0
          replace s1 := Lib.hid s1
          replace s2 := Lib.hid s2
          replace hp := Lib.hid hp
          replace hq := Lib.hid hq
          clear sb1 qb bj e1 e2 e3
          have ef : Value.complex .f64 (X K) (Y K) = cx X Y K := rfl
          go_wp2_with fail
          go_region_with (first | (go_at_call 56; (with_reducible refine (T.out _).mono ?_); rintro e w3 ⟨u, v, rfl, hu, hv, hb3⟩; have t0 := (show Row _ _ _ _ from s0.out).drew.beyond hb3; have t1 := (show Row _ _ _ _ from s1.out).drew.beyond hb3; have t2 := (show Row _ _ _ _ from s2.out).drew.beyond hb3; have tc := t2.at K hK4; rw [upd_same] at tc; have tf := t2.free K hK4; have tl := t2.lt; have tw : Below w.heap.size w w3 := Below.trans (by repeat' (first | (with_reducible assumption) | (with_reducible exact Below.refl _ _) | (with_reducible refine below_drewN ?_ _) | (with_reducible refine Below.drew ?_) | (with_reducible refine Below.setCell ?_ ?_ _) | (with_reducible refine Below.alloc ?_ ?_ _) | omega | (simp; done) | (simp; omega))) (hb3.mono (by simp; omega)); obtain ⟨re, im, hm, hre, him⟩ := hadd.out u v hu hv; have r1 := fun w => run_complex_sum (P := Tryd.prog) w .add (.inl rfl) 57 .f64 p q u v re im hm; replace hre := Lib.hid hre; replace him := Lib.hid him; replace t0 := Lib.hid t0; replace t1 := Lib.hid t1; replace t2 := Lib.hid t2; clear hb3 hm))
          all_goals
            go_wp2_with fail
            go_roundw
            case measure => simp [intOf]; omega
            case rel =>
              have q2 := t2.out.set K hK4 (.complex .f64 re im)
              rw [upd_upd] at q2
              exact ⟨J + 1, by omega, by go_num, t0.out.setOther _ (by show w.heap.size + 1 + 1 ≠ w.heap.size; omega) _, t1.out.setOther _ (by show w.heap.size + 1 + 1 ≠ w.heap.size + 1; omega) _, tw.setCell (by show w.heap.size ≤ w.heap.size + 1 + 1; omega) _, re, im, q2, hre.out, him.out⟩
        · have hJe : J = 4 := by omega
          rw [hJe] at hp hq
          have s3 : Row wj (w.heap.size + 1 + 1) 4 (cx (fun i => if i = K then p else X i) (fun i => if i = K then q else Y i)) := s2.congr (fun i hi => by
            unfold upd cx
            by_cases hik : i = K
            · simp only [if_pos hik]
            · simp only [if_neg hik])
          replace s0 := Lib.hid s0
          replace s1 := Lib.hid s1
          replace s2 := Lib.hid s2
          replace s3 := Lib.hid s3
          replace hp := Lib.hid hp
          replace hq := Lib.hid hq
          replace hJe := Lib.hid hJe
          clear ck fk
          go_wp2_with fail
          go_roundw
          case measure => simp [intOf]; omega
          case rel =>
            refine ⟨K + 1, by omega, by go_num, s0.out, s1.out, hbi, _, _, s3.out, fun i hi => ?_, fun i hi => ?_⟩
            · by_cases hik : i = K
              · subst hik
                simp only [if_pos rfl]
                exact ⟨hp.out, hq.out⟩
              · simp only [if_neg hik]
                exact hXY.out i (by omega)
            · have hik : ¬ i = K := by omega
              simp only [if_neg hik]
              exact hz.out i (by omega)
    · have hKe : K = 4 := by omega
      rw [hKe] at hXY
      have b0 := r2.at 0 (by decide)
      have b1 := r2.at 1 (by decide)
      have b2 := r2.at 2 (by decide)
      have b3 := r2.at 3 (by decide)
      unfold cx at b0 b1 b2 b3
      have d0 := r1.at 0 (by decide)
      have d1 := r1.at 1 (by decide)
      have d2 := r1.at 2 (by decide)
      have d3 := r1.at 3 (by decide)
      have f0 := r1.free 0 (by decide)
      have f1 := r1.free 1 (by decide)
      have f2 := r1.free 2 (by decide)
      have f3 := r1.free 3 (by decide)
      replace hXY := Lib.hid hXY
      replace hKe := Lib.hid hKe
      clear r0 r1 r2 hz
      go_wp2_with fail
      refine bodyPost_ret (v := c4 X Y) (by unfold c4; simp (maxDischargeDepth := 6) [results, Tryd.results46, go_sem, *]) rfl ?_
      exact ⟨X, Y, rfl, hXY.out, by repeat' (first | (with_reducible assumption) | (with_reducible exact Below.refl _ _) | (with_reducible refine below_drewN ?_ _) | (with_reducible refine Below.drew ?_) | (with_reducible refine Below.setCell ?_ ?_ _) | (with_reducible refine Below.alloc ?_ ?_ _) | omega | (simp; done) | (simp; omega))⟩
end Go.Proofs.YtogmmhacjndebaaDoor
