/- Law 8: WaveFour. No condition. -/
import Derived.Test.YtimgmobpgbekjaaWv8c
namespace Go.Proofs.Ytimgmobpgbekjaa
open Go.RowKit
attribute [local irreducible] Fl.K
def Wf8 (l : Nat → Int) : Prop := ∀ i, i < 8 → -9223372036854775808 ≤ l i ∧ l i ≤ 9223372036854775807
theorem fitB_Fit (l : Nat → Int) : fitB l 4 = true ↔ Fit (ev l) (od l) := by
  rw [fitB_iff]
  constructor
  · intro h i hi
    obtain ⟨⟨a, b⟩, c, d⟩ := h i hi
    exact ⟨a, b, c, d⟩
  · intro h i hi
    obtain ⟨a, b, c, d⟩ := h i hi
    exact ⟨⟨a, b⟩, c, d⟩
theorem fitB_not {l : Nat → Int} (h : ¬ Fit (ev l) (od l)) : fitB l 4 = false := by
  rw [← Bool.not_eq_true, fitB_Fit]
  exact h
theorem mxy_reps {l : Nat → Int} (h : Fit (ev l) (od l)) : Reps (mx l 4) (my l 4) (ev l) (od l) 4 := fun i hi => by
  obtain ⟨a, b, c, d⟩ := h i hi
  unfold mx my
  rw [if_pos hi, if_pos hi]
  exact ⟨Fl.rep_ofInt (ev l i) (by omega), Fl.rep_ofInt (od l i) (by omega)⟩
theorem w50_in {n : Int} (h0 : -9223372036854775808 ≤ n) (h1 : n ≤ 9223372036854775807) (h : W50 (floatOfInt .f64 n) = true) : -1125899906842624 ≤ n ∧ n ≤ 1125899906842624 := by
  obtain ⟨m, hm, hc⟩ := Fl.rep_any n h0 h1
  obtain ⟨m', hm', hb⟩ := (W50_iff _).1 h
  have e := Fl.rep_inj hm hm'
  subst e
  rcases hc with rfl | ⟨hc, _⟩
  · exact hb
  · omega
theorem mxy_not {l : Nat → Int} (hl : Wf8 l) (h : ¬ Fit (ev l) (od l)) : ¬ fitTo (mx l 4) (my l 4) 4 := fun hf => h fun i hi => by
  have h1 := hf i hi
  unfold mx my at h1
  rw [if_pos hi, if_pos hi, Bool.and_eq_true] at h1
  obtain ⟨a, b⟩ := w50_in (hl (2 * i) (by omega)).1 (hl (2 * i) (by omega)).2 h1.1
  obtain ⟨c, d⟩ := w50_in (hl (2 * i + 1) (by omega)).1 (hl (2 * i + 1) (by omega)).2 h1.2
  exact ⟨a, b, c, d⟩
theorem eight_at {w : World} {b : Nat} {l : Nat → Int} (r : Row w b 8 (oi l)) : w.cell? ⟨b, 0, none⟩ = some (.int .i64 (l 0)) ∧ w.cell? ⟨b, 1, none⟩ = some (.int .i64 (l 1)) ∧ w.cell? ⟨b, 2, none⟩ = some (.int .i64 (l 2)) ∧ w.cell? ⟨b, 3, none⟩ = some (.int .i64 (l 3)) ∧ w.cell? ⟨b, 4, none⟩ = some (.int .i64 (l 4)) ∧ w.cell? ⟨b, 5, none⟩ = some (.int .i64 (l 5)) ∧ w.cell? ⟨b, 6, none⟩ = some (.int .i64 (l 6)) ∧ w.cell? ⟨b, 7, none⟩ = some (.int .i64 (l 7)) :=
  ⟨r.at 0 (by decide), r.at 1 (by decide), r.at 2 (by decide), r.at 3 (by decide), r.at 4 (by decide), r.at 5 (by decide), r.at 6 (by decide), r.at 7 (by decide)⟩
attribute [local go_sem] run_store_complex
set_option maxRecDepth 100000 in
set_option maxHeartbeats 3200000 in
theorem waveFour_fit (l : Nat → Int) (hF : Fit (ev l) (od l)) (w : World) : Calls Try.prog 9 #[c8 .i64 l] w fun e w' => e = .returned (.bool true) ∧ Below w.heap.size w w' := by
  unfold c8
  have R8 := Lib.hid (row8 w l 44)
  have AW := Lib.hid awake8_true
  have M := Lib.hid (made_any l)
  unfold c8 at M
  go_enter Try.func9, Try.ntmps9
  go_wp2_with fail
  with_reducible refine (AW.out _).mono ?_
  rintro e w1 ⟨rfl, hb1⟩
  have r1 := R8.out.beyond hb1
  have hw1 : Below w.heap.size w w1 := Below.trans (by repeat' (first | (with_reducible assumption) | (with_reducible exact Below.refl _ _) | (with_reducible refine below_drewN ?_ _) | (with_reducible refine Below.drew ?_) | (with_reducible refine Below.setCell ?_ ?_ _) | (with_reducible refine Below.alloc ?_ ?_ _) | omega | (simp; done) | (simp; omega))) (hb1.mono (by simp))
  have hz1 := hw1.size
  obtain ⟨b0, b1, b2, b3, b4, b5, b6, b7⟩ := eight_at r1
  replace r1 := Lib.hid r1
  clear hb1 R8
  go_wp2_with fail
  with_reducible refine (M.out _).mono ?_
  rintro e w2 ⟨rfl, hb2⟩
  have r2 := r1.out.beyond hb2
  have hw2 := hw1.trans (hb2.mono hz1)
  have hz2 := hw2.size
  have l2 := r2.lt
  clear hb2 b0 b1 b2 b3 b4 b5 b6 b7 r1
  have F := Lib.hid (fun w => four_yes (mx l 4) (my l 4) (ev l) (od l) (mxy_reps hF) hF w)
  have SB := Lib.hid (fun (k : Int) n hn => s_bound (ev l) (od l) 1 k 1125899906842624 hF (by decide) n hn)
  have SS := Lib.hid (fun (k : Int) k0 k1 w => sum_any l hF k k0 k1 1 (.inl rfl) w)
  unfold c8 at SS
  unfold c4 at F
  rw [(fitB_Fit l).2 hF]
  clear hF
  replace r2 := Lib.hid r2
  unfold c4
  go_wp2_with fail
  with_reducible refine (F.out _).mono ?_
  rintro e w3 ⟨X, Y, rfl, hR, hb3⟩
  have r3 := (r2.out.alloc _).beyond hb3
  have hw3 : Below w.heap.size w w3 := Below.trans (by repeat' (first | (with_reducible assumption) | (with_reducible exact Below.refl _ _) | (with_reducible refine below_drewN ?_ _) | (with_reducible refine Below.drew ?_) | (with_reducible refine Below.setCell ?_ ?_ _) | (with_reducible refine Below.alloc ?_ ?_ _) | omega | (simp; done) | (simp; omega))) (hb3.mono (by simp; omega))
  have hz3 := hw3.size
  have l3 := r3.lt
  clear hb3 r2 F
  replace hR := Lib.hid hR
  replace r3 := Lib.hid r3
  unfold c4
  go_wp2_with fail
  go_loopw [6] (fun k wr => ∃ K : Nat, K ≤ 4 ∧ k = .int .i64 K ∧ Row wr w.heap.size 8 (oi l) ∧ Row wr w3.heap.size 4 (cx X Y) ∧ Below w.heap.size w wr) (fun k _ => (4 - intOf k).toNat)
  case atStart => exact ⟨0, by omega, rfl, r3.out.alloc _, row_new w3 _ _ (cx X Y) 4 (fun i hi => list_four (f := cx X Y) i hi), hw3.alloc hz3 _⟩
  case round =>
    obtain ⟨K, hK, rfl, s1, s2, hbw⟩ := hrel
    obtain ⟨wo, rfl⟩ : ∃ wo : World, wo = wr := ⟨_, rfl⟩
    have hzo := hbw.size
    by_cases hK4 : K < 4
    · have hd1 : decide ((K : Int) < 4) = true := by simp; omega
      have hK0 : (0 : Int) ≤ (K : Int) := by omega
      have hK1 : (K : Int) < 4 := by omega
      have hp : Fl.Rep (X K) (sre (ev l) (od l) 1 (K : Int) 4) := (hR.out K hK4).1
      have hq : Fl.Rep (Y K) (sim (ev l) (od l) 1 (K : Int) 4) := (hR.out K hK4).2

      obtain ⟨m1, m2, m3, m4⟩ := SB.out K 4 (by decide)
      have PP := Lib.hid (fun w => parts_yes hp hq (by omega) (by omega) (by omega) (by omega) w)
      have SK := Lib.hid (SS.out K hK0 hK1)
      clear hp hq m1 m2 m3 m4
      generalize sre (ev l) (od l) 1 (K : Int) 4 = P at *
      generalize sim (ev l) (od l) 1 (K : Int) 4 = Q at *
      obtain ⟨b0, b1, b2, b3, b4, b5, b6, b7⟩ := eight_at s1
      replace s1 := Lib.hid s1
      replace s2 := Lib.hid s2
      go_wp2_with fail
      with_reducible refine (SK.out _).mono ?_
      rintro e w4 ⟨rfl, hb4⟩
      have t1 := s1.out.beyond hb4
      have t2 := s2.out.beyond hb4
      have hw4 := hbw.trans (hb4.mono hzo)
      have hz4 := hw4.size
      clear hb4 b0 b1 b2 b3 b4 b5 b6 b7 s1 s2
      have ex := t2.at K hK4
      unfold cx at ex
      replace t1 := Lib.hid t1
      replace t2 := Lib.hid t2

      go_wp2_with fail
      with_reducible refine (PP.out _).mono ?_
      rintro e w5 ⟨rfl, hb5⟩
      have v1 := t1.out.beyond hb5
      have v2 := t2.out.beyond hb5
      have hw5 := hw4.trans (hb5.mono hz4)
      clear hb5
      replace v1 := Lib.hid v1
      replace v2 := Lib.hid v2
      go_wp2_with fail
      go_roundw
      case measure => simp [intOf]; omega
      case rel => exact ⟨K + 1, by omega, by go_num, v1.out, v2.out, hw5⟩
    · have hKe : K = 4 := by omega
      replace s1 := Lib.hid s1
      replace s2 := Lib.hid s2
      go_wp2_with fail
      go_ret
      exact ⟨rfl, hbw⟩
set_option maxRecDepth 100000 in
set_option maxHeartbeats 3200000 in
theorem waveFour_unfit (l : Nat → Int) (hl : Wf8 l) (hF : ¬ Fit (ev l) (od l)) (w : World) : Calls Try.prog 9 #[c8 .i64 l] w fun e w' => e = .returned (.bool true) ∧ Below w.heap.size w w' := by
  unfold c8
  have R8 := Lib.hid (row8 w l 44)
  have AW := Lib.hid awake8_true
  have M := Lib.hid (made_any l)
  unfold c8 at M
  go_enter Try.func9, Try.ntmps9
  go_wp2_with fail
  with_reducible refine (AW.out _).mono ?_
  rintro e w1 ⟨rfl, hb1⟩
  have r1 := R8.out.beyond hb1
  have hw1 : Below w.heap.size w w1 := Below.trans (by repeat' (first | (with_reducible assumption) | (with_reducible exact Below.refl _ _) | (with_reducible refine below_drewN ?_ _) | (with_reducible refine Below.drew ?_) | (with_reducible refine Below.setCell ?_ ?_ _) | (with_reducible refine Below.alloc ?_ ?_ _) | omega | (simp; done) | (simp; omega))) (hb1.mono (by simp))
  have hz1 := hw1.size
  obtain ⟨b0, b1, b2, b3, b4, b5, b6, b7⟩ := eight_at r1
  replace r1 := Lib.hid r1
  clear hb1 R8
  go_wp2_with fail
  with_reducible refine (M.out _).mono ?_
  rintro e w2 ⟨rfl, hb2⟩
  have r2 := r1.out.beyond hb2
  have hw2 := hw1.trans (hb2.mono hz1)
  have hz2 := hw2.size
  have l2 := r2.lt
  clear hb2 b0 b1 b2 b3 b4 b5 b6 b7 r1
  have F := Lib.hid (fun w => four_no (mx l 4) (my l 4) (mxy_not hl hF) w)
  skip
  skip
  skip
  unfold c4 at F
  rw [fitB_not hF]
  clear hF
  replace r2 := Lib.hid r2
  unfold c4
  go_wp2_with fail
  with_reducible refine (F.out _).mono ?_
  rintro e w3 ⟨X, Y, rfl, hR, hb3⟩
  have r3 := (r2.out.alloc _).beyond hb3
  have hw3 : Below w.heap.size w w3 := Below.trans (by repeat' (first | (with_reducible assumption) | (with_reducible exact Below.refl _ _) | (with_reducible refine below_drewN ?_ _) | (with_reducible refine Below.drew ?_) | (with_reducible refine Below.setCell ?_ ?_ _) | (with_reducible refine Below.alloc ?_ ?_ _) | omega | (simp; done) | (simp; omega))) (hb3.mono (by simp; omega))
  have hz3 := hw3.size
  have l3 := r3.lt
  clear hb3 r2 F
  replace hR := Lib.hid hR
  replace r3 := Lib.hid r3
  unfold c4
  go_wp2_with fail
  go_loopw [6] (fun k wr => ∃ K : Nat, K ≤ 4 ∧ k = .int .i64 K ∧ Row wr w.heap.size 8 (oi l) ∧ Row wr w3.heap.size 4 (cx X Y) ∧ Below w.heap.size w wr) (fun k _ => (4 - intOf k).toNat)
  case atStart => exact ⟨0, by omega, rfl, r3.out.alloc _, row_new w3 _ _ (cx X Y) 4 (fun i hi => list_four (f := cx X Y) i hi), hw3.alloc hz3 _⟩
  case round =>
    obtain ⟨K, hK, rfl, s1, s2, hbw⟩ := hrel
    obtain ⟨wo, rfl⟩ : ∃ wo : World, wo = wr := ⟨_, rfl⟩
    have hzo := hbw.size
    by_cases hK4 : K < 4
    · have hd1 : decide ((K : Int) < 4) = true := by simp; omega
      have hK0 : (0 : Int) ≤ (K : Int) := by omega
      have hK1 : (K : Int) < 4 := by omega
      have hp : Fl.Rep (X K) (0) := (hR.out K hK4).1
      have hq : Fl.Rep (Y K) (0) := (hR.out K hK4).2

      have PP := Lib.hid (fun w => parts_yes hp hq (by decide) (by decide) (by decide) (by decide) w)
      clear hp hq
      have ex := s2.at K hK4
      unfold cx at ex
      have t1 := Lib.hid s1
      have t2 := Lib.hid s2
      have hw4 := hbw
      have hz4 := hzo
      clear s1 s2

      go_wp2_with fail
      with_reducible refine (PP.out _).mono ?_
      rintro e w5 ⟨rfl, hb5⟩
      have v1 := t1.out.beyond hb5
      have v2 := t2.out.beyond hb5
      have hw5 := hw4.trans (hb5.mono hz4)
      clear hb5
      replace v1 := Lib.hid v1
      replace v2 := Lib.hid v2
      go_wp2_with fail
      go_roundw
      case measure => simp [intOf]; omega
      case rel => exact ⟨K + 1, by omega, by go_num, v1.out, v2.out, hw5⟩
    · have hKe : K = 4 := by omega
      replace s1 := Lib.hid s1
      replace s2 := Lib.hid s2
      go_wp2_with fail
      go_ret
      exact ⟨rfl, hbw⟩
theorem waveFour_walk (l : Nat → Int) (w : World) (hl : Wf8 l) : Calls Try.prog 9 #[c8 .i64 l] w fun e w' => e = .returned (.bool true) ∧ Below w.heap.size w w' := by
  by_cases hF : Fit (ev l) (od l)
  · exact waveFour_fit l hF w
  · exact waveFour_unfit l hl hF w
end Go.Proofs.Ytimgmobpgbekjaa
