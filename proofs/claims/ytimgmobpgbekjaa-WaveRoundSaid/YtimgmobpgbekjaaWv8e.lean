/- Law 8: WaveBack. No condition. -/
import Derived.Test.YtimgmobpgbekjaaWv8d
namespace Go.Proofs.Ytimgmobpgbekjaa
open Go.RowKit
attribute [local irreducible] Fl.K
def pL (l : Nat → Int) (k : Nat) : Int := sre (ev l) (od l) (-1) k 4
def qL (l : Nat → Int) (k : Nat) : Int := sim (ev l) (od l) (-1) k 4
def wF (p q : Nat → Int) (K i : Nat) : Int := if i < 2 * K then (if i % 2 = 0 then (p (i / 2)).tdiv 4 else (q (i / 2)).tdiv 4) else 0
theorem wF_step (p q : Nat → Int) (K i : Nat) : upd (upd (oi (wF p q K)) (2 * K) (.int .i64 ((p K).tdiv 4))) (2 * K + 1) (.int .i64 ((q K).tdiv 4)) i = oi (wF p q (K + 1)) i := by
  unfold upd oi wF
  by_cases h1 : i = 2 * K + 1
  · subst h1
    rw [if_pos rfl, if_pos (by omega), if_neg (by omega), show (2 * K + 1) / 2 = K from by omega]
  · rw [if_neg h1]
    by_cases h2 : i = 2 * K
    · subst h2
      rw [if_pos rfl, if_pos (by omega), if_pos (by omega), show 2 * K / 2 = K from by omega]
    · rw [if_neg h2]
      by_cases h3 : i < 2 * K
      · rw [if_pos h3, if_pos (show i < 2 * (K + 1) by omega)]
      · rw [if_neg h3, if_neg (show ¬ i < 2 * (K + 1) by omega)]
theorem want_at {w : World} {b : Nat} {p q : Nat → Int} (r : Row w b 8 (oi (wF p q 4))) (K : Nat) (hK : K < 4) : w.cell? ⟨b, 2 * K, none⟩ = some (.int .i64 ((p K).tdiv 4)) ∧ w.cell? ⟨b, 2 * K + 1, none⟩ = some (.int .i64 ((q K).tdiv 4)) := by
  have h1 := r.at (2 * K) (by omega)
  have h2 := r.at (2 * K + 1) (by omega)
  unfold oi wF at h1 h2
  rw [if_pos (by omega), if_pos (by omega), show 2 * K / 2 = K from by omega] at h1
  rw [if_pos (by omega), if_neg (by omega), show (2 * K + 1) / 2 = K from by omega] at h2
  exact ⟨h1, h2⟩
theorem back_ans (l : Nat → Int) (hF : Fit (ev l) (od l)) (hd : divTo (pL l) (qL l) 4) (w : World) : Calls Try.prog 30 #[c4 (mx l 4) (my l 4)] w (RetB true (dq true (pL l)) (dq true (qL l)) w) :=
  back_fit (mx l 4) (my l 4) (ev l) (od l) (pL l) (qL l) (mxy_reps hF) hF (fun _ _ => ⟨rfl, rfl⟩) true ⟨fun _ => hd, fun _ => rfl⟩ w
theorem back_none (l : Nat → Int) (hl : Wf8 l) (h : ¬ (Fit (ev l) (od l) ∧ divTo (pL l) (qL l) 4)) (w : World) : Calls Try.prog 30 #[c4 (mx l 4) (my l 4)] w (RetB false (fun _ => 0) (fun _ => 0) w) := by
  by_cases hF : Fit (ev l) (od l)
  · exact back_fit (mx l 4) (my l 4) (ev l) (od l) (pL l) (qL l) (mxy_reps hF) hF (fun _ _ => ⟨rfl, rfl⟩) false ⟨fun h' => (by cases h'), fun h' => absurd ⟨hF, h'⟩ h⟩ w
  · exact back_unfit (mx l 4) (my l 4) (mxy_not hl hF) w
def BInv (l : Nat → Int) (B : Bool) (K : Nat) : Prop := (B = true → Fit (ev l) (od l) ∧ divTo (pL l) (qL l) K) ∧ (B = false → ¬ (Fit (ev l) (od l) ∧ divTo (pL l) (qL l) 4))
theorem binv0 (l : Nat → Int) : BInv l (fitB l 4) 0 := by
  refine ⟨fun h => ⟨(fitB_Fit l).1 h, fun i hi => by omega⟩, fun h hc => ?_⟩
  rw [(fitB_Fit l).2 hc.1] at h
  cases h
theorem binv_yes {l : Nat → Int} {K : Nat} (h : BInv l true K) (h1 : (pL l K).tmod 4 = 0) (h2 : (qL l K).tmod 4 = 0) : BInv l true (K + 1) := by
  refine ⟨fun _ => ⟨(h.1 rfl).1, fun i hi => ?_⟩, fun h' => by cases h'⟩
  by_cases hik : i < K
  · exact (h.1 rfl).2 i hik
  · obtain rfl : i = K := by omega
    exact ⟨h1, h2⟩
theorem binv_no {l : Nat → Int} {K : Nat} (hK : K < 4) (h1 : ¬ ((pL l K).tmod 4 = 0 ∧ (qL l K).tmod 4 = 0)) : BInv l false (K + 1) :=
  ⟨fun h' => (by cases h'), fun _ hc => h1 (hc.2 K hK)⟩
theorem zeros8 (w : World) (t : TypeId) (p q : Nat → Int) : Row (w.alloc (.cells #[.int .i64 0, .int .i64 0, .int .i64 0, .int .i64 0, .int .i64 0, .int .i64 0, .int .i64 0, .int .i64 0] t)) w.heap.size 8 (oi (wF p q 0)) :=
  row_new w _ t _ 8 (fun i hi => by
    match i, hi with
    | 0, _ => rfl
    | 1, _ => rfl
    | 2, _ => rfl
    | 3, _ => rfl
    | 4, _ => rfl
    | 5, _ => rfl
    | 6, _ => rfl
    | 7, _ => rfl)
attribute [local go_sem] run_store_complex
set_option maxRecDepth 100000 in
set_option maxHeartbeats 6400000 in
theorem waveBack_walk (l : Nat → Int) (w : World) (hl : Wf8 l) : Calls Try.prog 10 #[c8 .i64 l] w fun e w' => e = .returned (.bool true) ∧ Below w.heap.size w w' := by
  unfold c8
  have R8 := Lib.hid (row8 w l 44)
  have AW := Lib.hid awake8_true
  have M := Lib.hid (made_any l)
  unfold c8 at M
  go_enter Try.func10, Try.ntmps10
  go_wp2_with fail
  with_reducible refine (AW.out _).mono ?_
  rintro e w1 ⟨rfl, hb1⟩
  have r1 := R8.out.beyond hb1
  have hw1 : Below w.heap.size w w1 := Below.trans (by repeat' (first | (with_reducible assumption) | (with_reducible exact Below.refl _ _) | (with_reducible refine below_drewN ?_ _) | (with_reducible refine Below.drew ?_) | (with_reducible refine Below.setCell ?_ ?_ _) | (with_reducible refine Below.alloc ?_ ?_ _) | omega | (simp; done) | (simp; omega))) (hb1.mono (by simp))
  have hz1 := hw1.size
  obtain ⟨b0, b1, b2, b3, b4, b5, b6, b7⟩ := eight_at r1
  replace r1 := Lib.hid r1
  clear hb1 R8
  go_wp2_with fail
  with_reducible refine (M.out _).mono ?_
  rintro e w2 ⟨rfl, hb2⟩
  have r2 := r1.out.beyond hb2
  have hw2 := hw1.trans (hb2.mono hz1)
  have hz2 := hw2.size
  have l2 := r2.lt
  clear hb2 b0 b1 b2 b3 b4 b5 b6 b7 r1
  have hB0 := Lib.hid (binv0 l)
  generalize fitB l 4 = B0 at *
  have BA := Lib.hid (back_ans l)
  have BN := Lib.hid (back_none l hl)
  unfold c4 at BA BN ⊢
  have r4 := row_new w2 #[.complex .f64 (mx l 4 0) (my l 4 0), .complex .f64 (mx l 4 1) (my l 4 1), .complex .f64 (mx l 4 2) (my l 4 2), .complex .f64 (mx l 4 3) (my l 4 3)] 45 (cx (mx l 4) (my l 4)) 4 (fun i hi => list_four (f := cx (mx l 4) (my l 4)) i hi)
  have r6 := zeros8 (w2.alloc (.cells #[.complex .f64 (mx l 4 0) (my l 4 0), .complex .f64 (mx l 4 1) (my l 4 1), .complex .f64 (mx l 4 2) (my l 4 2), .complex .f64 (mx l 4 3) (my l 4 3)] 45)) 44 (pL l) (qL l)
  simp only [World.size_alloc] at r6
  replace r2 := Lib.hid r2
  replace r4 := Lib.hid r4
  replace r6 := Lib.hid r6
  go_wp2_with fail
  go_loopw [4, 6] (fun b k wr => ∃ K : Nat, K ≤ 4 ∧ k = .int .i64 K ∧ ∃ B, b = .bool B ∧ Hid (BInv l B K) ∧ Row wr w.heap.size 8 (oi l) ∧ Row wr w2.heap.size 4 (cx (mx l 4) (my l 4)) ∧ Row wr (w2.heap.size + 1) 8 (oi (wF (pL l) (qL l) K)) ∧ Below w.heap.size w wr) (fun _ k _ => (4 - intOf k).toNat)
  case atStart => exact ⟨0, by omega, rfl, B0, rfl, hB0, (r2.out.alloc _).alloc _, r4.out.alloc _, r6.out, (hw2.alloc hz2 _).alloc (by simp; omega) _⟩
  case round =>
    obtain ⟨K, hK, rfl, B, rfl, hB, r1, r3, r5, hbw⟩ := hrel
    obtain ⟨wo, rfl⟩ : ∃ wo : World, wo = wr := ⟨_, rfl⟩
    have hzo := hbw.size
    have n1 := Lib.hid (show w2.heap.size + 1 ≠ w.heap.size by omega)
    have n3 := Lib.hid (show w2.heap.size + 1 ≠ w2.heap.size by omega)
    clear r2 r4 r6
    cases B
    · have BK := Lib.hid (BN.out (hB.out.2 rfl))
      clear hB BA BN
      obtain ⟨K0, rfl⟩ : ∃ K0 : Nat, K0 = K := ⟨_, rfl⟩
      by_cases hKx : K0 < 4
      · have hd0 : decide ((K0 : Int) < 4) = true := by simp; omega
        obtain ⟨b0, b1, b2, b3⟩ := cells_at r3
        replace r1 := Lib.hid r1
        replace r3 := Lib.hid r3
        replace r5 := Lib.hid r5
        go_wp2_with fail
        with_reducible refine (BK.out _).mono ?_
        rintro e w5 ⟨X, Y, rfl, hR, hb5⟩
        have v5 := r5.out.beyond hb5
        have lv := v5.lt
        have hw5 := hbw.trans (hb5.mono hzo)
        have hz5 := hw5.size
        clear hb5 b0 b1 b2 b3 r1 r3 r5
        replace hR := Lib.hid hR
        replace v5 := Lib.hid v5
        unfold c4
        go_wp2_with fail
        go_loopw [11] (fun k wr => ∃ K : Nat, K ≤ 4 ∧ k = .int .i64 K ∧ Row wr (w2.heap.size + 1) 8 (oi (wF (pL l) (qL l) K0)) ∧ Row wr w5.heap.size 4 (cx X Y) ∧ Below w.heap.size w wr) (fun k _ => (4 - intOf k).toNat)
        case atStart => exact ⟨0, by omega, rfl, v5.out.alloc _, row_new w5 _ _ (cx X Y) 4 (fun i hi => list_four (f := cx X Y) i hi), hw5.alloc hz5 _⟩
        case round =>
          obtain ⟨K, hK, rfl, s1, s2, hbw⟩ := hrel
          obtain ⟨wp, rfl⟩ : ∃ wp : World, wp = wr := ⟨_, rfl⟩
          have hzp := hbw.size
          by_cases hK4 : K < 4
          · have hd1 : decide ((K : Int) < 4) = true := by simp; omega
            have hK0 : (0 : Int) ≤ (K : Int) := by omega
            have hK1 : (K : Int) < 4 := by omega
            have ex := s2.at K hK4
            unfold cx at ex

            have PP := Lib.hid (fun w => parts_yes (hR.out K hK4).1 (hR.out K hK4).2 (by simp) (by simp) (by simp) (by simp) w)
            replace s1 := Lib.hid s1
            replace s2 := Lib.hid s2
            go_wp2_with fail
            with_reducible refine (PP.out _).mono ?_
            rintro e w6 ⟨rfl, hb6⟩
            have u1 := s1.out.beyond hb6
            have u2 := s2.out.beyond hb6
            have hw6 := hbw.trans (hb6.mono hzp)
            clear hb6
            replace u1 := Lib.hid u1
            replace u2 := Lib.hid u2

            go_wp2_with fail
            go_roundw
            case measure => simp [intOf]; omega
            case rel => exact ⟨K + 1, by omega, by go_num, u1.out, u2.out, hw6⟩
          · have hKe : K = 4 := by omega
            replace s1 := Lib.hid s1
            replace s2 := Lib.hid s2
            go_wp2_with fail
            go_ret
            exact ⟨rfl, hbw⟩
      · have hd0 : decide ((K0 : Int) < 4) = false := by simp; omega
        obtain ⟨b0, b1, b2, b3⟩ := cells_at r3
        replace r1 := Lib.hid r1
        replace r3 := Lib.hid r3
        replace r5 := Lib.hid r5
        go_wp2_with fail
        with_reducible refine (BK.out _).mono ?_
        rintro e w5 ⟨X, Y, rfl, hR, hb5⟩
        have v5 := r5.out.beyond hb5
        have lv := v5.lt
        have hw5 := hbw.trans (hb5.mono hzo)
        have hz5 := hw5.size
        clear hb5 b0 b1 b2 b3 r1 r3 r5
        replace hR := Lib.hid hR
        replace v5 := Lib.hid v5
        unfold c4
        go_wp2_with fail
        go_loopw [11] (fun k wr => ∃ K : Nat, K ≤ 4 ∧ k = .int .i64 K ∧ Row wr (w2.heap.size + 1) 8 (oi (wF (pL l) (qL l) K0)) ∧ Row wr w5.heap.size 4 (cx X Y) ∧ Below w.heap.size w wr) (fun k _ => (4 - intOf k).toNat)
        case atStart => exact ⟨0, by omega, rfl, v5.out.alloc _, row_new w5 _ _ (cx X Y) 4 (fun i hi => list_four (f := cx X Y) i hi), hw5.alloc hz5 _⟩
        case round =>
          obtain ⟨K, hK, rfl, s1, s2, hbw⟩ := hrel
          obtain ⟨wp, rfl⟩ : ∃ wp : World, wp = wr := ⟨_, rfl⟩
          have hzp := hbw.size
          by_cases hK4 : K < 4
          · have hd1 : decide ((K : Int) < 4) = true := by simp; omega
            have hK0 : (0 : Int) ≤ (K : Int) := by omega
            have hK1 : (K : Int) < 4 := by omega
            have ex := s2.at K hK4
            unfold cx at ex

            have PP := Lib.hid (fun w => parts_yes (hR.out K hK4).1 (hR.out K hK4).2 (by simp) (by simp) (by simp) (by simp) w)
            replace s1 := Lib.hid s1
            replace s2 := Lib.hid s2
            go_wp2_with fail
            with_reducible refine (PP.out _).mono ?_
            rintro e w6 ⟨rfl, hb6⟩
            have u1 := s1.out.beyond hb6
            have u2 := s2.out.beyond hb6
            have hw6 := hbw.trans (hb6.mono hzp)
            clear hb6
            replace u1 := Lib.hid u1
            replace u2 := Lib.hid u2

            go_wp2_with fail
            go_roundw
            case measure => simp [intOf]; omega
            case rel => exact ⟨K + 1, by omega, by go_num, u1.out, u2.out, hw6⟩
          · have hKe : K = 4 := by omega
            replace s1 := Lib.hid s1
            replace s2 := Lib.hid s2
            go_wp2_with fail
            go_ret
            exact ⟨rfl, hbw⟩
    · have hF := (hB.out.1 rfl).1
      have SB : Hid (∀ k : Nat, -4503599627370496 ≤ pL l k ∧ pL l k ≤ 4503599627370496 ∧ -4503599627370496 ≤ qL l k ∧ qL l k ≤ 4503599627370496) := Lib.hid (fun k => by
        have h := s_bound (ev l) (od l) (-1) k 1125899906842624 hF (by decide) 4 (by decide)
        unfold pL qL
        omega)
      by_cases hK4 : K < 4
      · have hd1 : decide ((K : Int) < 4) = true := by simp; omega
        have hK0 : (0 : Int) ≤ (K : Int) := by omega
        have hK1 : (K : Int) < 4 := by omega
        have SK : Hid (∀ w, Calls Try.prog 29 #[c8 .i64 l, .int .i64 K, .int .i64 (-1)] w fun e w' => e = .returned (.tuple #[.int .i64 (pL l K), .int .i64 (qL l K)]) ∧ Below w.heap.size w w') := Lib.hid (fun w => sum_any l hF K hK0 hK1 (-1) (.inr rfl) w)
        unfold c8 at SK
        obtain ⟨m1, m2, m3, m4⟩ := SB.out K
        have t1 := tdiv4 m1 m2
        have t2 := tdiv4 m3 m4
        obtain ⟨t11, t12⟩ := t1
        obtain ⟨t21, t22⟩ := t2
        have st := Lib.hid (fun i => wF_step (pL l) (qL l) K i)
        have hyes := Lib.hid (fun h1 h2 => binv_yes hB.out h1 h2)
        have hno := Lib.hid (fun h1 => binv_no (l := l) hK4 h1)
        clear hF BA BN hB SB
        obtain ⟨b0, b1, b2, b3, b4, b5, b6, b7⟩ := eight_at r1
        generalize pL l K = P at *
        generalize qL l K = Q at *
        replace r1 := Lib.hid r1
        replace r3 := Lib.hid r3
        replace r5 := Lib.hid r5
        go_wp2_with fail
        with_reducible refine (SK.out _).mono ?_
        rintro e w4 ⟨rfl, hb4⟩
        have u1 := r1.out.beyond hb4
        have u3 := r3.out.beyond hb4
        have u5 := r5.out.beyond hb4
        have hw4 := hbw.trans (hb4.mono hzo)
        have lu := u5.lt
        clear hb4 b0 b1 b2 b3 b4 b5 b6 b7 r1 r3 r5
        have c1 := u5.at (2 * K) (by omega)
        have c2 := u5.at (2 * K + 1) (by omega)
        have f1 := u5.free (2 * K) (by omega)
        have f2 := u5.free (2 * K + 1) (by omega)
        replace u1 := Lib.hid u1
        replace u3 := Lib.hid u3
        replace u5 := Lib.hid u5
        by_cases p1 : P.tmod 4 = 0
        · have q1 := beq_t p1
          by_cases p2 : Q.tmod 4 = 0
          · have q2 := beq_t p2
            have hy := Lib.hid (hyes.out p1 p2)
            clear p1 p2 hyes hno
            go_wp2_with fail
            go_roundw
            case measure => simp [intOf]; omega
            case rel =>
              refine ⟨K + 1, by omega, by go_num, true, rfl, hy, ?_, ?_, ?_, ?_⟩
              · exact (u1.out.setOther _ n1.out _).setOther _ n1.out _
              · exact (u3.out.setOther _ n3.out _).setOther _ n3.out _
              · exact ((u5.out.set (2 * K) (by omega) _).set (2 * K + 1) (by omega) _).congr (fun i hi => st.out i)
              · exact (hw4.setCell (by show w.heap.size ≤ w2.heap.size + 1; omega) _).setCell (by show w.heap.size ≤ w2.heap.size + 1; omega) _
          · have q2 := beq_f p2
            have hy := Lib.hid (hno.out (fun h => p2 h.2))
            clear p1 p2 hyes hno
            go_wp2_with fail
            go_roundw
            case measure => simp [intOf]; omega
            case rel =>
              refine ⟨K + 1, by omega, by go_num, false, rfl, hy, ?_, ?_, ?_, ?_⟩
              · exact (u1.out.setOther _ n1.out _).setOther _ n1.out _
              · exact (u3.out.setOther _ n3.out _).setOther _ n3.out _
              · exact ((u5.out.set (2 * K) (by omega) _).set (2 * K + 1) (by omega) _).congr (fun i hi => st.out i)
              · exact (hw4.setCell (by show w.heap.size ≤ w2.heap.size + 1; omega) _).setCell (by show w.heap.size ≤ w2.heap.size + 1; omega) _
        · have q1 := beq_f p1
          have hy := Lib.hid (hno.out (fun h => p1 h.1))
          clear p1 hyes hno
          go_wp2_with fail
          go_roundw
          case measure => simp [intOf]; omega
          case rel =>
            refine ⟨K + 1, by omega, by go_num, false, rfl, hy, ?_, ?_, ?_, ?_⟩
            · exact (u1.out.setOther _ n1.out _).setOther _ n1.out _
            · exact (u3.out.setOther _ n3.out _).setOther _ n3.out _
            · exact ((u5.out.set (2 * K) (by omega) _).set (2 * K + 1) (by omega) _).congr (fun i hi => st.out i)
            · exact (hw4.setCell (by show w.heap.size ≤ w2.heap.size + 1; omega) _).setCell (by show w.heap.size ≤ w2.heap.size + 1; omega) _
      · obtain rfl : K = 4 := by omega
        have BK := Lib.hid (BA.out hF (hB.out.1 rfl).2)
        clear hB BA BN hF
        obtain ⟨b0, b1, b2, b3⟩ := cells_at r3
        replace r1 := Lib.hid r1
        replace r3 := Lib.hid r3
        replace r5 := Lib.hid r5
        go_wp2_with fail
        with_reducible refine (BK.out _).mono ?_
        rintro e w5 ⟨X, Y, rfl, hR, hb5⟩
        have v5 := r5.out.beyond hb5
        have lv := v5.lt
        have hw5 := hbw.trans (hb5.mono hzo)
        have hz5 := hw5.size
        clear hb5 b0 b1 b2 b3 r1 r3 r5
        replace hR := Lib.hid hR
        replace v5 := Lib.hid v5
        unfold c4
        go_wp2_with fail
        go_loopw [11] (fun k wr => ∃ K : Nat, K ≤ 4 ∧ k = .int .i64 K ∧ Row wr (w2.heap.size + 1) 8 (oi (wF (pL l) (qL l) 4)) ∧ Row wr w5.heap.size 4 (cx X Y) ∧ Below w.heap.size w wr) (fun k _ => (4 - intOf k).toNat)
        case atStart => exact ⟨0, by omega, rfl, v5.out.alloc _, row_new w5 _ _ (cx X Y) 4 (fun i hi => list_four (f := cx X Y) i hi), hw5.alloc hz5 _⟩
        case round =>
          obtain ⟨K, hK, rfl, s1, s2, hbw⟩ := hrel
          obtain ⟨wp, rfl⟩ : ∃ wp : World, wp = wr := ⟨_, rfl⟩
          have hzp := hbw.size
          by_cases hK4 : K < 4
          · have hd1 : decide ((K : Int) < 4) = true := by simp; omega
            have hK0 : (0 : Int) ≤ (K : Int) := by omega
            have hK1 : (K : Int) < 4 := by omega
            have ex := s2.at K hK4
            unfold cx at ex

            have hp : Fl.Rep (X K) ((pL l K).tdiv 4) := (hR.out K hK4).1
            have hq : Fl.Rep (Y K) ((qL l K).tdiv 4) := (hR.out K hK4).2
            obtain ⟨m1, m2, m3, m4⟩ := SB.out K
            have t1 := tdiv4 m1 m2
            have t2 := tdiv4 m3 m4
            have PP := Lib.hid (fun w => parts_yes hp hq t1.1 t1.2 t2.1 t2.2 w)
            have WA := want_at s1 K hK4
            clear hp hq m1 m2 m3 m4
            generalize (pL l K).tdiv 4 = P at *
            generalize (qL l K).tdiv 4 = Q at *
            replace s1 := Lib.hid s1
            replace s2 := Lib.hid s2
            replace WA := Lib.hid WA
            go_wp2_with fail
            with_reducible refine (PP.out _).mono ?_
            rintro e w6 ⟨rfl, hb6⟩
            have u1 := s1.out.beyond hb6
            have u2 := s2.out.beyond hb6
            have l1 := u1.lt
            obtain ⟨e1, e2⟩ : w6.cell? ⟨w2.heap.size + 1, 2 * K, none⟩ = some (.int .i64 P) ∧ w6.cell? ⟨w2.heap.size + 1, 2 * K + 1, none⟩ = some (.int .i64 Q) := by
              have la := s1.out.lt
              rw [hb6.cell (p := ⟨w2.heap.size + 1, 2 * K, none⟩) la, hb6.cell (p := ⟨w2.heap.size + 1, 2 * K + 1, none⟩) la]
              exact WA.out
            have hw6 := hbw.trans (hb6.mono hzp)
            clear hb6
            replace u1 := Lib.hid u1
            replace u2 := Lib.hid u2

            go_wp2_with fail
            go_roundw
            case measure => simp [intOf]; omega
            case rel => exact ⟨K + 1, by omega, by go_num, u1.out, u2.out, hw6⟩
          · have hKe : K = 4 := by omega
            replace s1 := Lib.hid s1
            replace s2 := Lib.hid s2
            go_wp2_with fail
            go_ret
            exact ⟨rfl, hbw⟩
end Go.Proofs.Ytimgmobpgbekjaa
