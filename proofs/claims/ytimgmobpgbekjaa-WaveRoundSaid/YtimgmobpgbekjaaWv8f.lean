/- Law 8: WaveRound. No condition. -/
import Derived.Test.YtimgmobpgbekjaaWv8e
namespace Go.Proofs.Ytimgmobpgbekjaa
open Go.RowKit
attribute [local irreducible] Fl.K
theorem four_back (e o : Nat → Int) (k : Nat) (hk : k < 4) : sre (fun k => sre e o 1 (k : Int) 4) (fun k => sim e o 1 (k : Int) 4) (-1) (k : Int) 4 = 4 * e k ∧ sim (fun k => sre e o 1 (k : Int) 4) (fun k => sim e o 1 (k : Int) 4) (-1) (k : Int) 4 = 4 * o k := by
  rcases four_cases hk with rfl | rfl | rfl | rfl <;> simp [sre, sim, qre, qim] <;> omega
def Small (l : Nat → Int) (n : Nat) : Prop := ∀ i, i < n → -281474976710656 ≤ l i ∧ l i ≤ 281474976710656
theorem small_fit {l : Nat → Int} (h : Small l 8) : Fit (ev l) (od l) := fun i hi => by
  have h1 := h (2 * i) (by omega)
  have h2 := h (2 * i + 1) (by omega)
  unfold ev od
  omega
theorem small_four {l : Nat → Int} (h : Small l 8) : Fit (fun k => sre (ev l) (od l) 1 (k : Int) 4) (fun k => sim (ev l) (od l) 1 (k : Int) 4) := fun k _ => by
  have hb := s_bound (ev l) (od l) 1 (k : Int) 281474976710656 (fun i hi => by
    have h1 := h (2 * i) (by omega)
    have h2 := h (2 * i + 1) (by omega)
    unfold ev od
    omega) (by decide) 4 (by decide)
  show _ ≤ sre (ev l) (od l) 1 (k : Int) 4 ∧ sre (ev l) (od l) 1 (k : Int) 4 ≤ _ ∧ _ ≤ sim (ev l) (od l) 1 (k : Int) 4 ∧ sim (ev l) (od l) 1 (k : Int) 4 ≤ _
  omega
theorem round_back {l : Nat → Int} (h : Small l 8) {X Y : Nat → Nat} (hR : Reps X Y (fun k => sre (ev l) (od l) 1 (k : Int) 4) (fun k => sim (ev l) (od l) 1 (k : Int) 4) 4) (w : World) :
    Calls Try.prog 30 #[c4 X Y] w (RetB true (ev l) (od l) w) := by
  have hd : divTo (fun k => 4 * ev l k) (fun k => 4 * od l k) 4 := fun i _ => ⟨(tm4 _).1, (tm4 _).1⟩
  have hb := back_fit X Y _ _ (fun k => 4 * ev l k) (fun k => 4 * od l k) hR (small_four h) (fun k hk => four_back (ev l) (od l) k hk) true ⟨fun _ => hd, fun _ => rfl⟩ w
  have e1 : dq true (fun k => 4 * ev l k) = ev l := funext fun k => (tm4 _).2
  have e2 : dq true (fun k => 4 * od l k) = od l := funext fun k => (tm4 _).2
  rw [e1, e2] at hb
  exact hb
attribute [local go_sem] run_store_complex
set_option maxRecDepth 100000 in
set_option maxHeartbeats 6400000 in
theorem waveRound_walk (l : Nat → Int) (w : World) (hl : Wf8 l) : Calls Try.prog 11 #[c8 .i64 l] w fun e w' => e = .returned (.bool true) ∧ Below w.heap.size w w' := by
  unfold c8
  have R8 := Lib.hid (row8 w l 44)
  have AW := Lib.hid awake8_true
  have M := Lib.hid (made_any l)
  unfold c8 at M
  go_enter Try.func11, Try.ntmps11
  go_wp2_with fail
  with_reducible refine (AW.out _).mono ?_
  rintro e w1 ⟨rfl, hb1⟩
  have r1 := Lib.hid (R8.out.beyond hb1)
  have hw1 : Below w.heap.size w w1 := Below.trans (by repeat' (first | (with_reducible assumption) | (with_reducible exact Below.refl _ _) | (with_reducible refine below_drewN ?_ _) | (with_reducible refine Below.drew ?_) | (with_reducible refine Below.setCell ?_ ?_ _) | (with_reducible refine Below.alloc ?_ ?_ _) | omega | (simp; done) | (simp; omega))) (hb1.mono (by simp))
  have hz1 := hw1.size
  have lb := r1.out.lt
  clear hb1 R8
  go_wp2_with fail
  go_loopw [3] (fun k wr => ∃ K : Nat, K ≤ 8 ∧ k = .int .i64 K ∧ wr = w1 ∧ Hid (Small l K)) (fun k _ => (8 - intOf k).toNat)
  case atStart => exact ⟨0, by omega, rfl, rfl, Lib.hid (fun i hi => by omega)⟩
  case round =>
    obtain ⟨K, hK, rfl, rfl, hsm⟩ := hrel
    by_cases hK8 : K < 8
    · have hd1 : decide ((K : Int) < 8) = true := by simp; omega
      have hK0 : (0 : Int) ≤ (K : Int) := by omega
      have hK1 : (K : Int) < 8 := by omega
      have ec := r1.out.at K hK8
      unfold oi at ec
      by_cases a1 : l K < -281474976710656
      · go_wp2_with fail
        go_ret
        exact ⟨rfl, hw1⟩
      · by_cases a2 : 281474976710656 < l K
        · go_wp2_with fail
          go_ret
          exact ⟨rfl, hw1⟩
        · have hs2 : Hid (Small l (K + 1)) := Lib.hid (fun i hi => by
            by_cases hik : i < K
            · exact hsm.out i hik
            · obtain rfl : i = K := by omega
              omega)
          go_wp2_with fail
          go_roundw
          case measure => simp [intOf]; omega
          case rel => exact ⟨K + 1, by omega, by go_num, by first | rfl | trivial, hs2⟩
    · obtain rfl : K = 8 := by omega
      have FY := Lib.hid (fun w => four_yes (mx l 4) (my l 4) (ev l) (od l) (mxy_reps (small_fit hsm.out)) (small_fit hsm.out) w)
      have RB := Lib.hid (fun X Y hR w => round_back (X := X) (Y := Y) hsm.out hR w)
      have hbd := Lib.hid (fun k (hk : k < 4) => small_fit hsm.out k hk)
      unfold c4 at FY RB
      obtain ⟨b0, b1, b2, b3, b4, b5, b6, b7⟩ := eight_at r1.out
      clear hsm
      go_wp2_with fail
      with_reducible refine (M.out _).mono ?_
      rintro e w2 ⟨rfl, hb2⟩
      have r2 := r1.out.beyond hb2
      have hw2 := hw1.trans (hb2.mono hz1)
      have hz2 := hw2.size
      have l2 := r2.lt
      clear hb2 b0 b1 b2 b3 b4 b5 b6 b7 r1
      generalize fitB l 4 = B0
      replace r2 := Lib.hid r2
      unfold c4
      go_wp2_with fail
      with_reducible refine (FY.out _).mono ?_
      rintro e w3 ⟨X, Y, rfl, hR, hb3⟩
      have r3 := (r2.out.alloc _).beyond hb3
      have hw3 : Below w.heap.size w w3 := Below.trans (by repeat' (first | (with_reducible assumption) | (with_reducible exact Below.refl _ _) | (with_reducible refine below_drewN ?_ _) | (with_reducible refine Below.drew ?_) | (with_reducible refine Below.setCell ?_ ?_ _) | (with_reducible refine Below.alloc ?_ ?_ _) | omega | (simp; done) | (simp; omega))) (hb3.mono (by simp; omega))
      have hz3 := hw3.size
      have B := Lib.hid (fun w => RB.out X Y hR w)
      clear hb3 r2 FY RB hR
      replace r3 := Lib.hid r3
      unfold c4
      go_wp2_with fail
      with_reducible refine (B.out _).mono ?_
      rintro e w4 ⟨X', Y', rfl, hR, hb4⟩
      have r4 := r3.out.beyond hb4
      have hw4 := hw3.trans (hb4.mono hz3)
      have hz4 := hw4.size
      clear hb4 r3 B
      replace r4 := Lib.hid r4
      replace hR := Lib.hid hR
      unfold c4
      go_wp2_with fail
      go_loopw [8] (fun k wr => ∃ K : Nat, K ≤ 4 ∧ k = .int .i64 K ∧ Row wr w.heap.size 8 (oi l) ∧ Row wr w4.heap.size 4 (cx X' Y') ∧ Below w.heap.size w wr) (fun k _ => (4 - intOf k).toNat)
      case atStart => exact ⟨0, by omega, rfl, r4.out.alloc _, row_new w4 _ _ (cx X' Y') 4 (fun i hi => list_four (f := cx X' Y') i hi), hw4.alloc hz4 _⟩
      case round =>
        obtain ⟨K, hK, rfl, s1, s2, hbw⟩ := hrel
        obtain ⟨wo, rfl⟩ : ∃ wo : World, wo = wr := ⟨_, rfl⟩
        have hzo := hbw.size
        by_cases hK4 : K < 4
        · have hd1 : decide ((K : Int) < 4) = true := by simp; omega
          have hK0 : (0 : Int) ≤ (K : Int) := by omega
          have hK1 : (K : Int) < 4 := by omega
          have hp : Fl.Rep (X' K) (l (2 * K)) := (hR.out K hK4).1
          have hq : Fl.Rep (Y' K) (l (2 * K + 1)) := (hR.out K hK4).2
          have hbk := hbd.out K hK4
          unfold ev od at hbk
          have PP := Lib.hid (fun w => parts_yes hp hq (by omega) (by omega) (by omega) (by omega) w)
          have ex := s2.at K hK4
          unfold cx at ex
          clear hp hq hbk
          replace s1 := Lib.hid s1
          replace s2 := Lib.hid s2
          go_wp2_with fail
          with_reducible refine (PP.out _).mono ?_
          rintro e w6 ⟨rfl, hb6⟩
          have u1 := s1.out.beyond hb6
          have u2 := s2.out.beyond hb6
          have hw6 := hbw.trans (hb6.mono hzo)
          have e1 := u1.at (2 * K) (by omega)
          have e2 := u1.at (2 * K + 1) (by omega)
          have l1 := u1.lt
          unfold oi at e1 e2
          clear hb6
          replace u1 := Lib.hid u1
          replace u2 := Lib.hid u2
          go_wp2_with fail
          go_roundw
          case measure => simp [intOf]; omega
          case rel => exact ⟨K + 1, by omega, by go_num, u1.out, u2.out, hw6⟩
        · have hKe : K = 4 := by omega
          replace s1 := Lib.hid s1
          replace s2 := Lib.hid s2
          go_wp2_with fail
          go_ret
          exact ⟨rfl, hbw⟩
end Go.Proofs.Ytimgmobpgbekjaa
