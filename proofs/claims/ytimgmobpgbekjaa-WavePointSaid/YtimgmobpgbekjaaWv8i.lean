/- Law 8: WavePoint. No condition. -/
import Derived.Test.YtimgmobpgbekjaaPol
import Derived.Test.YtimgmobpgbekjaaWv8h
namespace Go.Proofs.Ytimgmobpgbekjaa
open Go.RowKit
attribute [local irreducible] Fl.K
theorem fw_range (f : Nat → Int) (t : Nat) : 0 ≤ fw f t ∧ fw f t ≤ 32767 := by unfold fw; omega
theorem fw_dig (f : Nat → Int) (n : Nat) : Dig n (fw f) := fun i _ => by have := fw_range f i; omega
theorem point_value (f g : Nat → Int) (n m : Nat) (hn : 1 ≤ n) (hm : 1 ≤ m) (x : Int) :
    hv (wI (fz f n) (fz g m) m n) x (n + m - 1) (n + m - 1) = (hv f x n n * hv g x m m) % 18446744073709551616 := by
  rw [hv_pv, hv_pv, hv_pv, pv_wI _ _ _ _ _ _ (by omega), ← Int.mul_emod]
  rw [pv_congr (b := f) (fun i hi => by unfold fz; rw [if_pos hi]), pv_congr (a := fz g m) (b := g) (fun i hi => by unfold fz; rw [if_pos hi])]
set_option maxRecDepth 100000 in
set_option maxHeartbeats 6400000 in
theorem wavePoint_walk (ad : Option Addr) (n c : Nat) (f : Nat → Int) (bd : Option Addr) (m d : Nat) (g : Nat → Int) (x : Int) (w : World) (hS : Sl .i64 w ad n f) (_hn : n ≤ maxLen) (_hf : WfN n f) (hT : Sl .i64 w bd m g) (_hm : m ≤ maxLen) (_hg : WfN m g) (_x0 : 0 ≤ x) (_x1 : x ≤ 18446744073709551615) :
    Calls Try.prog 14 #[.slice ad n c, .slice bd m d, .int .u64 x] w fun e w' => e = .returned (.bool true) ∧ Below w.heap.size w w' := by
  have AW := Lib.hid awake8_true
  by_cases h1 : n ≤ 100
  · by_cases h2 : m ≤ 100
    · have P1 := Lib.hid (fun w hS => few_any ad n c f w hS (by omega))
      have P2 := Lib.hid (fun w hT => few_any bd m d g w hT (by omega))
      have bF := Lib.hid (hv_bound (fw f) x n n)
      have bG := Lib.hid (hv_bound (fw g) x m m)
      replace hS := Lib.hid hS
      replace hT := Lib.hid hT
      go_enter Try.func14, Try.ntmps14
      go_wp2_with fail
      with_reducible refine (AW.out _).mono ?_
      rintro e w1 ⟨rfl, hw1⟩
      have hz1 := hw1.size
      have S1 := Lib.hid (hS.out.beyond hw1)
      go_wp2_with fail
      with_reducible refine (P1.out _ S1.out).mono ?_
      rintro e w2 ⟨pd, pc, rfl, r2, hb2⟩
      have hw2 := hw1.trans (hb2.mono hz1)
      have hz2 := hw2.size
      have T2 := Lib.hid (hT.out.beyond hw2)
      clear hb2
      replace r2 := Lib.hid r2
      go_wp2_with fail
      with_reducible refine (P2.out _ T2.out).mono ?_
      rintro e w3 ⟨qd, qc, rfl, r3, hb3⟩
      have r2' := Lib.hid (r2.out.beyond hb3)
      have hw3 := hw2.trans (hb3.mono hz2)
      have hz3 := hw3.size
      clear hb3
      replace r3 := Lib.hid r3
      by_cases hnm : n = 0 ∨ m = 0
      · have FE := Lib.hid (fold_empty pd qd n pc m qc (fw f) (fw g) w3 r2'.out r3.out (by omega) (by omega) (fw_dig f n) (fw_dig g m) hnm)
        have V1 := Lib.hid (fun w hS => value_any pd n pc (fw f) x w hS (by omega) (fun i _ => by have := fw_range f i; omega))
        have V2 := Lib.hid (fun w hS => value_any qd m qc (fw g) x w hS (by omega) (fun i _ => by have := fw_range g i; omega))
        have V0 := Lib.hid (fun w => value_any none 0 0 (fun _ => 0) x w (Sl.none _ _ _ _) (by omega) (fun i hi => by omega))
        have e0 : hv (fun _ => 0) x 0 0 = 0 := rfl
        rw [e0] at V0
        have hp : hv (fw f) x n n * hv (fw g) x m m = 0 := by
          rcases hnm with h | h
          · subst h; simp [hv]
          · subst h; simp [hv]
        generalize hv (fw f) x n n = A at *
        generalize hv (fw g) x m m = B at *
        have pw : IntKind.u64.wrap (A * B) = 0 := by rw [hp]; rfl
        clear e0
        go_wp2_with fail
        with_reducible refine (FE.out).mono ?_
        rintro e w' ⟨rfl, rfl⟩
        go_wp2_with fail
        with_reducible refine (V0.out _).mono ?_
        rintro e w' ⟨rfl, rfl⟩
        go_wp2_with fail
        with_reducible refine (V1.out _ r2'.out).mono ?_
        rintro e w' ⟨rfl, rfl⟩
        go_wp2_with fail
        with_reducible refine (V2.out _ r3.out).mono ?_
        rintro e w' ⟨rfl, rfl⟩
        go_wp2_with fail
        go_ret
        exact ⟨by first | rfl | (simp [pw, hp]; done) | (rw [hp]; rfl), hw3⟩
      · have FY := Lib.hid (fold_ret pd qd n pc m qc (fw f) (fw g) w3 r2'.out r3.out (by omega) (by omega) (by omega) (by omega) (fw_dig f n) (fw_dig g m))
        have V1 := Lib.hid (fun w hS => value_any pd n pc (fw f) x w hS (by omega) (fun i _ => by have := fw_range f i; omega))
        have V2 := Lib.hid (fun w hS => value_any qd m qc (fw g) x w hS (by omega) (fun i _ => by have := fw_range g i; omega))
        have VL := Lib.hid (fun ld lc w hS => value_any ld (n + m - 1) lc (wI (fz (fw f) n) (fz (fw g) m) m n) x w hS (by omega) (fun i _ => by
          have := wI_bound _ _ (fz_bound (fw_dig f n)) (fz_bound (fw_dig g m)) m (by omega) i n
          omega))
        have hpt := point_value (fw f) (fw g) n m (by omega) (by omega) x
        rw [hpt] at VL
        generalize hv (fw f) x n n = A at *
        generalize hv (fw g) x m m = B at *
        have pw : IntKind.u64.wrap (A * B) = (A * B) % 18446744073709551616 := IntKind.wrap_u64 _
        clear hpt
        go_wp2_with fail
        with_reducible refine (FY.out).mono ?_
        rintro e w4 ⟨gl, cl, rfl, hcl, rl, hb4⟩
        have r2'' := Lib.hid (r2'.out.beyond hb4)
        have r3'' := Lib.hid (r3.out.beyond hb4)
        have hw4 := hw3.trans (hb4.mono hz3)
        have rl' := Lib.hid (row_sl rl)
        clear hb4 rl
        go_wp2_with fail
        with_reducible refine (VL.out _ _ _ rl'.out).mono ?_
        rintro e w' ⟨rfl, rfl⟩
        go_wp2_with fail
        with_reducible refine (V1.out _ r2''.out).mono ?_
        rintro e w' ⟨rfl, rfl⟩
        go_wp2_with fail
        with_reducible refine (V2.out _ r3''.out).mono ?_
        rintro e w' ⟨rfl, rfl⟩
        go_wp2_with fail
        go_ret
        exact ⟨by first | rfl | (simp [pw]; done) | (simp; rw [pw]; simp), hw4⟩
    · go_enter Try.func14, Try.ntmps14
      go_wp2_with fail
      with_reducible refine (AW.out _).mono ?_
      rintro e w1 ⟨rfl, hw1⟩
      go_wp2_with fail
      go_ret
      exact ⟨rfl, hw1⟩
  · go_enter Try.func14, Try.ntmps14
    go_wp2_with fail
    with_reducible refine (AW.out _).mono ?_
    rintro e w1 ⟨rfl, hw1⟩
    go_wp2_with fail
    go_ret
    exact ⟨rfl, hw1⟩
end Go.Proofs.Ytimgmobpgbekjaa
