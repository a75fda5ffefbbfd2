/- Contracts of law 8: sum. No condition beyond fit numbers. -/
import Derived.Test.YtimgmobpgbekjaaWv8b
namespace Go.Proofs.Ytimgmobpgbekjaa
open Go.RowKit
def ev (l : Nat → Int) (i : Nat) : Int := l (2 * i)
def od (l : Nat → Int) (i : Nat) : Int := l (2 * i + 1)
theorem wm {a b : Int} (ha : -1 ≤ a ∧ a ≤ 1) (hb : 0 ≤ b ∧ b ≤ 4) : -4 ≤ a * b ∧ a * b ≤ 4 := by
  rcases (show a = -1 ∨ a = 0 ∨ a = 1 from by omega) with rfl | rfl | rfl <;> omega
theorem wm2 {a b : Int} (ha : -4 ≤ a ∧ a ≤ 4) (hb : 0 ≤ b ∧ b ≤ 4) : -16 ≤ a * b ∧ a * b ≤ 16 := by
  rcases (show b = 0 ∨ b = 1 ∨ b = 2 ∨ b = 3 ∨ b = 4 from by omega) with rfl | rfl | rfl | rfl | rfl <;> omega
set_option maxRecDepth 100000 in
set_option maxHeartbeats 3200000 in
theorem sum_any (l : Nat → Int) (hf : Fit (ev l) (od l)) (k : Int) (k0 : 0 ≤ k) (k1 : k < 4) (way : Int) (hway : way = 1 ∨ way = -1) (w : World) :
    Calls Try.prog 29 #[c8 .i64 l, .int .i64 k, .int .i64 way] w fun e w' => e = .returned (.tuple #[.int .i64 (sre (ev l) (od l) way k 4), .int .i64 (sim (ev l) (od l) way k 4)]) ∧ Below w.heap.size w w' := by
  unfold c8
  have R8 := Lib.hid (row8 w l 44)
  have hsb := Lib.hid (fun n hn => s_bound (ev l) (od l) way k 1125899906842624 hf (by decide) n hn)
  replace hf := Lib.hid hf
  have wy0 : -1 ≤ way ∧ way ≤ 1 := by omega
  clear hway
  go_enter Try.func29, Try.ntmps29
  go_wp2_with fail
  go_loopw [8, 9, 10] (fun s t j wr => ∃ J : Nat, J ≤ 4 ∧ j = .int .i64 J ∧ s = .int .i64 (sre (ev l) (od l) way k J) ∧ t = .int .i64 (sim (ev l) (od l) way k J) ∧ ∃ m, wr = (w.alloc (.cells #[.int .i64 (l 0), .int .i64 (l 1), .int .i64 (l 2), .int .i64 (l 3), .int .i64 (l 4), .int .i64 (l 5), .int .i64 (l 6), .int .i64 (l 7)] 44)).drewN m) (fun _ _ j _ => (4 - intOf j).toNat)
  case atStart => exact ⟨0, by omega, rfl, rfl, rfl, 0, rfl⟩
  case round =>
    obtain ⟨J, hJ, rfl, rfl, rfl, m, rfl⟩ := hrel
    have sb := hsb.out J hJ
    by_cases hJ4 : J < 4
    · have hd1 : decide ((J : Int) < 4) = true := by simp; omega
      have e1 := R8.out.at (2 * J) (by omega)
      have e2 := R8.out.at (2 * J + 1) (by omega)
      unfold oi at e1 e2
      have fb := hf.out J hJ4
      unfold ev od at fb
      have st : Hid (sre (ev l) (od l) way k (J + 1) = sre (ev l) (od l) way k J + qre (way * J * k) (l (2 * J)) (l (2 * J + 1)) ∧ sim (ev l) (od l) way k (J + 1) = sim (ev l) (od l) way k J + qim (way * J * k) (l (2 * J)) (l (2 * J + 1))) := Lib.hid (by
        rw [show way * (J : Int) * k = (J : Int) * k * way from by grind]
        exact ⟨rfl, rfl⟩)
      have b1 := wm wy0 (b := (J : Int)) ⟨by omega, by omega⟩
      have b2 := wm2 b1 (b := k) ⟨by omega, by omega⟩
      have w1 : IntKind.i64.wrap (way * (J : Int)) = way * (J : Int) := by rw [IntKind.wrap_i64]; omega
      have w2 : IntKind.i64.wrap (way * (J : Int) * k) = way * (J : Int) * k := by rw [IntKind.wrap_i64]; omega
      have hb := and3 (way * (J : Int) * k)
      have w3 : wrap64 (way * (J : Int) * k) = way * (J : Int) * k := by unfold wrap64; omega
      have w4 : wrap64 (way * (J : Int)) = way * (J : Int) := by unfold wrap64; omega
      generalize sre (ev l) (od l) way k J = S at *
      generalize sim (ev l) (od l) way k J = T at *
      generalize l (2 * J) = A at *
      generalize l (2 * J + 1) = B at *
      have hJ0 : (0 : Int) ≤ (J : Int) := by omega
      have hJ1 : (J : Int) < 4 := by omega
      have s0 : -4503599627370496 ≤ S ∧ S ≤ 4503599627370496 ∧ -4503599627370496 ≤ T ∧ T ≤ 4503599627370496 := by omega
      obtain ⟨s1, s2, s3, s4⟩ := s0
      obtain ⟨g1, g2, g3, g4⟩ := fb
      clear sb b1 b2
      rcases (show way * (J : Int) * k % 4 = 0 ∨ way * (J : Int) * k % 4 = 1 ∨ way * (J : Int) * k % 4 = 2 ∨ way * (J : Int) * k % 4 = 3 from by omega) with hk | hk | hk | hk
      · have hq := Lib.hid (show qre (way * (J : Int) * k) A B = A ∧ qim (way * (J : Int) * k) A B = B from by unfold qre qim; rw [hk]; simp)
        rw [hk] at hb
        clear hk
        go_wp2_with fail
        go_quiet (fail)
        go_wp2_with fail
        go_roundw
        case measure => simp [intOf]; omega
        case rel =>
          have q1 := st.out.1
          have q2 := st.out.2
          rw [hq.out.1] at q1
          rw [hq.out.2] at q2
          exact ⟨J + 1, by omega, by go_num, by rw [q1]; try rw [Int.sub_eq_add_neg], by rw [q2]; try rw [Int.sub_eq_add_neg], _, rfl⟩

      · have hq := Lib.hid (show qre (way * (J : Int) * k) A B = -B ∧ qim (way * (J : Int) * k) A B = A from by unfold qre qim; rw [hk]; simp)
        rw [hk] at hb
        clear hk
        go_wp2_with fail
        go_quiet (fail)
        go_wp2_with fail
        go_roundw
        case measure => simp [intOf]; omega
        case rel =>
          have q1 := st.out.1
          have q2 := st.out.2
          rw [hq.out.1] at q1
          rw [hq.out.2] at q2
          exact ⟨J + 1, by omega, by go_num, by rw [q1]; try rw [Int.sub_eq_add_neg], by rw [q2]; try rw [Int.sub_eq_add_neg], _, rfl⟩

      · have hq := Lib.hid (show qre (way * (J : Int) * k) A B = -A ∧ qim (way * (J : Int) * k) A B = -B from by unfold qre qim; rw [hk]; simp)
        rw [hk] at hb
        clear hk
        go_wp2_with fail
        go_quiet (fail)
        go_wp2_with fail
        go_roundw
        case measure => simp [intOf]; omega
        case rel =>
          have q1 := st.out.1
          have q2 := st.out.2
          rw [hq.out.1] at q1
          rw [hq.out.2] at q2
          exact ⟨J + 1, by omega, by go_num, by rw [q1]; try rw [Int.sub_eq_add_neg], by rw [q2]; try rw [Int.sub_eq_add_neg], _, rfl⟩

      · have hq := Lib.hid (show qre (way * (J : Int) * k) A B = B ∧ qim (way * (J : Int) * k) A B = -A from by unfold qre qim; rw [hk]; simp)
        rw [hk] at hb
        clear hk
        go_wp2_with fail
        go_quiet (fail)
        go_wp2_with fail
        go_roundw
        case measure => simp [intOf]; omega
        case rel =>
          have q1 := st.out.1
          have q2 := st.out.2
          rw [hq.out.1] at q1
          rw [hq.out.2] at q2
          exact ⟨J + 1, by omega, by go_num, by rw [q1]; try rw [Int.sub_eq_add_neg], by rw [q2]; try rw [Int.sub_eq_add_neg], _, rfl⟩
    · have hJe : J = 4 := by omega
      subst hJe
      clear sb hJ
      go_wp2_with fail
      refine bodyPost_ret (results_tmp2 rfl _ _ _) rfl ?_
      exact ⟨rfl, by repeat' (first | (with_reducible assumption) | (with_reducible exact Below.refl _ _) | (with_reducible refine below_drewN ?_ _) | (with_reducible refine Below.drew ?_) | (with_reducible refine Below.setCell ?_ ?_ _) | (with_reducible refine Below.alloc ?_ ?_ _) | omega | (simp; done) | (simp; omega))⟩
end Go.Proofs.Ytimgmobpgbekjaa
