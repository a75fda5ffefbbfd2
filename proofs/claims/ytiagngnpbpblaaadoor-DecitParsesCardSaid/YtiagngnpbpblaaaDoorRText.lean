/- The contract of the reference's Text: a number's decimal digits. No condition. -/
import Derived.Test.YtiagngnpbpblaaaDoorRDiv
import Derived.Lib.ItoaNum
namespace Go.Proofs.YtiagngnpbpblaaaDoor
open Go.RowKit
set_option linter.unusedSimpArgs false
set_option linter.unusedVariables false

def wN (h l : Int) : Nat := (wV h l).toNat

/-- string([]byte{n}) of a block just laid. -/
theorem conv_one (W : World) (n : Int) :
    (convert 62 9 (.slice (some ⟨W.heap.size, 0, none⟩) 1 1)).run Tryd.prog (W.alloc (.cells #[.int .u8 n] 5)) = .ok (.string ⟨#[UInt8.ofNat n.toNat]⟩) (W.alloc (.cells #[.int .u8 n] 5)) := by
  have h := run_convert_bytes_arg (P := Tryd.prog) (W.alloc (.cells #[.int .u8 n] 5)) 62 5 Tryd.underlying62 Tryd.underlying5 W.heap.size 0 1 1 [n] rfl (fun i hi => by
    obtain rfl : i = 0 := by omega
    simp) 9 Tryd.underlying9
  rw [h]; rfl
theorem conv_two (W : World) (o : Obj) (n : Int) :
    (convert 62 9 (.slice (some ⟨W.heap.size + 1, 0, none⟩) 1 1)).run Tryd.prog ((W.alloc o).alloc (.cells #[.int .u8 n] 5)) = .ok (.string ⟨#[UInt8.ofNat n.toNat]⟩) ((W.alloc o).alloc (.cells #[.int .u8 n] 5)) := by
  have h := conv_one (W.alloc o) n
  simpa using h

theorem cat_one (x : UInt8) (s : List UInt8) : (⟨#[x]⟩ : ByteArray) ++ ⟨s.toArray⟩ = ⟨(x :: s).toArray⟩ := ByteArray.ext (by simp)

theorem dec_big {n : Nat} (h : ¬ n < 10) : Lib.decDigits n = Lib.decDigits (n / 10) ++ [UInt8.ofNat (48 + n % 10)] := by rw [Lib.decDigits, dif_neg h]

/-- What a round has left to tell. -/
def txtOf (n : Nat) (s : List UInt8) : List UInt8 := if n = 0 ∧ s ≠ [] then s else Lib.decDigits n ++ s
theorem txtOf_start (n : Nat) : txtOf n [] = Lib.decDigits n := by unfold txtOf; simp
theorem txtOf_big (n : Nat) (s : List UInt8) (h : ¬ n < 10) : txtOf (n / 10) (UInt8.ofNat (48 + n % 10) :: s) = txtOf n s := by
  unfold txtOf
  rw [if_neg (by omega), if_neg (by omega), dec_big h]
  simp
theorem txtOf_small (n : Nat) (h : n < 10) : txtOf 0 [UInt8.ofNat (48 + n)] = txtOf n [] := by
  unfold txtOf
  simp [Lib.decDigits_one h]
theorem txtOf_end (n : Nat) (s : List UInt8) (h : n < 10) (h0 : n ≠ 0) : txtOf n s = UInt8.ofNat (48 + n) :: s := by
  unfold txtOf
  rw [if_neg (by omega), Lib.decDigits_one h]; rfl
theorem txtOf_done (s : List UInt8) (h : s ≠ []) : txtOf 0 s = s := by unfold txtOf; simp [h]

theorem pow_nDigits_le : ∀ n : Nat, 0 < n → 10 ^ (Lib.nDigits n - 1) ≤ n := by
  intro n
  induction n using Nat.strongRecOn with
  | _ n ih =>
    intro h
    by_cases hs : n < 10
    · rw [Lib.nDigits_small hs]; exact h
    · rw [Lib.nDigits_big hs]
      have h1 := ih (n / 10) (by omega) (by omega)
      have h2 := Lib.nDigits_pos (n / 10)
      have e : Lib.nDigits (n / 10) + 1 - 1 = (Lib.nDigits (n / 10) - 1) + 1 := by omega
      rw [e, Nat.pow_succ]
      omega
theorem txtOf_length (n : Nat) (s : List UInt8) : s.length ≤ (txtOf n s).length := by
  unfold txtOf; split <;> simp
theorem nDigits_le (k n : Nat) (h : n < 10 ^ (k + 1)) : Lib.nDigits n ≤ k + 1 := by
  rcases Nat.lt_or_ge (Lib.nDigits n) (k + 2) with h1 | h1
  · omega
  · exfalso
    have e : Lib.nDigits n = (Lib.nDigits n - 1) + 1 := by have := Lib.nDigits_pos n; omega
    have h2 := pow_nDigits_le n (by
      rcases Nat.eq_zero_or_pos n with h0 | h0
      · subst h0; rw [Lib.nDigits_small (by omega)] at h1; omega
      · exact h0)
    have h3 : 10 ^ (k + 1) ≤ 10 ^ (Lib.nDigits n - 1) := Nat.pow_le_pow_right (by decide) (by omega)
    omega

set_option maxRecDepth 100000 in
set_option maxHeartbeats 4000000 in
theorem refText_any (h l : Int) (h0 : 0 ≤ h) (h1 : h ≤ 18446744073709551615) (l0 : 0 ≤ l) (l1 : l ≤ 18446744073709551615) (w : World) :
    Calls Tryd.prog 45 #[.agg #[.int .u64 h, .int .u64 l]] w fun e w' =>
      e = .returned (.string ⟨(Lib.decDigits (wN h l)).toArray⟩) ∧ Below w.heap.size w w' := by
  have hbd := wV_bd h l h0 h1 l0 l1
  have v1 : wV h l / 18446744073709551616 = h := by unfold wV; omega
  have v2 : wV h l % 18446744073709551616 = l := by unfold wV; omega
  obtain ⟨T, hT⟩ : ∃ T, Lib.decDigits (wN h l) = T := ⟨_, rfl⟩
  have hT2 : txtOf (wV h l).toNat [] = T := by rw [txtOf_start]; exact hT
  have hTl : T.length ≤ 39 := by
    rw [← hT, Lib.decDigits_length]
    exact nDigits_le 38 _ (by unfold wN; omega)
  rw [hT]
  have HT := Lib.hid hT2
  have V1 := Lib.hid v1
  have V2 := Lib.hid v2
  clear hT hT2 v1 v2
  have j1 := conv_one
  have j2 := conv_two
  have j3 := cat_one
  go_enter Tryd.func45, Tryd.ntmps45
  go_wp2_with fail
  go_loopg [3] ((wV h l).toNat + 1) (fun g s3 wr => ∃ (Q : Int) (s : List UInt8), s3 = .string ⟨s.toArray⟩ ∧ 0 ≤ Q ∧ Q < 340282366920938463463374607431768211456 ∧ Q.toNat + (if s = [] then 1 else 0) ≤ g ∧ txtOf Q.toNat s = T ∧
      wr.cell? ⟨w.heap.size, 0, none⟩ = some (.int .u64 (Q / 18446744073709551616)) ∧ wr.cell? ⟨w.heap.size, 1, none⟩ = some (.int .u64 (Q % 18446744073709551616)) ∧ wr.frozen? ⟨w.heap.size, 0, none⟩ = false ∧ wr.frozen? ⟨w.heap.size, 1, none⟩ = false ∧ w.heap.size < wr.heap.size ∧ Below w.heap.size w wr)
  case atStart =>
    refine ⟨wV h l, [], rfl, hbd.1, hbd.2, by simp, HT.out, ?_⟩
    rw [V1.out, V2.out]
    (repeat' apply And.intro) <;> first | (simp (maxDischargeDepth := 6) [go_sem]; done) | (simp; omega) | (repeat' (first | (with_reducible assumption) | (with_reducible exact Below.refl _ _) | (with_reducible refine below_drewN ?_ _) | (with_reducible refine Below.drew ?_) | (with_reducible refine Below.setCell ?_ ?_ _) | (with_reducible refine Below.alloc ?_ ?_ _) | omega | (simp; done) | (simp; omega)))
  case round =>
    obtain ⟨Q, s, rfl, hQ0, hQ1, hg, hTx, c0, c1, f0, f1, hz, hbw⟩ := hrel
    have hsl : s.length ≤ 39 := by have := txtOf_length Q.toNat s; rw [hTx] at this; omega
    have TX := Lib.hid hTx
    clear hTx
    have q1 : 0 ≤ Q / 18446744073709551616 := by omega
    have q2 : 0 ≤ Q % 18446744073709551616 := by omega
    have q3 : Q % 18446744073709551616 ≤ 18446744073709551615 := by omega
    have q4 : Q / 18446744073709551616 ≤ 18446744073709551615 := by omega
    have dv := fun w => refDiv_any (Q / 18446744073709551616) (Q % 18446744073709551616) 10 (by omega) (by omega) (by omega) (by omega) (by omega) (by omega) w
    have vQ : wV (Q / 18446744073709551616) (Q % 18446744073709551616) = Q := by unfold wV; omega
    rw [vQ] at dv
    have d0 : 0 ≤ Q % 10 := by omega
    have d1 : Q % 10 ≤ 9 := by omega
    have eQ : (Q / 10).toNat = Q.toNat / 10 := by omega
    have eD : (48 + Q % 10).toNat = 48 + Q.toNat % 10 := by omega
    have EQ := Lib.hid eQ
    have ED := Lib.hid eD
    have DV := Lib.hid dv
    clear dv vQ eQ eD
    by_cases hbig : 10 ≤ Q
    · have hgo : (0 < Q / 18446744073709551616) ∨ (¬ 0 < Q / 18446744073709551616 ∧ 9 < Q % 18446744073709551616) := by omega
      rcases hgo with hc | ⟨hc, hc2⟩
      all_goals
        go_wp2_with (go_at_call 67; refine (DV.out _).mono ?_; rintro e w2 ⟨rfl, hb⟩; have k0 := (hb.cell (p := ⟨w.heap.size, 0, none⟩) hz).trans c0; have k1 := (hb.cell (p := ⟨w.heap.size, 1, none⟩) hz).trans c1; have g0 := (hb.frozen (p := ⟨w.heap.size, 0, none⟩) hz).trans f0; have g1 := (hb.frozen (p := ⟨w.heap.size, 1, none⟩) hz).trans f1; have hz2 := hb.size; have z0 : w.heap.size < w2.heap.size := (by omega); have z1 : w.heap.size < w2.heap.size + 1 := (by omega); have hb2 := hbw.trans (hb.mono (by omega)); clear hb)
        go_roundg (Q / 10).toNat
        case measure => (split at hg) <;> omega
        case rel =>
          refine ⟨Q / 10, UInt8.ofNat (48 + Q % 10).toNat :: s, rfl, by omega, by omega, by simp, ?_, ?_⟩
          · rw [EQ.out, ED.out, txtOf_big _ _ (by omega)]; exact TX.out
          · (repeat' apply And.intro) <;> first | (simp (maxDischargeDepth := 6) [go_sem, k0, k1, g0, g1, z0, z1]; done) | (simp; omega) | (repeat' (first | (with_reducible assumption) | (with_reducible exact Below.refl _ _) | (with_reducible refine below_drewN ?_ _) | (with_reducible refine Below.drew ?_) | (with_reducible refine Below.setCell ?_ ?_ _) | (with_reducible refine Below.alloc ?_ ?_ _) | omega | (simp; done) | (simp; omega)))
    · have n0 : ¬ 0 < Q / 18446744073709551616 := by omega
      have n1 : ¬ 9 < Q % 18446744073709551616 := by omega
      cases s with
      | nil =>
        go_wp2_with (go_at_call 67; refine (DV.out _).mono ?_; rintro e w2 ⟨rfl, hb⟩; have k0 := (hb.cell (p := ⟨w.heap.size, 0, none⟩) hz).trans c0; have k1 := (hb.cell (p := ⟨w.heap.size, 1, none⟩) hz).trans c1; have g0 := (hb.frozen (p := ⟨w.heap.size, 0, none⟩) hz).trans f0; have g1 := (hb.frozen (p := ⟨w.heap.size, 1, none⟩) hz).trans f1; have hz2 := hb.size; have z0 : w.heap.size < w2.heap.size := (by omega); have z1 : w.heap.size < w2.heap.size + 1 := (by omega); have hb2 := hbw.trans (hb.mono (by omega)); clear hb)
        go_roundg (Q / 10).toNat
        case measure => simp at hg; omega
        case rel =>
          refine ⟨Q / 10, UInt8.ofNat (48 + Q % 10).toNat :: [], rfl, by omega, by omega, by simp, ?_, ?_⟩
          · rw [show (Q / 10).toNat = 0 from by omega, show (48 + Q % 10).toNat = 48 + Q.toNat from by omega, txtOf_small _ (by omega)]; exact TX.out
          · (repeat' apply And.intro) <;> first | (simp (maxDischargeDepth := 6) [go_sem, k0, k1, g0, g1, z0, z1]; done) | (simp; omega) | (repeat' (first | (with_reducible assumption) | (with_reducible exact Below.refl _ _) | (with_reducible refine below_drewN ?_ _) | (with_reducible refine Below.drew ?_) | (with_reducible refine Below.setCell ?_ ?_ _) | (with_reducible refine Below.alloc ?_ ?_ _) | omega | (simp; done) | (simp; omega)))
      | cons x xs =>
        have hsl2 : xs.length ≤ 38 := by simpa using hsl
        by_cases hq : Q = 0
        · have hq0 : ¬ 0 < Q % 18446744073709551616 := by omega
          have fin : x :: xs = T := by rw [← TX.out, show Q.toNat = 0 from by omega, txtOf_done _ (by simp)]
          have FIN := Lib.hid fin
          clear hq fin
          go_wp2_with fail
          go_ret
          exact ⟨by rw [← FIN.out]; rfl, by repeat' (first | (with_reducible assumption) | (with_reducible exact Below.refl _ _) | (with_reducible refine below_drewN ?_ _) | (with_reducible refine Below.drew ?_) | (with_reducible refine Below.setCell ?_ ?_ _) | (with_reducible refine Below.alloc ?_ ?_ _) | omega | (simp; done) | (simp; omega))⟩
        · have hq0 : 0 < Q % 18446744073709551616 := by omega
          have fin : UInt8.ofNat (48 + Q % 18446744073709551616).toNat :: x :: xs = T := by rw [← TX.out, txtOf_end _ _ (by omega) (by omega)]; congr 2; omega
          have q5 : Q % 18446744073709551616 ≤ 9 := by omega
          have FIN := Lib.hid fin
          clear hq fin
          go_wp2_with fail
          go_ret
          exact ⟨by rw [← FIN.out]; rfl, by repeat' (first | (with_reducible assumption) | (with_reducible exact Below.refl _ _) | (with_reducible refine below_drewN ?_ _) | (with_reducible refine Below.drew ?_) | (with_reducible refine Below.setCell ?_ ?_ _) | (with_reducible refine Below.alloc ?_ ?_ _) | omega | (simp; done) | (simp; omega))⟩
end Go.Proofs.YtiagngnpbpblaaaDoor
