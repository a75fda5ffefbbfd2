/- The contract of math/bits.Div64: the quotient of two digits of 2^64 by one, and what is left. Condition: the divisor is above the upper digit. -/
import Derived.Test.YtiagngnpbpblaaaDoorAid
import Derived.Test.YtiagngnpbpblaaaDoorProg
import Derived.Test.YtiagngnpbpblaaaDoorKnu
import Derived.IntWalk
import Derived.Laws.Bits64
import Derived.Outline
namespace Go.Proofs.YtiagngnpbpblaaaDoor
open Go.RowKit
set_option linter.unusedSimpArgs false
set_option linter.unusedVariables false

set_option maxHeartbeats 4000000 in
set_option maxRecDepth 100000 in
theorem div64_walk (hi lo y s Y yn1 yn0 u n10 n1 n0 q0 A0 Q1 W1 W2 W3 u2 p0 C0 Q0 V1 V2 V3 rem out : Int) (w : World)
    (h0 : 0 < hi) (h1 : hi < y) (y1 : y ≤ 18446744073709551615) (l0 : 0 ≤ lo) (l1 : lo ≤ 18446744073709551615) (s0 : 0 ≤ s) (s1 : s ≤ 63)
    (LZ : ∀ w, Calls Tryd.prog 82 #[.int .u64 y] w (fun e w' => e = .returned (.int .i64 s) ∧ w = w'))
    (e1 : IntKind.u64.wrap (y * 2 ^ s.toNat) = Y) (e2 : Y / 4294967296 = yn1) (e3 : bits .and .u64 Y 4294967295 = yn0)
    (e4 : bits .or .u64 (IntKind.u64.wrap (hi * 2 ^ s.toNat)) (lo / 2 ^ (64 - s).toNat) = u)
    (e5 : IntKind.u64.wrap (lo * 2 ^ s.toNat) = n10) (e6 : n10 / 4294967296 = n1) (e7 : bits .and .u64 n10 4294967295 = n0)
    (e8 : u / yn1 = q0) (e9 : IntKind.u64.wrap (q0 * yn1) = A0)
    (e10 : IntKind.u64.wrap (u * 4294967296) = W1) (e11 : IntKind.u64.wrap (W1 + n1) = W2) (e12 : IntKind.u64.wrap (Q1 * Y) = W3) (e13 : IntKind.u64.wrap (W2 - W3) = u2)
    (e14 : u2 / yn1 = p0) (e15 : IntKind.u64.wrap (p0 * yn1) = C0)
    (e16 : IntKind.u64.wrap (u2 * 4294967296) = V1) (e17 : IntKind.u64.wrap (V1 + n0) = V2) (e18 : IntKind.u64.wrap (Q0 * Y) = V3) (e19 : IntKind.u64.wrap (V2 - V3) = rem)
    (e20 : rem / 2 ^ s.toNat = out)
    (hY : Y = yn1 * 4294967296 + yn0) (hYb : Y ≤ 18446744073709551615) (hy1 : 2147483648 ≤ yn1) (hy1' : yn1 ≤ 4294967295) (hy0 : 0 ≤ yn0) (hy0' : yn0 ≤ 4294967295)
    (hu0 : 0 ≤ u) (hu : u < Y) (hn10 : 0 ≤ n10) (hn10' : n10 ≤ 18446744073709551615) (hn1 : 0 ≤ n1) (hn1' : n1 ≤ 4294967295) (hn0 : 0 ≤ n0) (hn0' : n0 ≤ 4294967295)
    (hQ1a : Q1 * Y ≤ u * 4294967296 + n1) (hQ1b : u * 4294967296 + n1 < Q1 * Y + Y) (hQ10 : 0 ≤ Q1) (hQ11 : Q1 ≤ 4294967295)
    (hq0 : Q1 ≤ q0) (hq0' : q0 ≤ 8589934592) (hA : A0 = q0 * yn1) (hA0 : A0 ≤ u) (hA00 : 0 ≤ A0) (hA1 : u - A0 ≤ 4294967295)
    (hW1 : 0 ≤ W1) (hW1' : W1 ≤ 18446744073709551615) (hW2 : 0 ≤ W2) (hW2' : W2 ≤ 18446744073709551615) (hW3 : 0 ≤ W3) (hW3' : W3 ≤ 18446744073709551615)
    (hu20 : 0 ≤ u2) (hu2 : u2 < Y)
    (hQ0a : Q0 * Y ≤ u2 * 4294967296 + n0) (hQ0b : u2 * 4294967296 + n0 < Q0 * Y + Y) (hQ00 : 0 ≤ Q0) (hQ01 : Q0 ≤ 4294967295)
    (hp0 : Q0 ≤ p0) (hp0' : p0 ≤ 8589934592) (hC : C0 = p0 * yn1) (hC0 : C0 ≤ u2) (hC00 : 0 ≤ C0) (hC1 : u2 - C0 ≤ 4294967295)
    (hV1 : 0 ≤ V1) (hV1' : V1 ≤ 18446744073709551615) (hV2 : 0 ≤ V2) (hV2' : V2 ≤ 18446744073709551615) (hV3 : 0 ≤ V3) (hV3' : V3 ≤ 18446744073709551615)
    (hr0 : 0 ≤ rem) (hr1 : rem ≤ 18446744073709551615) :
    Calls Tryd.prog 69 #[.int .u64 hi, .int .u64 lo, .int .u64 y] w fun e w' => e = .returned (.tuple #[.int .u64 (Q1 * 4294967296 + Q0), .int .u64 out]) ∧ w = w' := by
  replace LZ := Lib.hid LZ
  have HY := Lib.hid hY
  have HA := Lib.hid hA
  have HC := Lib.hid hC
  have a1 := Lib.hid hQ1a
  have a2 := Lib.hid hQ1b
  have a3 := Lib.hid hQ0a
  have a4 := Lib.hid hQ0b
  have hY0 : 0 < Y := by omega
  clear hY hA hC hQ1a hQ1b hQ0a hQ0b
  have hne : ¬ hi = 0 := by omega
  have hny : ¬ y = 0 := by omega
  have hnl : ¬ y ≤ hi := by omega
  go_enter Tryd.func69, Tryd.ntmps69
  go_wp2_with fail
  with_reducible refine (LZ.out _).mono ?_
  rintro e w' ⟨rfl, rfl⟩
  go_upto_block 0 with fail
  go_cut [15] (fun q W => q = .int .u64 Q1 ∧ w = W)
  case first =>
    go_wp2_with fail
    have E8 := hide e8
    clear e8
    go_loopg [15, 16] (q0 - Q1).toNat (fun g q r wr => ∃ qq rr : Int, q = .int .u64 qq ∧ r = .int .u64 rr ∧ Q1 ≤ qq ∧ qq ≤ 8589934592 ∧ 0 ≤ rr ∧ rr ≤ 4294967295 ∧ Hid (rr = u - qq * yn1) ∧ (qq - Q1).toNat ≤ g ∧ wr = w)
    case atStart => exact ⟨q0, u - A0, by rw [unhide E8], rfl, by omega, by omega, by omega, by omega, hide (by rw [HA.out]), Nat.le_refl _, rfl⟩
    case round =>
      obtain ⟨qq, rr, rfl, rfl, g1, g2, g3, g4, g5, g6, rfl⟩ := hrel
      by_cases c1 : 4294967296 ≤ qq
      · have hd := knu_down1 hY0 hu (by omega) a1.out c1
        have hst := hide (knu_step (unhide g5))
        by_cases c2 : 4294967296 ≤ rr + yn1
        · have hfin := hide (knu_break HY.out hY0 hy0 (by omega) (by omega) hn1 hu (unhide hst) c2 hd (by omega) a2.out)
          go_wp2_with fail
          go_meet
          exact ⟨by rw [unhide hfin], rfl⟩
        · go_wp2_with fail
          go_roundg (qq - 1 - Q1).toNat
          case measure => omega
          case rel => exact ⟨qq - 1, rr + yn1, rfl, rfl, hd, by omega, by omega, by omega, hst, Nat.le_refl _, rfl⟩
      · have hB := knu_B (q := qq) (y := yn0) (by omega) (by omega) hy0 (by omega)
        obtain ⟨B, hBe⟩ : ∃ B, qq * yn0 = B := ⟨_, rfl⟩
        have eB : IntKind.u64.wrap (qq * yn0) = B := by rw [← hBe]; exact IntWalk.u64_in _ (by omega)
        rw [hBe] at hB
        have HB := hide hBe
        clear hBe
        by_cases c3 : 4294967296 * rr + n1 < B
        · have hd := knu_down2 HY.out hY0 rfl (unhide HB).symm (unhide g5) a1.out c3
          have hst := hide (knu_step (unhide g5))
          by_cases c2 : 4294967296 ≤ rr + yn1
          · have hfin := hide (knu_break HY.out hY0 hy0 (by omega) (by omega) hn1 hu (unhide hst) c2 hd (by omega) a2.out)
            go_wp2_with fail
            go_meet
            exact ⟨by rw [unhide hfin], rfl⟩
          · go_wp2_with fail
            go_roundg (qq - 1 - Q1).toNat
            case measure => omega
            case rel => exact ⟨qq - 1, rr + yn1, rfl, rfl, hd, by omega, by omega, by omega, hst, Nat.le_refl _, rfl⟩
        · have hfin := hide (knu_exit HY.out hY0 rfl (unhide HB).symm (unhide g5) g1 a2.out (by omega))
          go_wp2_with fail
          go_meet
          exact ⟨by rw [unhide hfin], rfl⟩
  case rest =>
    obtain ⟨rfl, rfl⟩ := hcut
    clear e1 e2 e3 e4 e5 e6 e7 e8 e9
    go_upto_block 2 with fail
    go_cut [18] (fun q W => q = .int .u64 Q0 ∧ w = W)
    case first =>
      go_wp2_with fail
      have E8 := hide e14
      clear e14
      go_loopg [18, 16] (p0 - Q0).toNat (fun g q r wr => ∃ qq rr : Int, q = .int .u64 qq ∧ r = .int .u64 rr ∧ Q0 ≤ qq ∧ qq ≤ 8589934592 ∧ 0 ≤ rr ∧ rr ≤ 4294967295 ∧ Hid (rr = u2 - qq * yn1) ∧ (qq - Q0).toNat ≤ g ∧ wr = w)
      case atStart => exact ⟨p0, u2 - C0, by rw [unhide E8], rfl, by omega, by omega, by omega, by omega, hide (by rw [HC.out]), Nat.le_refl _, rfl⟩
      case round =>
        obtain ⟨qq, rr, rfl, rfl, g1, g2, g3, g4, g5, g6, rfl⟩ := hrel
        by_cases c1 : 4294967296 ≤ qq
        · have hd := knu_down1 hY0 hu2 (by omega) a3.out c1
          have hst := hide (knu_step (unhide g5))
          by_cases c2 : 4294967296 ≤ rr + yn1
          · have hfin := hide (knu_break HY.out hY0 hy0 (by omega) (by omega) hn0 hu2 (unhide hst) c2 hd (by omega) a4.out)
            go_wp2_with fail
            go_meet
            exact ⟨by rw [unhide hfin], rfl⟩
          · go_wp2_with fail
            go_roundg (qq - 1 - Q0).toNat
            case measure => omega
            case rel => exact ⟨qq - 1, rr + yn1, rfl, rfl, hd, by omega, by omega, by omega, hst, Nat.le_refl _, rfl⟩
        · have hB := knu_B (q := qq) (y := yn0) (by omega) (by omega) hy0 (by omega)
          obtain ⟨B, hBe⟩ : ∃ B, qq * yn0 = B := ⟨_, rfl⟩
          have eB : IntKind.u64.wrap (qq * yn0) = B := by rw [← hBe]; exact IntWalk.u64_in _ (by omega)
          rw [hBe] at hB
          have HB := hide hBe
          clear hBe
          by_cases c3 : 4294967296 * rr + n0 < B
          · have hd := knu_down2 HY.out hY0 rfl (unhide HB).symm (unhide g5) a3.out c3
            have hst := hide (knu_step (unhide g5))
            by_cases c2 : 4294967296 ≤ rr + yn1
            · have hfin := hide (knu_break HY.out hY0 hy0 (by omega) (by omega) hn0 hu2 (unhide hst) c2 hd (by omega) a4.out)
              go_wp2_with fail
              go_meet
              exact ⟨by rw [unhide hfin], rfl⟩
            · go_wp2_with fail
              go_roundg (qq - 1 - Q0).toNat
              case measure => omega
              case rel => exact ⟨qq - 1, rr + yn1, rfl, rfl, hd, by omega, by omega, by omega, hst, Nat.le_refl _, rfl⟩
          · have hfin := hide (knu_exit HY.out hY0 rfl (unhide HB).symm (unhide g5) g1 a4.out (by omega))
            go_wp2_with fail
            go_meet
            exact ⟨by rw [unhide hfin], rfl⟩
    case rest =>
      obtain ⟨rfl, rfl⟩ := hcut
      go_wp2_with fail
      go_ret2
      exact ⟨rfl, rfl⟩
end Go.Proofs.YtiagngnpbpblaaaDoor
