/- The walk of DeciSplits. No condition. -/
import Derived.Test.YtpbfbgkiamfodaaDec4
import Derived.Test.YtpbfbgkiamfodaaDec6
namespace Go.Proofs.Ytpbfbgkiamfodaa
open Go.RowKit

set_option maxHeartbeats 800000 in
theorem deciSplits_walk (a b : Int) (a0 : 0 ≤ a) (a1 : a ≤ 18446744073709551615) (b0 : 0 ≤ b) (b1 : b ≤ 18446744073709551615) (w : World) :
    Calls Try.prog 7 #[.int .u64 a, .int .u64 b] w fun e w' => e = .returned (.bool true) ∧ Below w.heap.size w w' := by
  have J1 := Lib.hid (fun w => deciSplit_any a b a0 a1 b0 b1 w)
  have J2 := Lib.hid (fun w => refSplit_any a b a0 a1 b0 b1 w)
  go_enter Try.func7, Try.ntmps7
  go_wp2_with fail
  with_reducible refine (awake14 _).mono ?_
  rintro e w1 ⟨rfl, hb1⟩
  have hz1 := hb1.size
  go_wp2_with fail
  with_reducible refine (J1.out _).mono ?_
  rintro e w2 ⟨rfl, hb2⟩
  have hw2 := hb1.trans (hb2.mono hz1)
  have hz2 := hw2.size
  clear hb2
  go_wp2_with fail
  with_reducible refine (J2.out _).mono ?_
  rintro e w3 ⟨rfl, hb3⟩
  obtain ⟨c0, c1, f0, f1, hz, hw⟩ := kept2 hb3
  have hw3 := hw2.trans (hw.mono hz2)
  have hz3 := hw3.size
  clear hb3 hw
  clear J1 J2
  generalize sKind a = k at *
  generalize sNeg a = n at *
  generalize sHigh a b = h at *
  generalize sLow a b = l at *
  generalize sExp a = x at *
  go_wp2_with fail
  go_ret
  exact ⟨by simp, by repeat' (first | (with_reducible assumption) | (with_reducible exact Below.refl _ _) | (with_reducible refine below_drewN ?_ _) | (with_reducible refine Below.drew ?_) | (with_reducible refine Below.setCell ?_ ?_ _) | (with_reducible refine Below.alloc ?_ ?_ _) | omega | (simp; done) | (simp; omega))⟩
end Go.Proofs.Ytpbfbgkiamfodaa
