/- Contracts of whole.is, whole.digits and the reference's run. Condition: texts of at most 1000 bytes. -/
import Derived.Test.YtdfpknomhambcaaDoorProg
import Derived.Test.YtdfpknomhambcaaDoorAid
import Derived.Test.YtdfpknomhambcaaDoorPin
import Derived.Outline
namespace Go.Proofs.YtdfpknomhambcaaDoor
open Go.RowKit
set_option linter.unusedSimpArgs false
set_option linter.unusedVariables false

theorem ret_nn {a b : Nat} (h : a = b) : Ending.returned (.int .i64 (a : Int)) = .returned (.int .i64 (b : Int)) := by rw [h]
set_option maxHeartbeats 800000 in
theorem is_any (s : ByteArray) (hs : s.size ≤ 1000) (k : Nat) (c d : Int) (w : World) :
    Calls Tryd.prog 35 #[.string s, .int .i64 k, .int .u8 c, .int .u8 d] w fun e w' => e = .returned (.bool (hdIs (s.data.toList.drop k) c d)) ∧ w = w' := by
  have hlen : s.data.toList.length = s.size := by simp
  by_cases hk : k < s.size
  · have hin : k < s.data.toList.length := by rw [hlen]; exact hk
    have hh := hdIs_at hin c d
    have hgk : s.data.toList[k] = s[k] := rfl
    rw [hgk] at hh
    rw [hh]
    clear hh hgk
    cases h1 : ((s[k].toNat : Int) == c) <;> cases h2 : ((s[k].toNat : Int) == d)
    all_goals
      go_enter Tryd.func35, Tryd.ntmps35
      go_wp2_with fail
      go_ret
      exact ⟨rfl, rfl⟩
  · rw [hdIs_end (by rw [hlen]; omega)]
    clear hlen
    go_enter Tryd.func35, Tryd.ntmps35
    go_wp2_with fail
    go_ret
    exact ⟨rfl, rfl⟩

set_option maxHeartbeats 800000 in
theorem digits_any (s : ByteArray) (hs : s.size ≤ 1000) (k : Nat) (hk : k ≤ s.size) (w : World) :
    Calls Tryd.prog 36 #[.string s, .int .i64 k] w fun e w' => e = .returned (.int .i64 ((k + runL (s.data.toList.drop k) : Nat) : Int)) ∧ w = w' := by
  obtain ⟨R, hR⟩ : ∃ R : Nat, k + runL (s.data.toList.drop k) = R := ⟨_, rfl⟩
  rw [hR]
  have HR : Hid (k + runL (s.data.toList.drop k) = R) := hide (by exact hR)
  have hlen : s.data.toList.length = s.size := by simp
  have HL := Lib.hid hlen
  clear hR hlen
  go_enter Tryd.func36, Tryd.ntmps36
  go_wp2_with fail
  go_loop [1] (fun t => ∃ k : Nat, k ≤ s.size ∧ t = .int .i64 k ∧ Hid (k + runL (s.data.toList.drop k) = R)) (fun t => s.size - (intOf t).toNat)
  case atStart => exact ⟨k, hk, rfl, HR⟩
  case round =>
    obtain ⟨k, hk, rfl, hrun⟩ := hrel
    by_cases hlt : k < s.size
    · have hin : k < s.data.toList.length := by rw [HL.out]; exact hlt
      have hgk : s.data.toList[k] = s[k] := rfl
      by_cases h1 : s[k].toNat < 48
      · have hst := run_stop hin (by rw [hgk, Bool.eq_false_iff]; intro h; have := isD_iff.1 h; omega)
        have hx : ¬ (48 : Int) ≤ (s[k].toNat : Int) := by omega
        have HE : Hid (k = R) := hide (by have := unhide hrun; omega)
        clear hst hgk
        go_wp2_with fail
        go_ret
        exact ⟨ret_nn (unhide HE), rfl⟩
      · by_cases h2 : 57 < s[k].toNat
        · have hst := run_stop hin (by rw [hgk, Bool.eq_false_iff]; intro h; have := isD_iff.1 h; omega)
          have HE : Hid (k = R) := hide (by have := unhide hrun; omega)
          have hx : (48 : Int) ≤ (s[k].toNat : Int) := by omega
          have hy : ¬ (s[k].toNat : Int) ≤ 57 := by omega
          clear hst hgk
          go_wp2_with fail
          go_ret
          exact ⟨ret_nn (unhide HE), rfl⟩
        · have hst := run_step hin (by rw [hgk]; exact isD_iff.2 ⟨by omega, by omega⟩)
          have HE : Hid (k + 1 + runL (s.data.toList.drop (k + 1)) = R) := hide (by have := unhide hrun; omega)
          have hx : (48 : Int) ≤ (s[k].toNat : Int) := by omega
          have hy : (s[k].toNat : Int) ≤ 57 := by omega
          clear hst hgk
          go_wp2_with fail
          go_round
          case rel => exact ⟨k + 1, by omega, by go_num, HE⟩
          case measure => simp [intOf]; omega
    · have hst := run_end (l := s.data.toList) (i := k) (by rw [HL.out]; omega)
      have HE : Hid (k = R) := hide (by have := unhide hrun; omega)
      clear hst
      go_wp2_with fail
      go_ret
      exact ⟨ret_nn (unhide HE), rfl⟩

set_option maxHeartbeats 800000 in
theorem run_any (s : ByteArray) (hs : s.size ≤ 1000)  (w : World) :
    Calls Tryd.prog 37 #[.string s] w fun e w' => e = .returned (.int .i64 ((runL s.data.toList : Nat) : Int)) ∧ w = w' := by
  obtain ⟨R, hR⟩ : ∃ R : Nat, runL s.data.toList = R := ⟨_, rfl⟩
  rw [hR]
  have HR : Hid (0 + runL (s.data.toList.drop 0) = R) := hide (by rw [← hR]; simp)
  have hlen : s.data.toList.length = s.size := by simp
  have HL := Lib.hid hlen
  clear hR hlen
  go_enter Tryd.func37, Tryd.ntmps37
  go_wp2_with fail
  go_loop [3] (fun t => ∃ k : Nat, k ≤ s.size ∧ t = .int .i64 k ∧ Hid (k + runL (s.data.toList.drop k) = R)) (fun t => s.size - (intOf t).toNat)
  case atStart => exact ⟨0, Nat.zero_le _, rfl, HR⟩
  case round =>
    obtain ⟨k, hk, rfl, hrun⟩ := hrel
    by_cases hlt : k < s.size
    · have hin : k < s.data.toList.length := by rw [HL.out]; exact hlt
      have hgk : s.data.toList[k] = s[k] := rfl
      by_cases h1 : s[k].toNat < 48
      · have hst := run_stop hin (by rw [hgk, Bool.eq_false_iff]; intro h; have := isD_iff.1 h; omega)
        have hx : ¬ (48 : Int) ≤ (s[k].toNat : Int) := by omega
        have HE : Hid (k = R) := hide (by have := unhide hrun; omega)
        clear hst hgk
        go_wp2_with fail
        go_ret
        exact ⟨ret_nn (unhide HE), rfl⟩
      · by_cases h2 : 57 < s[k].toNat
        · have hst := run_stop hin (by rw [hgk, Bool.eq_false_iff]; intro h; have := isD_iff.1 h; omega)
          have HE : Hid (k = R) := hide (by have := unhide hrun; omega)
          have hx : (48 : Int) ≤ (s[k].toNat : Int) := by omega
          have hy : ¬ (s[k].toNat : Int) ≤ 57 := by omega
          clear hst hgk
          go_wp2_with fail
          go_ret
          exact ⟨ret_nn (unhide HE), rfl⟩
        · have hst := run_step hin (by rw [hgk]; exact isD_iff.2 ⟨by omega, by omega⟩)
          have HE : Hid (k + 1 + runL (s.data.toList.drop (k + 1)) = R) := hide (by have := unhide hrun; omega)
          have hx : (48 : Int) ≤ (s[k].toNat : Int) := by omega
          have hy : (s[k].toNat : Int) ≤ 57 := by omega
          clear hst hgk
          go_wp2_with fail
          go_round
          case rel => exact ⟨k + 1, by omega, by go_num, HE⟩
          case measure => simp [intOf]; omega
    · have hst := run_end (l := s.data.toList) (i := k) (by rw [HL.out]; omega)
      have HE : Hid (k = R) := hide (by have := unhide hrun; omega)
      clear hst
      go_wp2_with fail
      go_ret
      exact ⟨ret_nn (unhide HE), rfl⟩

end Go.Proofs.YtdfpknomhambcaaDoor
