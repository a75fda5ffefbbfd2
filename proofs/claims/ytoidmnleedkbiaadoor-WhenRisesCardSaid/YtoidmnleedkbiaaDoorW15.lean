/- The contract of the reference's number: the number of some digits. Condition: at most four bytes. -/
import Derived.Test.YtoidmnleedkbiaaDoorW14
import Derived.Outline
namespace Go.Proofs.YtoidmnleedkbiaaDoor
open Go.RowKit
set_option linter.unusedSimpArgs false
set_option linter.unusedVariables false

set_option maxHeartbeats 1600000 in
set_option maxRecDepth 100000 in
theorem refNumber_any (s : ByteArray) (hs : s.size ≤ 4) (w : World) :
    Calls Tryd.prog 12 #[.string s] w fun e w' => e = .returned (.int .i64 (numOf s.data.toList)) ∧ w = w' := by
  have hlen : s.data.toList.length = s.size := by simp
  obtain ⟨P, hP⟩ : ∃ P, numOf s.data.toList = P := ⟨_, rfl⟩
  rw [hP]
  have HP := hide hP
  have HL := hide hlen
  clear hP hlen
  go_enter Tryd.func12, Tryd.ntmps12
  go_wp2_with fail
  go_loop [3, 4] (fun x i => ∃ (k : Nat) (v : Int), x = .int .i64 v ∧ i = .int .i64 k ∧ k ≤ s.size ∧ Hid ((s.data.toList.take k).all isD = true) ∧ Hid ((dval 0 (s.data.toList.take k) : Int) = v) ∧ 0 ≤ v ∧ v ≤ 9999) (fun _ i => s.size - (intOf i).toNat)
  case atStart => exact ⟨0, 0, rfl, rfl, Nat.zero_le _, hide rfl, hide rfl, by decide, by decide⟩
  case round =>
    obtain ⟨k, v, rfl, rfl, hk, HALL, HV, v0, v1⟩ := hrel
    by_cases hlt : k < s.size
    · have hbyte : s[k].toNat < 256 := UInt8.toNat_lt _
      have hin : k < s.data.toList.length := by rw [unhide HL]; exact hlt
      have hgk : s.data.toList[k] = s[k] := rfl
      by_cases hd1 : s[k].toNat < 48
      · have hno : P = -1 := by rw [← unhide HP]; exact numOf_bad hin (by rw [hgk, Bool.eq_false_iff]; intro h; have := isD_iff.1 h; omega)
        subst hno
        clear hgk
        go_wp2_with fail
        go_ret
        exact ⟨rfl, rfl⟩
      · by_cases hd2 : 57 < s[k].toNat
        · have hno : P = -1 := by rw [← unhide HP]; exact numOf_bad hin (by rw [hgk, Bool.eq_false_iff]; intro h; have := isD_iff.1 h; omega)
          subst hno
          clear hgk
          go_wp2_with fail
          go_ret
          exact ⟨rfl, rfl⟩
        · have hsub : IntKind.u8.wrap ((s[k].toNat : Int) - 48) = (s[k].toNat : Int) - 48 := IntWalk.u8_in _ (by omega)
          have hsn : Hid ((dval 0 (s.data.toList.take (k + 1)) : Int) = v * 10 + ((s[k].toNat : Int) - 48)) := hide (by
            have := unhide HV
            rw [take_more s k hlt, dval_snoc]; omega)
          have hal : Hid ((s.data.toList.take (k + 1)).all isD = true) := hide (by
            rw [take_more s k hlt, List.all_append, unhide HALL, List.all_cons, isD_iff.2 ⟨by omega, by omega⟩]; rfl)
          have hv9 : v * 10 + ((s[k].toNat : Int) - 48) ≤ 9999 := by
            have := dval_bd (s.data.toList.take (k + 1)) (by rw [List.length_take]; omega) (unhide hal)
            have := unhide hsn
            omega
          clear hgk
          go_wp2_with fail
          go_round
          case rel => exact ⟨k + 1, v * 10 + ((s[k].toNat : Int) - 48), rfl, by go_num, by omega, hal, hsn, by omega, hv9⟩
          case measure => simp [intOf]; omega
    · have hke : k = s.size := by omega
      subst hke
      have hfull : s.data.toList.take s.size = s.data.toList := List.take_of_length_le (by rw [unhide HL]; exact Nat.le_refl _)
      have hso : P = v := by
        have ha := unhide HALL
        have hv := unhide HV
        rw [hfull] at ha hv
        rw [← unhide HP]
        unfold numOf
        rw [if_pos ha, hv]
      subst hso
      clear hfull
      go_wp2_with fail
      go_ret
      exact ⟨rfl, rfl⟩
end Go.Proofs.YtoidmnleedkbiaaDoor
