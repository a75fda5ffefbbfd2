/- The reference's run of digits; a far exponent's clamp changes nothing. -/
import Derived.Test.YtiagngnpbpblaaaDoorQ17
import Derived.Test.YtiagngnpbpblaaaDoorQ5
namespace Go.Proofs.YtiagngnpbpblaaaDoor
open Go.RowKit
set_option linter.unusedSimpArgs false
set_option linter.unusedVariables false

theorem fin_clamp {e1 e2 : Int} {beh : Nat} (h : ExpRel e1 e2) (hb : beh ≤ 400) (ng : Bool) (dg : List UInt8) (hl : dg.length ≤ 400) : finR ng (e1 - beh) dg = finR ng (e2 - beh) dg := by
  obtain ⟨core, hc⟩ : ∃ core, Lib.trimRightB dg 48 = core := ⟨_, rfl⟩
  have hcl : core.length ≤ dg.length := by rw [← hc]; exact trimR_le dg 48
  unfold ExpRel at h
  rcases h with rfl | h
  · rfl
  · by_cases h0 : core.length = 0
    · have hf : ∀ q : Int, farOf q dg.length core.length = false := fun q => by
        unfold farOf leastOf mostOf
        rw [if_pos h0, if_pos h0, h0]; rfl
      have hx : expOf (e1 - beh) dg.length core.length = expOf (e2 - beh) dg.length core.length := by
        unfold expOf leastOf mostOf
        rw [if_pos h0, if_pos h0]
        omega
      have hnil : core = [] := List.eq_nil_of_length_eq_zero h0
      have hV : ∀ z z' : Int, cofV core z = cofV core z' := fun z z' => by unfold cofV coefL; rw [if_pos hnil, if_pos hnil]
      rw [fin_ok (q := e1 - beh) hc (hf _) rfl rfl, fin_ok (q := e2 - beh) hc (hf _) rfl rfl, hx, hV _ (e2 - beh + dg.length - core.length - expOf (e2 - beh) dg.length core.length)]
    · have hf : ∀ q : Int, q = e1 - beh ∨ q = e2 - beh → farOf q dg.length (Lib.trimRightB dg 48).length = true := fun q hq => by
        rw [hc]
        unfold farOf leastOf mostOf
        rw [if_neg h0, if_neg h0, Bool.or_eq_true, decide_eq_true_eq, decide_eq_true_eq]
        omega
      rw [fin_far (hf _ (Or.inl rfl)), fin_far (hf _ (Or.inr rfl))]
set_option maxHeartbeats 1600000 in
set_option maxRecDepth 100000 in
theorem refRun6_any (s : ByteArray) (hs : s.size ≤ 100000) (w : World) :
    Calls Tryd.prog 42 #[.string s] w fun e w' => e = .returned (.int .i64 (runL s.data.toList)) ∧ w = w' := by
  obtain ⟨L, hL⟩ : ∃ L, s.data.toList = L := ⟨_, rfl⟩
  have hLs : L.length = s.size := by rw [← hL]; simp
  have hLg : ∀ K (h : K < s.size) (h2 : K < L.length), L[K] = s[K] := fun K h h2 => by subst hL; rfl
  rw [hL]
  have HLS := Lib.hid hLs
  have HLG := Lib.hid hLg
  clear hL hLs hLg
  go_enter Tryd.func42, Tryd.ntmps42
  go_wp2_with fail
  go_loopw [3] (fun i W => ∃ K : Nat, i = .int .i64 K ∧ K ≤ s.size ∧ Hid (runL L = K + runL (L.drop K)) ∧ W = w) (fun i _ => s.size - (intOf i).toNat)
  case atStart => exact ⟨0, rfl, Nat.zero_le _, Lib.hid (by rw [List.drop_zero, Nat.zero_add]), rfl⟩
  case round =>
    obtain ⟨K, rfl, hK, HR, rfl⟩ := hrel
    by_cases hlt : K < s.size
    · obtain ⟨x, hx⟩ : ∃ x : UInt8, s[K]'hlt = x := ⟨_, rfl⟩
      have h2 : K < L.length := by rw [HLS.out]; exact hlt
      have hLx : L[K] = x := by rw [HLG.out K hlt h2]; exact hx
      cases hd : isD x
      · have hres : ((runL L : Nat) : Int) = (K : Int) := by
          rw [HR.out, run_stop h2 (by rw [hLx]; exact hd), Nat.add_zero]
        have hd2 : x.toNat < 48 ∨ 57 < x.toNat := by
          unfold isD at hd
          rw [Bool.and_eq_false_iff, decide_eq_false_iff_not, decide_eq_false_iff_not] at hd
          omega
        have HRES := Lib.hid hres
        clear hLx hd hres
        rcases hd2 with hd2 | hd2
        · go_wp2_with fail
          go_ret
          exact ⟨by show Ending.returned (.int .i64 (K : Int)) = _; rw [HRES.out], rfl⟩
        · go_wp2_with fail
          go_ret
          exact ⟨by show Ending.returned (.int .i64 (K : Int)) = _; rw [HRES.out], rfl⟩
      · have HR2 : Hid (runL L = K + 1 + runL (L.drop (K + 1))) := Lib.hid (by
          rw [HR.out, run_step h2 (by rw [hLx]; exact hd)]; omega)
        obtain ⟨d1, d2⟩ : 48 ≤ x.toNat ∧ x.toNat ≤ 57 := by
          unfold isD at hd
          rw [Bool.and_eq_true, decide_eq_true_eq, decide_eq_true_eq] at hd
          exact hd
        clear hLx hd
        go_wp2_with fail
        go_roundw
        case rel => exact ⟨K + 1, by go_num, by omega, HR2, by first | trivial | rfl⟩
        case measure => first | (simp [intOf]; done) | (simp [intOf]; omega)
    · have hres : ((runL L : Nat) : Int) = (K : Int) := by
        rw [HR.out, run_end (by rw [HLS.out]; omega), Nat.add_zero]
      have HRES := Lib.hid hres
      clear hres
      go_wp2_with fail
      go_ret
      exact ⟨by show Ending.returned (.int .i64 (K : Int)) = _; rw [HRES.out], rfl⟩
end Go.Proofs.YtiagngnpbpblaaaDoor
