/- The reference's Parse of a time: the words, and the texts out of shape. Conditions: as each says. -/
import Derived.Test.YtoidmnleedkbiaaDoorW22
import Derived.Outline
import Derived.Deep.QuietTactic
import Derived.BigQuiet
namespace Go.Proofs.YtoidmnleedkbiaaDoor
open Go.RowKit
set_option linter.unusedSimpArgs false
set_option linter.unusedVariables false
theorem byte_eq {s : ByteArray} {k c : Nat} (C : Int) (hC : C = c) (hk : k < s.size) (h : byteIs s k c) : (((s[k]'hk).toNat : Int) == C) = true := by
  subst hC
  obtain ⟨_, h⟩ := h
  rw [h]
  simp
theorem byte_eqn {s : ByteArray} {k c : Nat} (C : Int) (hC : C = c) (hk : k < s.size) (h : ¬ byteIs s k c) : (((s[k]'hk).toNat : Int) == C) = false := by
  subst hC
  rw [beq_eq_false_iff_ne]
  intro e
  exact h ⟨hk, by omega⟩
theorem qsame {P : Program} {f : FuncId} {a : Array Value} {w : World} {v : Ending} (h : Calls P f a w fun e w' => e = v ∧ w = w') : Calls P f a w fun e w' => e = v ∧ w' = w :=
  h.mono fun _ _ ⟨x, y⟩ => ⟨x, y.symm⟩
def SwOk (s : ByteArray) (f : Int) : Prop := (s.size = 24 ∧ byteIs s 19 46 ∧ byteIs s 23 90 ∧ fld s.data.toList 20 23 = f) ∨ (s.size = 20 ∧ byteIs s 19 90 ∧ f = 0)
def Nums (s : ByteArray) (n1 n2 n3 n4 n5 n6 : Int) : Prop := fld s.data.toList 0 4 = n1 ∧ fld s.data.toList 5 7 = n2 ∧ fld s.data.toList 8 10 = n3 ∧ fld s.data.toList 11 13 = n4 ∧ fld s.data.toList 14 16 = n5 ∧ fld s.data.toList 17 19 = n6
theorem refNum_fld (s : ByteArray) (a b : Nat) (n : Int) (hab : a ≤ b) (hb : b ≤ s.size) (h4 : b ≤ a + 4) (e : fld s.data.toList a b = n) (w : World) :
    Calls Tryd.prog 12 #[.string (s.extract a b)] w fun e w' => e = .returned (.int .i64 n) ∧ w = w' := by
  have h := refNumber_any (s.extract a b) (by simp; omega) w
  rw [ext_fld, e] at h
  exact h
theorem refDaysM (y m M : Int) (e : mlen y m = M) (y0 : 0 ≤ y) (y1 : y ≤ 10001) (m0 : 1 ≤ m) (m1 : m ≤ 12) (w : World) :
    Calls Tryd.prog 13 #[.int .i64 y, .int .i64 m] w fun e w' => e = .returned (.int .i64 M) ∧ w = w' := by
  rw [← e]; exact refDays_any y m y0 y1 m0 m1 w
set_option maxHeartbeats 800000 in
set_option maxRecDepth 100000 in
theorem refOut_any (s : ByteArray) (h100 : s.size ≤ 100) (hno : ∀ f, ¬ SwOk s f) (w : World) :
    Calls Tryd.prog 7 #[.string s] w fun e w' => e = .returned (.tuple #[.int .i64 0, .bool false]) ∧ Below w.heap.size w w' := by
  by_cases hz : s.size = 24
  · by_cases a : byteIs s 19 46
    · have b : ¬ byteIs s 23 90 := fun b => hno _ (Or.inl ⟨hz, a, b, rfl⟩)
      have x19 := byte_eq 46 rfl (by omega) a
      have x23 := byte_eqn 90 rfl (by omega) b
      clear a b hno
      go_enter Tryd.func7, Tryd.ntmps7
      go_wp2_with fail
      go_ret2
      exact ⟨rfl, by repeat' (first | (with_reducible assumption) | (with_reducible exact Below.refl _ _) | (with_reducible refine below_drewN ?_ _) | (with_reducible refine Below.drew ?_) | (with_reducible refine Below.setCell ?_ ?_ _) | (with_reducible refine Below.alloc ?_ ?_ _) | omega | (simp; done) | (simp; omega))⟩
    · have x19 := byte_eqn 46 rfl (by omega) a
      clear a hno
      go_enter Tryd.func7, Tryd.ntmps7
      go_wp2_with fail
      go_ret2
      exact ⟨rfl, by repeat' (first | (with_reducible assumption) | (with_reducible exact Below.refl _ _) | (with_reducible refine below_drewN ?_ _) | (with_reducible refine Below.drew ?_) | (with_reducible refine Below.setCell ?_ ?_ _) | (with_reducible refine Below.alloc ?_ ?_ _) | omega | (simp; done) | (simp; omega))⟩
  · by_cases h20 : s.size = 20
    · have a : ¬ byteIs s 19 90 := fun a => hno 0 (Or.inr ⟨h20, a, rfl⟩)
      have x19 := byte_ne 90 rfl (by omega) a
      clear a hno
      go_enter Tryd.func7, Tryd.ntmps7
      go_wp2_with fail
      go_ret2
      exact ⟨rfl, by repeat' (first | (with_reducible assumption) | (with_reducible exact Below.refl _ _) | (with_reducible refine below_drewN ?_ _) | (with_reducible refine Below.drew ?_) | (with_reducible refine Below.setCell ?_ ?_ _) | (with_reducible refine Below.alloc ?_ ?_ _) | omega | (simp; done) | (simp; omega))⟩
    · clear hno
      go_enter Tryd.func7, Tryd.ntmps7
      go_wp2_with fail
      go_ret2
      exact ⟨rfl, by repeat' (first | (with_reducible assumption) | (with_reducible exact Below.refl _ _) | (with_reducible refine below_drewN ?_ _) | (with_reducible refine Below.drew ?_) | (with_reducible refine Below.setCell ?_ ?_ _) | (with_reducible refine Below.alloc ?_ ?_ _) | omega | (simp; done) | (simp; omega))⟩
set_option maxHeartbeats 1600000 in
set_option maxRecDepth 100000 in
theorem refP_1 (s : ByteArray) (h20 : 20 ≤ s.size) (h100 : s.size ≤ 100) (f n1 n2 n3 n4 n5 n6 M : Int) (SW : SwOk s f) (NU : Nums s n1 n2 n3 n4 n5 n6) (q1 : ¬ byteIs s 4 45) (w : World) :
    Calls Tryd.prog 7 #[.string s] w fun e w' => e = .returned (.tuple #[.int .i64 0, .bool false]) ∧ Below w.heap.size w w' := by
  have HSW := Lib.hid SW
  obtain ⟨E1, E2, E3, E4, E5, E6⟩ := NU
  have z20 : (20 : Int) ≤ (s.size : Int) := by omega
  have z4 : (4 : Int) ≤ (s.size : Int) := by omega
  have R1 := Lib.hid (fun w => refNum_fld s 0 4 n1 (by omega) (by omega) (by omega) E1 w)
  have R2 := Lib.hid (fun w => refNum_fld s 5 7 n2 (by omega) (by omega) (by omega) E2 w)
  have R3 := Lib.hid (fun w => refNum_fld s 8 10 n3 (by omega) (by omega) (by omega) E3 w)
  have R4 := Lib.hid (fun w => refNum_fld s 11 13 n4 (by omega) (by omega) (by omega) E4 w)
  have R5 := Lib.hid (fun w => refNum_fld s 14 16 n5 (by omega) (by omega) (by omega) E5 w)
  have R6 := Lib.hid (fun w => refNum_fld s 17 19 n6 (by omega) (by omega) (by omega) E6 w)
  have n1t : n1 ≤ 9999 := by rw [← E1]; exact numOf_top _ (by simp; omega)
  clear SW E1 E2 E3 E4 E5 E6
  have c1 := byte_ne 45 rfl (by omega) q1
  clear q1
  go_enter Tryd.func7, Tryd.ntmps7
  go_upto_block 0 with fail
  go_cut [4] (fun v W => v = .int .i64 f ∧ w = W)
  case first =>
    rcases HSW.out with ⟨hz, a, b, e⟩ | ⟨hz, a, rfl⟩
    · have RN := Lib.hid (fun w => refNum_fld s 20 23 f (by omega) (by omega) (by omega) e w)
      have x19 : (((s[19]'(by omega)).toNat : Int) == 46) = true := byte_eq 46 rfl (by omega) a
      have x23 : (((s[23]'(by omega)).toNat : Int) == 90) = true := byte_eq 90 rfl (by omega) b
      clear a b e HSW
      go_wp2_with fail
      with_reducible refine (RN.out _).mono ?_
      rintro e w' ⟨rfl, rfl⟩
      go_wp2_with fail
      go_meet
      exact ⟨rfl, rfl⟩
    · have x19 := byte_ok 90 rfl (by omega) a
      clear a HSW
      go_wp2_with fail
      go_meet
      exact ⟨rfl, rfl⟩
  obtain ⟨rfl, rfl⟩ := hcut
  go_wp2_with fail
  go_quiet ((go_at_call 12; first | with_reducible exact Calls.quiet_of_same (qsame (R1.out _)) | with_reducible exact Calls.quiet_of_same (qsame (R2.out _)) | with_reducible exact Calls.quiet_of_same (qsame (R3.out _)) | with_reducible exact Calls.quiet_of_same (qsame (R4.out _)) | with_reducible exact Calls.quiet_of_same (qsame (R5.out _)) | with_reducible exact Calls.quiet_of_same (qsame (R6.out _))))
  go_wp2_with fail
  go_ret2
  exact ⟨rfl, by repeat' (first | (with_reducible assumption) | (with_reducible exact Below.refl _ _) | (with_reducible refine below_drewN ?_ _) | (with_reducible refine Below.drew ?_) | (with_reducible refine Below.setCell ?_ ?_ _) | (with_reducible refine Below.alloc ?_ ?_ _) | omega | (simp; done) | (simp; omega))⟩
end Go.Proofs.YtoidmnleedkbiaaDoor
