/- Contracts of fault.Code and the reference's Code. Condition: a text of at most 100000 bytes. -/
import Derived.Test.YthaphecoalepgaaDoorFa
namespace Go.Proofs.YthaphecoalepgaaDoor
open Go.RowKit
set_option linter.unusedSimpArgs false
set_option linter.unusedVariables false

theorem str_ext {a b : ByteArray} (h : a.data.toList = b.data.toList) : a = b := ByteArray.ext (Array.ext' h)
theorem ret_ib2 {e f : Int} {b d : Bool} (h1 : e = f) (h2 : b = d) : Ending.returned (.tuple #[.int .i64 e, .bool b]) = .returned (.tuple #[.int .i64 f, .bool d]) := by rw [h1, h2]
set_option maxRecDepth 100000 in
set_option maxHeartbeats 1600000 in
theorem faultCode_any (s : ByteArray) (hs : s.size ≤ 100000) (w : World) :
    Calls Tryd.prog 9 #[.string s] w fun en w' => ∃ e b, CodeIs s.data.toList e b ∧ en = .returned (.tuple #[.int .i64 e, .bool b]) ∧ Below w.heap.size w w' := by
  have NM := Lib.hid (fun (k : Nat) (w : World) => by
    have h := faultName_any (k : Int) w
    rw [nmL_nat] at h
    exact h)
  go_enter Tryd.func9, Tryd.ntmps9
  go_wp2_with fail
  go_loopw [4] (fun x wr => ∃ k : Nat, x = .int .i64 k ∧ k ≤ 13 ∧ Hid (∀ j, j < k → nmN j ≠ s.data.toList) ∧ Below w.heap.size w wr) (fun x _ => 13 - (intOf x).toNat)
  case atStart => exact ⟨0, rfl, by omega, Lib.hid (fun j hj => absurd hj (Nat.not_lt_zero _)), by repeat' (first | (with_reducible assumption) | (with_reducible exact Below.refl _ _) | (with_reducible refine below_drewN ?_ _) | (with_reducible refine Below.drew ?_) | (with_reducible refine Below.setCell ?_ ?_ _) | (with_reducible refine Below.alloc ?_ ?_ _) | omega | (simp; done) | (simp; omega))⟩
  case round =>
    obtain ⟨k, rfl, hk, HB, hbw⟩ := hrel
    have hz0 := hbw.size
    have NK := Lib.hid (fun w => NM.out k w)
    obtain ⟨nb, hnb⟩ : ∃ nb : ByteArray, (⟨(nmN k).toArray⟩ : ByteArray) = nb := ⟨_, rfl⟩
    rw [hnb] at NK
    have hnl : nb.data.toList = nmN k := by rw [← hnb]
    by_cases hk13 : k < 13
    · have hE : nb.toList.isEmpty = false := by
        rw [isEmpty_size]
        have e : nb.data.toList.length = nb.size := by simp
        have h1 := (nm_facts k hk13).1
        rw [hnl] at e
        refine decide_eq_false (fun h0 => h1 (List.eq_nil_of_length_eq_zero (by omega)))
      by_cases hq : nb = s
      · have HC : Hid (CodeIs s.data.toList k true) := Lib.hid (code_hit hk13 (by rw [← hq, hnl]))
        subst hq
        clear hnl hnb NM HB
        go_wp2_with fail
        with_reducible refine (NK.out _).mono ?_
        rintro e w1 ⟨rfl, hb1⟩
        have hw1 : Below w.heap.size w w1 := Below.trans (by repeat' (first | (with_reducible assumption) | (with_reducible exact Below.refl _ _) | (with_reducible refine below_drewN ?_ _) | (with_reducible refine Below.drew ?_) | (with_reducible refine Below.setCell ?_ ?_ _) | (with_reducible refine Below.alloc ?_ ?_ _) | omega | (simp; done) | (simp; omega))) (hb1.mono (by first | assumption | (simp; done) | (simp; omega)))
        have hz1 := hw1.size
        clear hb1
        go_wp2_with fail
        with_reducible refine (NK.out _).mono ?_
        rintro e w2 ⟨rfl, hb2⟩
        have hw2 : Below w.heap.size w w2 := Below.trans (by repeat' (first | (with_reducible assumption) | (with_reducible exact Below.refl _ _) | (with_reducible refine below_drewN ?_ _) | (with_reducible refine Below.drew ?_) | (with_reducible refine Below.setCell ?_ ?_ _) | (with_reducible refine Below.alloc ?_ ?_ _) | omega | (simp; done) | (simp; omega))) (hb2.mono (by first | assumption | (simp; done) | (simp; omega)))
        have hz2 := hw2.size
        clear hb2
        go_wp2_with fail
        go_ret2
        exact ⟨_, _, HC.out, rfl, by repeat' (first | (with_reducible assumption) | (with_reducible exact Below.refl _ _) | (with_reducible refine below_drewN ?_ _) | (with_reducible refine Below.drew ?_) | (with_reducible refine Below.setCell ?_ ?_ _) | (with_reducible refine Below.alloc ?_ ?_ _) | omega | (simp; done) | (simp; omega))⟩
      · have HB2 : Hid (∀ j, j < k + 1 → nmN j ≠ s.data.toList) := Lib.hid (fun j hj => by
          by_cases hjk : j < k
          · exact HB.out j hjk
          · obtain rfl : j = k := by omega
            rw [← hnl]
            exact fun h => hq (str_ext h))
        clear hnl hnb NM HB
        have hq2 : (nb.toList == s.toList) = false := by
          rw [ByteArray.toList_eq, ByteArray.toList_eq]
          exact beq_eq_false_iff_ne.2 (fun h => hq (str_ext h))
        go_wp2_with fail
        with_reducible refine (NK.out _).mono ?_
        rintro e w1 ⟨rfl, hb1⟩
        have hw1 : Below w.heap.size w w1 := Below.trans (by repeat' (first | (with_reducible assumption) | (with_reducible exact Below.refl _ _) | (with_reducible refine below_drewN ?_ _) | (with_reducible refine Below.drew ?_) | (with_reducible refine Below.setCell ?_ ?_ _) | (with_reducible refine Below.alloc ?_ ?_ _) | omega | (simp; done) | (simp; omega))) (hb1.mono (by first | assumption | (simp; done) | (simp; omega)))
        have hz1 := hw1.size
        clear hb1
        go_wp2_with fail
        with_reducible refine (NK.out _).mono ?_
        rintro e w2 ⟨rfl, hb2⟩
        have hw2 : Below w.heap.size w w2 := Below.trans (by repeat' (first | (with_reducible assumption) | (with_reducible exact Below.refl _ _) | (with_reducible refine below_drewN ?_ _) | (with_reducible refine Below.drew ?_) | (with_reducible refine Below.setCell ?_ ?_ _) | (with_reducible refine Below.alloc ?_ ?_ _) | omega | (simp; done) | (simp; omega))) (hb2.mono (by first | assumption | (simp; done) | (simp; omega)))
        have hz2 := hw2.size
        clear hb2
        go_wp2_with fail
        go_roundw
        case rel => exact ⟨k + 1, by go_num, by omega, HB2, by repeat' (first | (with_reducible assumption) | (with_reducible exact Below.refl _ _) | (with_reducible refine below_drewN ?_ _) | (with_reducible refine Below.drew ?_) | (with_reducible refine Below.setCell ?_ ?_ _) | (with_reducible refine Below.alloc ?_ ?_ _) | omega | (simp; done) | (simp; omega))⟩
        case measure => simp [intOf]; omega
    · have hE : nb.toList.isEmpty = true := by
        rw [isEmpty_size]
        have e : nb.data.toList.length = nb.size := by simp
        have h1 : nmN k = [] := nmN_out (by omega)
        rw [hnl, h1] at e
        exact decide_eq_true e.symm
      have HC : Hid (CodeIs s.data.toList 0 false) := Lib.hid (code_miss (by omega) HB.out)
      clear hnl hnb NM HB
      go_wp2_with fail
      with_reducible refine (NK.out _).mono ?_
      rintro e w1 ⟨rfl, hb1⟩
      have hw1 : Below w.heap.size w w1 := Below.trans (by repeat' (first | (with_reducible assumption) | (with_reducible exact Below.refl _ _) | (with_reducible refine below_drewN ?_ _) | (with_reducible refine Below.drew ?_) | (with_reducible refine Below.setCell ?_ ?_ _) | (with_reducible refine Below.alloc ?_ ?_ _) | omega | (simp; done) | (simp; omega))) (hb1.mono (by first | assumption | (simp; done) | (simp; omega)))
      have hz1 := hw1.size
      clear hb1
      go_wp2_with fail
      go_ret2
      exact ⟨_, _, HC.out, rfl, by repeat' (first | (with_reducible assumption) | (with_reducible exact Below.refl _ _) | (with_reducible refine below_drewN ?_ _) | (with_reducible refine Below.drew ?_) | (with_reducible refine Below.setCell ?_ ?_ _) | (with_reducible refine Below.alloc ?_ ?_ _) | omega | (simp; done) | (simp; omega))⟩
set_option maxRecDepth 100000 in
set_option maxHeartbeats 1600000 in
theorem refCode_any (s : ByteArray) (hs : s.size ≤ 100000) (w : World) :
    Calls Tryd.prog 10 #[.string s] w fun en w' => ∃ e b, CodeIs s.data.toList e b ∧ en = .returned (.tuple #[.int .i64 e, .bool b]) ∧ Below w.heap.size w w' := by
  have NM := Lib.hid (fun (k : Nat) (w : World) => by
    have h := refName_any (k : Int) w
    rw [nmL_nat] at h
    exact h)
  go_enter Tryd.func10, Tryd.ntmps10
  go_wp2_with fail
  go_loopw [4] (fun x wr => ∃ k : Nat, x = .int .i64 k ∧ k ≤ 13 ∧ Hid (∀ j, j < k → nmN j ≠ s.data.toList) ∧ Below w.heap.size w wr) (fun x _ => 13 - (intOf x).toNat)
  case atStart => exact ⟨0, rfl, by omega, Lib.hid (fun j hj => absurd hj (Nat.not_lt_zero _)), by repeat' (first | (with_reducible assumption) | (with_reducible exact Below.refl _ _) | (with_reducible refine below_drewN ?_ _) | (with_reducible refine Below.drew ?_) | (with_reducible refine Below.setCell ?_ ?_ _) | (with_reducible refine Below.alloc ?_ ?_ _) | omega | (simp; done) | (simp; omega))⟩
  case round =>
    obtain ⟨k, rfl, hk, HB, hbw⟩ := hrel
    have hz0 := hbw.size
    have NK := Lib.hid (fun w => NM.out k w)
    obtain ⟨nb, hnb⟩ : ∃ nb : ByteArray, (⟨(nmN k).toArray⟩ : ByteArray) = nb := ⟨_, rfl⟩
    rw [hnb] at NK
    have hnl : nb.data.toList = nmN k := by rw [← hnb]
    by_cases hk13 : k < 13
    · by_cases hq : nb = s
      · have HC : Hid (CodeIs s.data.toList k true) := Lib.hid (code_hit hk13 (by rw [← hq, hnl]))
        subst hq
        clear hnl hnb NM HB
        go_wp2_with fail
        with_reducible refine (NK.out _).mono ?_
        rintro e w1 ⟨rfl, hb1⟩
        have hw1 : Below w.heap.size w w1 := Below.trans (by repeat' (first | (with_reducible assumption) | (with_reducible exact Below.refl _ _) | (with_reducible refine below_drewN ?_ _) | (with_reducible refine Below.drew ?_) | (with_reducible refine Below.setCell ?_ ?_ _) | (with_reducible refine Below.alloc ?_ ?_ _) | omega | (simp; done) | (simp; omega))) (hb1.mono (by first | assumption | (simp; done) | (simp; omega)))
        have hz1 := hw1.size
        clear hb1
        go_wp2_with fail
        go_ret2
        exact ⟨_, _, HC.out, rfl, by repeat' (first | (with_reducible assumption) | (with_reducible exact Below.refl _ _) | (with_reducible refine below_drewN ?_ _) | (with_reducible refine Below.drew ?_) | (with_reducible refine Below.setCell ?_ ?_ _) | (with_reducible refine Below.alloc ?_ ?_ _) | omega | (simp; done) | (simp; omega))⟩
      · have HB2 : Hid (∀ j, j < k + 1 → nmN j ≠ s.data.toList) := Lib.hid (fun j hj => by
          by_cases hjk : j < k
          · exact HB.out j hjk
          · obtain rfl : j = k := by omega
            rw [← hnl]
            exact fun h => hq (str_ext h))
        have hq2 : (nb.toList == s.toList) = false := by
          rw [ByteArray.toList_eq, ByteArray.toList_eq]
          exact beq_eq_false_iff_ne.2 (fun h => hq (str_ext h))
        clear hnl hnb NM HB
        go_wp2_with fail
        with_reducible refine (NK.out _).mono ?_
        rintro e w1 ⟨rfl, hb1⟩
        have hw1 : Below w.heap.size w w1 := Below.trans (by repeat' (first | (with_reducible assumption) | (with_reducible exact Below.refl _ _) | (with_reducible refine below_drewN ?_ _) | (with_reducible refine Below.drew ?_) | (with_reducible refine Below.setCell ?_ ?_ _) | (with_reducible refine Below.alloc ?_ ?_ _) | omega | (simp; done) | (simp; omega))) (hb1.mono (by first | assumption | (simp; done) | (simp; omega)))
        have hz1 := hw1.size
        clear hb1
        go_wp2_with fail
        go_roundw
        case rel => exact ⟨k + 1, by go_num, by omega, HB2, by repeat' (first | (with_reducible assumption) | (with_reducible exact Below.refl _ _) | (with_reducible refine below_drewN ?_ _) | (with_reducible refine Below.drew ?_) | (with_reducible refine Below.setCell ?_ ?_ _) | (with_reducible refine Below.alloc ?_ ?_ _) | omega | (simp; done) | (simp; omega))⟩
        case measure => simp [intOf]; omega
    · have HC : Hid (CodeIs s.data.toList 0 false) := Lib.hid (code_miss (by omega) HB.out)
      clear hnl hnb NM HB
      go_wp2_with fail
      go_ret2
      exact ⟨_, _, HC.out, rfl, by repeat' (first | (with_reducible assumption) | (with_reducible exact Below.refl _ _) | (with_reducible refine below_drewN ?_ _) | (with_reducible refine Below.drew ?_) | (with_reducible refine Below.setCell ?_ ?_ _) | (with_reducible refine Below.alloc ?_ ?_ _) | omega | (simp; done) | (simp; omega))⟩
end Go.Proofs.YthaphecoalepgaaDoor
