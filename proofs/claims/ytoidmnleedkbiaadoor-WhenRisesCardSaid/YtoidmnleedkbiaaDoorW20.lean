/- when.Parse of 24 bytes out of shape. -/
import Derived.Test.YtoidmnleedkbiaaDoorW19
import Derived.Outline
import Derived.Deep.QuietTactic
import Derived.BigQuiet
namespace Go.Proofs.YtoidmnleedkbiaaDoor
open Go.RowKit
set_option linter.unusedSimpArgs false
set_option linter.unusedVariables false
set_option maxHeartbeats 1600000 in
set_option maxRecDepth 100000 in
theorem parseOut24_any (s t : ByteArray) (hz : s.size = 24) (ht : s.extract 0 19 ++ s.extract 23 24 = t) (hs : t.size = 20) (q0 : byteIs s 19 46) (hno : ¬ in20 t) (w : World) :
    Calls Tryd.prog 6 #[.string s] w fun e w' => e = .returned (.tuple #[.int .i64 0, .bool false]) ∧ Below w.heap.size w w' := by
  have H7 := Lib.hid (fun W => fieldOf_any s (by omega) 20 23 (by omega) (by omega) (by omega) 20 23 rfl rfl 0 999 W)
  generalize fld s.data.toList 20 23 = n7 at *
  have c0 : (((s[19]'(by omega)).toNat : Int) == 46) = true := by obtain ⟨_, q⟩ := q0; rw [q]; rfl
  clear q0
  obtain ⟨b7, e7⟩ : ∃ b, fldB n7 0 999 = b := ⟨_, rfl⟩
  rw [e7] at H7
  clear e7
  have h20 : t.size = 20 := hs
  · by_cases q4 : byteIs t 4 45
    · have c4 := byte_ok 45 rfl (by omega) q4
      by_cases q7 : byteIs t 7 45
      · have c7 := byte_ok 45 rfl (by omega) q7
        by_cases q10 : byteIs t 10 84
        · have c10 := byte_ok 84 rfl (by omega) q10
          by_cases q13 : byteIs t 13 58
          · have c13 := byte_ok 58 rfl (by omega) q13
            by_cases q16 : byteIs t 16 58
            · have c16 := byte_ok 58 rfl (by omega) q16
              have c19 := byte_ne 90 rfl (by omega) (fun q19 : byteIs t 19 90 => hno ⟨h20, q4, q7, q10, q13, q16, q19⟩)
              clear hno
              rcases b7 with _ | _
              all_goals
                go_enter Tryd.func6, Tryd.ntmps6
                go_wp2_with fail
                with_reducible refine (H7.out _).mono ?_
                rintro e w7 ⟨rfl, hb7⟩
                have hw7 : Below w.heap.size w w7 := Below.trans (by repeat' (first | (with_reducible assumption) | (with_reducible exact Below.refl _ _) | (with_reducible refine below_drewN ?_ _) | (with_reducible refine Below.drew ?_) | (with_reducible refine Below.setCell ?_ ?_ _) | (with_reducible refine Below.alloc ?_ ?_ _) | omega | (simp; done) | (simp; omega))) (hb7.mono (by first | assumption | (simp; done) | (simp; omega)))
                have hz7 := hw7.size
                clear hb7
                go_wp2_with fail
                go_quiet (fail)
                go_wp2_with fail
                go_ret2
                exact ⟨rfl, by repeat' (first | (with_reducible assumption) | (with_reducible exact Below.refl _ _) | (with_reducible refine below_drewN ?_ _) | (with_reducible refine Below.drew ?_) | (with_reducible refine Below.setCell ?_ ?_ _) | (with_reducible refine Below.alloc ?_ ?_ _) | omega | (simp; done) | (simp; omega))⟩
            · have c16 := byte_ne 58 rfl (by omega) q16
              clear hno
              rcases b7 with _ | _
              all_goals
                go_enter Tryd.func6, Tryd.ntmps6
                go_wp2_with fail
                with_reducible refine (H7.out _).mono ?_
                rintro e w7 ⟨rfl, hb7⟩
                have hw7 : Below w.heap.size w w7 := Below.trans (by repeat' (first | (with_reducible assumption) | (with_reducible exact Below.refl _ _) | (with_reducible refine below_drewN ?_ _) | (with_reducible refine Below.drew ?_) | (with_reducible refine Below.setCell ?_ ?_ _) | (with_reducible refine Below.alloc ?_ ?_ _) | omega | (simp; done) | (simp; omega))) (hb7.mono (by first | assumption | (simp; done) | (simp; omega)))
                have hz7 := hw7.size
                clear hb7
                go_wp2_with fail
                go_quiet (fail)
                go_wp2_with fail
                go_ret2
                exact ⟨rfl, by repeat' (first | (with_reducible assumption) | (with_reducible exact Below.refl _ _) | (with_reducible refine below_drewN ?_ _) | (with_reducible refine Below.drew ?_) | (with_reducible refine Below.setCell ?_ ?_ _) | (with_reducible refine Below.alloc ?_ ?_ _) | omega | (simp; done) | (simp; omega))⟩
          · have c13 := byte_ne 58 rfl (by omega) q13
            clear hno
            rcases b7 with _ | _
            all_goals
              go_enter Tryd.func6, Tryd.ntmps6
              go_wp2_with fail
              with_reducible refine (H7.out _).mono ?_
              rintro e w7 ⟨rfl, hb7⟩
              have hw7 : Below w.heap.size w w7 := Below.trans (by repeat' (first | (with_reducible assumption) | (with_reducible exact Below.refl _ _) | (with_reducible refine below_drewN ?_ _) | (with_reducible refine Below.drew ?_) | (with_reducible refine Below.setCell ?_ ?_ _) | (with_reducible refine Below.alloc ?_ ?_ _) | omega | (simp; done) | (simp; omega))) (hb7.mono (by first | assumption | (simp; done) | (simp; omega)))
              have hz7 := hw7.size
              clear hb7
              go_wp2_with fail
              go_quiet (fail)
              go_wp2_with fail
              go_ret2
              exact ⟨rfl, by repeat' (first | (with_reducible assumption) | (with_reducible exact Below.refl _ _) | (with_reducible refine below_drewN ?_ _) | (with_reducible refine Below.drew ?_) | (with_reducible refine Below.setCell ?_ ?_ _) | (with_reducible refine Below.alloc ?_ ?_ _) | omega | (simp; done) | (simp; omega))⟩
        · have c10 := byte_ne 84 rfl (by omega) q10
          clear hno
          rcases b7 with _ | _
          all_goals
            go_enter Tryd.func6, Tryd.ntmps6
            go_wp2_with fail
            with_reducible refine (H7.out _).mono ?_
            rintro e w7 ⟨rfl, hb7⟩
            have hw7 : Below w.heap.size w w7 := Below.trans (by repeat' (first | (with_reducible assumption) | (with_reducible exact Below.refl _ _) | (with_reducible refine below_drewN ?_ _) | (with_reducible refine Below.drew ?_) | (with_reducible refine Below.setCell ?_ ?_ _) | (with_reducible refine Below.alloc ?_ ?_ _) | omega | (simp; done) | (simp; omega))) (hb7.mono (by first | assumption | (simp; done) | (simp; omega)))
            have hz7 := hw7.size
            clear hb7
            go_wp2_with fail
            go_quiet (fail)
            go_wp2_with fail
            go_ret2
            exact ⟨rfl, by repeat' (first | (with_reducible assumption) | (with_reducible exact Below.refl _ _) | (with_reducible refine below_drewN ?_ _) | (with_reducible refine Below.drew ?_) | (with_reducible refine Below.setCell ?_ ?_ _) | (with_reducible refine Below.alloc ?_ ?_ _) | omega | (simp; done) | (simp; omega))⟩
      · have c7 := byte_ne 45 rfl (by omega) q7
        clear hno
        rcases b7 with _ | _
        all_goals
          go_enter Tryd.func6, Tryd.ntmps6
          go_wp2_with fail
          with_reducible refine (H7.out _).mono ?_
          rintro e w7 ⟨rfl, hb7⟩
          have hw7 : Below w.heap.size w w7 := Below.trans (by repeat' (first | (with_reducible assumption) | (with_reducible exact Below.refl _ _) | (with_reducible refine below_drewN ?_ _) | (with_reducible refine Below.drew ?_) | (with_reducible refine Below.setCell ?_ ?_ _) | (with_reducible refine Below.alloc ?_ ?_ _) | omega | (simp; done) | (simp; omega))) (hb7.mono (by first | assumption | (simp; done) | (simp; omega)))
          have hz7 := hw7.size
          clear hb7
          go_wp2_with fail
          go_quiet (fail)
          go_wp2_with fail
          go_ret2
          exact ⟨rfl, by repeat' (first | (with_reducible assumption) | (with_reducible exact Below.refl _ _) | (with_reducible refine below_drewN ?_ _) | (with_reducible refine Below.drew ?_) | (with_reducible refine Below.setCell ?_ ?_ _) | (with_reducible refine Below.alloc ?_ ?_ _) | omega | (simp; done) | (simp; omega))⟩
    · have c4 := byte_ne 45 rfl (by omega) q4
      clear hno
      rcases b7 with _ | _
      all_goals
        go_enter Tryd.func6, Tryd.ntmps6
        go_wp2_with fail
        with_reducible refine (H7.out _).mono ?_
        rintro e w7 ⟨rfl, hb7⟩
        have hw7 : Below w.heap.size w w7 := Below.trans (by repeat' (first | (with_reducible assumption) | (with_reducible exact Below.refl _ _) | (with_reducible refine below_drewN ?_ _) | (with_reducible refine Below.drew ?_) | (with_reducible refine Below.setCell ?_ ?_ _) | (with_reducible refine Below.alloc ?_ ?_ _) | omega | (simp; done) | (simp; omega))) (hb7.mono (by first | assumption | (simp; done) | (simp; omega)))
        have hz7 := hw7.size
        clear hb7
        go_wp2_with fail
        go_quiet (fail)
        go_wp2_with fail
        go_ret2
        exact ⟨rfl, by repeat' (first | (with_reducible assumption) | (with_reducible exact Below.refl _ _) | (with_reducible refine below_drewN ?_ _) | (with_reducible refine Below.drew ?_) | (with_reducible refine Below.setCell ?_ ?_ _) | (with_reducible refine Below.alloc ?_ ?_ _) | omega | (simp; done) | (simp; omega))⟩

set_option maxHeartbeats 1600000 in
theorem parseOut24n_any (s : ByteArray) (hz : s.size = 24) (q0 : ¬ byteIs s 19 46) (w : World) :
    Calls Tryd.prog 6 #[.string s] w fun e w' => e = .returned (.tuple #[.int .i64 0, .bool false]) ∧ Below w.heap.size w w' := by
  have c0 : (((s[19]'(by omega)).toNat : Int) == 46) = false := by
    rw [beq_eq_false_iff_ne]
    intro e
    exact q0 ⟨by omega, by omega⟩
  clear q0
  go_enter Tryd.func6, Tryd.ntmps6
  go_wp2_with fail
  go_ret2
  exact ⟨rfl, by repeat' (first | (with_reducible assumption) | (with_reducible exact Below.refl _ _) | (with_reducible refine below_drewN ?_ _) | (with_reducible refine Below.drew ?_) | (with_reducible refine Below.setCell ?_ ?_ _) | (with_reducible refine Below.alloc ?_ ?_ _) | omega | (simp; done) | (simp; omega))⟩
end Go.Proofs.YtoidmnleedkbiaaDoor
