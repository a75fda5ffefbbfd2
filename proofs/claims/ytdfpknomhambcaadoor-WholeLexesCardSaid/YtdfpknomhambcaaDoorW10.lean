/- WholeLexes: the walk. Condition: the table of powers of 10 and the two errors of strconv are laid. -/
import Derived.Test.YtdfpknomhambcaaDoorW9
import Derived.Test.YtdfpknomhambcaaDoorW8
namespace Go.Proofs.YtdfpknomhambcaaDoor
open Go.RowKit
set_option linter.unusedSimpArgs false
set_option linter.unusedVariables false

set_option maxHeartbeats 3200000 in
set_option maxRecDepth 100000 in
theorem wholeLexes_long (s : ByteArray) (hs : 400 < s.size) (w : World) (hL : Laid10 w) :
    Calls Tryd.prog 8 #[.string s] w fun e w' => e = .returned (.bool true) ∧ Below w.heap.size w w' := by
  have HL := Lib.hid hL
  clear hL
  have AW := Lib.hid awake10

  go_enter Tryd.func8, Tryd.ntmps8
  go_wp2_with fail
  with_reducible refine (AW.out _ HL.out).mono ?_
  rintro e w1 ⟨rfl, hb1⟩
  have hw1 : Below w.heap.size w w1 := Below.trans (by repeat' (first | (with_reducible assumption) | (with_reducible exact Below.refl _ _) | (with_reducible refine below_drewN ?_ _) | (with_reducible refine Below.drew ?_) | (with_reducible refine Below.setCell ?_ ?_ _) | (with_reducible refine Below.alloc ?_ ?_ _) | omega | (simp; done) | (simp; omega))) (hb1.mono (by first | assumption | (simp; done) | (simp; omega)))
  have hz1 := hw1.size
  clear hb1
  go_wp2_with fail
  go_ret
  exact ⟨rfl, by repeat' (first | (with_reducible assumption) | (with_reducible exact Below.refl _ _) | (with_reducible refine below_drewN ?_ _) | (with_reducible refine Below.drew ?_) | (with_reducible refine Below.setCell ?_ ?_ _) | (with_reducible refine Below.alloc ?_ ?_ _) | omega | (simp; done) | (simp; omega))⟩

set_option maxHeartbeats 3200000 in
set_option maxRecDepth 100000 in
theorem wholeLexes_law (s : ByteArray) (x : Int) (hs : s.size ≤ 400) (LX : ∀ w, Calls Tryd.prog 21 #[.string s] w fun e w' => e = .returned (.int .i64 x) ∧ w = w')
    (RX : ∀ w, Calls Tryd.prog 22 #[.string s] w fun e w' => e = .returned (.int .i64 x) ∧ Below w.heap.size w w') (w : World) (hL : Laid10 w) :
    Calls Tryd.prog 8 #[.string s] w fun e w' => e = .returned (.bool true) ∧ Below w.heap.size w w' := by
  have HL := Lib.hid hL
  clear hL
  have AW := Lib.hid awake10
  replace LX := Lib.hid LX
  replace RX := Lib.hid RX
  go_enter Tryd.func8, Tryd.ntmps8
  go_wp2_with fail
  with_reducible refine (AW.out _ HL.out).mono ?_
  rintro e w1 ⟨rfl, hb1⟩
  have hw1 : Below w.heap.size w w1 := Below.trans (by repeat' (first | (with_reducible assumption) | (with_reducible exact Below.refl _ _) | (with_reducible refine below_drewN ?_ _) | (with_reducible refine Below.drew ?_) | (with_reducible refine Below.setCell ?_ ?_ _) | (with_reducible refine Below.alloc ?_ ?_ _) | omega | (simp; done) | (simp; omega))) (hb1.mono (by first | assumption | (simp; done) | (simp; omega)))
  have hz1 := hw1.size
  clear hb1
  go_wp2_with fail
  with_reducible refine (LX.out _).mono ?_
  rintro e w' ⟨rfl, rfl⟩
  go_wp2_with fail
  with_reducible refine (RX.out _).mono ?_
  rintro e w2 ⟨rfl, hb2⟩
  have hw2 : Below w.heap.size w w2 := Below.trans (by repeat' (first | (with_reducible assumption) | (with_reducible exact Below.refl _ _) | (with_reducible refine below_drewN ?_ _) | (with_reducible refine Below.drew ?_) | (with_reducible refine Below.setCell ?_ ?_ _) | (with_reducible refine Below.alloc ?_ ?_ _) | omega | (simp; done) | (simp; omega))) (hb2.mono (by first | assumption | (simp; done) | (simp; omega)))
  have hz2 := hw2.size
  clear hb2
  go_wp2_with fail
  go_ret
  exact ⟨rfl, by repeat' (first | (with_reducible assumption) | (with_reducible exact Below.refl _ _) | (with_reducible refine below_drewN ?_ _) | (with_reducible refine Below.drew ?_) | (with_reducible refine Below.setCell ?_ ?_ _) | (with_reducible refine Below.alloc ?_ ?_ _) | omega | (simp; done) | (simp; omega))⟩

theorem wholeLexes_all (s : ByteArray) (hs : s.size ≤ maxLen) (w : World) (hL : Laid10 w) :
    Calls Tryd.prog 8 #[.string s] w fun e w' => e = .returned (.bool true) ∧ Below w.heap.size w w' := by
  by_cases hl : 400 < s.size
  · exact wholeLexes_long s hl w hL
  · exact wholeLexes_law s _ (by omega) (fun w => lexeme_any s (by omega) w) (fun w => refLexeme_any s (by omega) w) w hL
end Go.Proofs.YtdfpknomhambcaaDoor
