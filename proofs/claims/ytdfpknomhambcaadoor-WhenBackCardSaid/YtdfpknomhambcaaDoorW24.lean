/- The law WhenTexts: the two texts of a time are one. -/
import Derived.Test.YtdfpknomhambcaaDoorW23
import Derived.Outline
namespace Go.Proofs.YtdfpknomhambcaaDoor
open Go.RowKit
set_option linter.unusedSimpArgs false
set_option linter.unusedVariables false
set_option maxHeartbeats 800000 in
theorem whenTexts_walk (v : Int) (t : ByteArray) (b : Bool)
    (P : ∀ w, PowTab w → Calls Tryd.prog 12 #[.int .i64 v] w fun e w' => e = .returned (.tuple #[.string t, .bool b]) ∧ Below w.heap.size w w')
    (Q : ∀ w, Calls Tryd.prog 13 #[.int .i64 v] w fun e w' => e = .returned (.tuple #[.string t, .bool b]) ∧ Below w.heap.size w w') (w : World) (h : PowTab w) :
    Calls Tryd.prog 3 #[.int .i64 v] w fun e w' => e = .returned (.bool true) ∧ Below w.heap.size w w' := by
  have H1 := Lib.hid (fun W => awake16 W)
  have H2 := Lib.hid P
  have H3 := Lib.hid Q
  have HT := Lib.hid h
  clear h P Q
  rcases b with _ | _
  all_goals
    go_enter Tryd.func3, Tryd.ntmps3
    go_wp2_with fail
    with_reducible refine (H1.out _ HT.out).mono ?_
    rintro e w1 ⟨rfl, hb1⟩
    have hw1 : Below w.heap.size w w1 := Below.trans (by repeat' (first | (with_reducible assumption) | (with_reducible exact Below.refl _ _) | (with_reducible refine below_drewN ?_ _) | (with_reducible refine Below.drew ?_) | (with_reducible refine Below.setCell ?_ ?_ _) | (with_reducible refine Below.alloc ?_ ?_ _) | omega | (simp; done) | (simp; omega))) (hb1.mono (by first | assumption | (simp; done) | (simp; omega)))
    have hz1 := hw1.size
    clear hb1
    go_wp2_with fail
    with_reducible refine (H2.out _ (tabIs_below HT.out hw1)).mono ?_
    rintro e w2 ⟨rfl, hb2⟩
    have hw2 : Below w.heap.size w w2 := Below.trans (by repeat' (first | (with_reducible assumption) | (with_reducible exact Below.refl _ _) | (with_reducible refine below_drewN ?_ _) | (with_reducible refine Below.drew ?_) | (with_reducible refine Below.setCell ?_ ?_ _) | (with_reducible refine Below.alloc ?_ ?_ _) | omega | (simp; done) | (simp; omega))) (hb2.mono (by first | assumption | (simp; done) | (simp; omega)))
    have hz2 := hw2.size
    clear hb2
    go_wp2_with fail
    with_reducible refine (H3.out _).mono ?_
    rintro e w3 ⟨rfl, hb3⟩
    have hw3 : Below w.heap.size w w3 := Below.trans (by repeat' (first | (with_reducible assumption) | (with_reducible exact Below.refl _ _) | (with_reducible refine below_drewN ?_ _) | (with_reducible refine Below.drew ?_) | (with_reducible refine Below.setCell ?_ ?_ _) | (with_reducible refine Below.alloc ?_ ?_ _) | omega | (simp; done) | (simp; omega))) (hb3.mono (by first | assumption | (simp; done) | (simp; omega)))
    have hz3 := hw3.size
    clear hb3
    go_wp2_with fail
    go_ret
    exact ⟨rfl, by repeat' (first | (with_reducible assumption) | (with_reducible exact Below.refl _ _) | (with_reducible refine below_drewN ?_ _) | (with_reducible refine Below.drew ?_) | (with_reducible refine Below.setCell ?_ ?_ _) | (with_reducible refine Below.alloc ?_ ?_ _) | omega | (simp; done) | (simp; omega))⟩
theorem whenTexts_all (v : Int) (v0 : -9223372036854775808 ≤ v) (v1 : v ≤ 9223372036854775807) (w : World) (h : PowTab w) :
    Calls Tryd.prog 3 #[.int .i64 v] w fun e w' => e = .returned (.bool true) ∧ Below w.heap.size w w' := by
  by_cases hr : v < 0 ∨ 253402300799999 < v
  · refine whenTexts_walk v ⟨#[]⟩ false (fun W _ => (whenText_none v hr W).mono ?_) (fun W => (refWText_none v hr W).mono ?_) w h
    · rintro e w' ⟨rfl, rfl⟩; exact ⟨rfl, Below.refl _ _⟩
    · rintro e w' ⟨rfl, rfl⟩; exact ⟨rfl, Below.refl _ _⟩
  · obtain ⟨y, m, d, hy⟩ := ymd_exists (v / 86400000) (by omega) (by omega)
    refine whenTexts_walk v _ true (fun W hW => whenText_walk v _ _ _ _ y m d (by omega) (by omega) rfl rfl rfl rfl (by omega) (by omega) (by omega) (by omega) (by omega) (by omega) (by omega) (by omega) hy W hW) (fun W => (refWText_walk v _ _ _ y m d (by omega) (by omega) rfl rfl rfl (by omega) (by omega) (by omega) (by omega) (by omega) (by omega) hy W).mono ?_) w h
    rintro e w' ⟨rfl, hb⟩
    refine ⟨?_, hb⟩
    rw [show v % 86400000 / 3600000 = v % 86400000 / 1000 / 3600 by omega, show v % 86400000 / 60000 % 60 = v % 86400000 / 1000 / 60 % 60 by omega]
end Go.Proofs.YtdfpknomhambcaaDoor
