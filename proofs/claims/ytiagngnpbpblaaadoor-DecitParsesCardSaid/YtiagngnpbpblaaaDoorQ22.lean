/- The walk of DecitParses. Condition: the table of powers of 10 is laid; some integer stands at the library's MaxLen. -/
import Derived.Test.YtiagngnpbpblaaaDoorQ21
import Derived.Test.YtiagngnpbpblaaaDoorQ10
import Derived.Test.YtiagngnpbpblaaaDoorQ14
import Derived.Test.YtiagngnpbpblaaaDoorQ6
namespace Go.Proofs.YtiagngnpbpblaaaDoor
open Go.RowKit
set_option linter.unusedSimpArgs false
set_option linter.unusedVariables false

theorem par_of (s : ByteArray) (hs : s.size ≤ 1000) {a b c : Int} (h : decP s.data.toList = (a, b, c)) (w : World) (hM : MaxAt w) :
    Calls Tryd.prog 5 #[.string s] w fun e w' => e = .returned (.tuple #[.int .u64 a, .int .u64 b, .int .i64 c]) ∧ Below w.heap.size w w' := by
  refine (decParse_any s hs (idx_any s (by omega)) (fun _ => idx_any _ (by rw [ByteArray.size_extract]; omega)) w hM).mono ?_
  rintro e w' ⟨hr, hb⟩
  unfold DecRet at hr
  rw [h] at hr
  exact ⟨hr, hb⟩
set_option maxHeartbeats 6400000 in
set_option maxRecDepth 100000 in
theorem decitParses_walk (s : ByteArray) (hs : s.size ≤ 9223372036854775807) (w : World) (hL : Laid15 w) :
    Calls Tryd.prog 3 #[.string s] w fun e w' => e = .returned (.bool true) ∧ Below w.heap.size w w' := by
  have HL := Lib.hid hL
  clear hL
  have AW := Lib.hid awake15
  by_cases q1 : 400 < s.size
  · go_enter Tryd.func3, Tryd.ntmps3
    go_wp2_with fail
    with_reducible refine (AW.out _ HL.out).mono ?_
    rintro e w1 ⟨rfl, hb1⟩
    have hw1 : Below w.heap.size w w1 := Below.trans (by repeat' (first | (with_reducible assumption) | (with_reducible exact Below.refl _ _) | (with_reducible refine below_drewN ?_ _) | (with_reducible refine Below.drew ?_) | (with_reducible refine Below.setCell ?_ ?_ _) | (with_reducible refine Below.alloc ?_ ?_ _) | omega | (simp; done) | (simp; omega))) (hb1.mono (by first | assumption | (simp; done) | (simp; omega)))
    have hz1 := hw1.size
    clear hb1
    go_wp2_with fail
    go_ret
    exact ⟨rfl, by repeat' (first | (with_reducible assumption) | (with_reducible exact Below.refl _ _) | (with_reducible refine below_drewN ?_ _) | (with_reducible refine Below.drew ?_) | (with_reducible refine Below.setCell ?_ ?_ _) | (with_reducible refine Below.alloc ?_ ?_ _) | omega | (simp; done) | (simp; omega))⟩
  · obtain ⟨⟨p1, p2, p3⟩, hP⟩ : ∃ R, decP s.data.toList = R := ⟨_, rfl⟩
    have P1 := Lib.hid (fun (w : World) (h : MaxAt w) => par_of (a := p1) (b := p2) (c := p3) s (by omega) hP w h)
    have P2 : Hid (∀ w : World, Calls Tryd.prog 6 #[.string s] w fun e w' => e = .returned (.tuple #[.int .u64 p1, .int .u64 p2, .int .i64 p3]) ∧ Below w.heap.size w w') := Lib.hid (fun w => by
      refine (refDecParse_any s (by omega) w).mono ?_
      rintro e w' ⟨hr, hb⟩
      unfold DecRet at hr
      rw [hP] at hr
      exact ⟨hr, hb⟩)
    have hsl : s.size ≤ 400 := by omega
    clear hP
    go_enter Tryd.func3, Tryd.ntmps3
    go_wp2_with fail
    with_reducible refine (AW.out _ HL.out).mono ?_
    rintro e w1 ⟨rfl, hb1⟩
    have hw1 : Below w.heap.size w w1 := Below.trans (by repeat' (first | (with_reducible assumption) | (with_reducible exact Below.refl _ _) | (with_reducible refine below_drewN ?_ _) | (with_reducible refine Below.drew ?_) | (with_reducible refine Below.setCell ?_ ?_ _) | (with_reducible refine Below.alloc ?_ ?_ _) | omega | (simp; done) | (simp; omega))) (hb1.mono (by first | assumption | (simp; done) | (simp; omega)))
    have hz1 := hw1.size
    clear hb1
    go_wp2_with fail
    with_reducible refine (P1.out _ (laid15_max (laid15_below HL.out hw1))).mono ?_
    rintro e w2 ⟨rfl, hb2⟩
    have hw2 : Below w.heap.size w w2 := hw1.trans (hb2.mono hz1)
    have hz2 := hw2.size
    clear hb2
    go_wp2_with fail
    with_reducible refine (P2.out _).mono ?_
    rintro e w3 ⟨rfl, hb3⟩
    have hw3 : Below w.heap.size w w3 := hw2.trans (hb3.mono hz2)
    have hz3 := hw3.size
    clear hb3
    go_wp2_with fail
    go_ret
    exact ⟨by first | rfl | (simp; done), by repeat' (first | (with_reducible assumption) | (with_reducible exact Below.refl _ _) | (with_reducible refine below_drewN ?_ _) | (with_reducible refine Below.drew ?_) | (with_reducible refine Below.setCell ?_ ?_ _) | (with_reducible refine Below.alloc ?_ ?_ _) | omega | (simp; done) | (simp; omega))⟩
end Go.Proofs.YtiagngnpbpblaaaDoor
