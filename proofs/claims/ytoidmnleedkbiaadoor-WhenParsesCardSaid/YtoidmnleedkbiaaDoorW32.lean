/- The reference's Parse of a time is whenP, and the law WhenParses. Condition: a text of at most 100 bytes (Parse alone). -/
import Derived.Test.YtoidmnleedkbiaaDoorW28
import Derived.Test.YtoidmnleedkbiaaDoorW23
import Derived.Test.YtoidmnleedkbiaaDoorW29
import Derived.Test.YtoidmnleedkbiaaDoorW30
import Derived.Test.YtoidmnleedkbiaaDoorW31
import Derived.Outline
namespace Go.Proofs.YtoidmnleedkbiaaDoor
open Go.RowKit
set_option linter.unusedSimpArgs false
set_option linter.unusedVariables false
theorem refParse_any (s : ByteArray) (h100 : s.size ≤ 100) (w : World) :
    Calls Tryd.prog 7 #[.string s] w fun e w' => e = .returned (whenEnd (whenP s.data.toList)) ∧ Below w.heap.size w w' := by
  have hl : s.data.toList.length = s.size := by simp
  by_cases hsw : ∃ f, SwOk s f
  · obtain ⟨f, SW⟩ := hsw
    have h20 : 20 ≤ s.size := by rcases SW with h | h <;> omega
    have hff : (if s.data.toList.length = 24 then fld s.data.toList 20 23 else 0) = f := by
      rcases SW with h | h
      · rw [if_pos (by omega)]; exact h.2.2.2
      · rw [if_neg (by omega)]; exact h.2.2.symm
    have hf9 : f ≤ 999 := by
      rcases SW with h | h
      · rw [← h.2.2.2]; exact numOf_top3 _ (by simp; omega)
      · rw [h.2.2]; decide
    have hsh : (s.data.toList.length = 24 ∧ s.data.toList[19]? = some 46 ∧ s.data.toList[23]? = some 90) ∨ (s.data.toList.length = 20 ∧ s.data.toList[19]? = some 90) := by
      rcases SW with h | h
      · exact Or.inl ⟨by omega, (byteIs_get (by decide)).1 h.2.1, (byteIs_get (by decide)).1 h.2.2.1⟩
      · exact Or.inr ⟨by omega, (byteIs_get (by decide)).1 h.2.1⟩
    have none_of : ∀ {w : World}, Calls Tryd.prog 7 #[.string s] w (fun e w' => e = .returned (.tuple #[.int .i64 0, .bool false]) ∧ Below w.heap.size w w') →
        ¬ (whenShape s.data.toList ∧ whenOk (fld s.data.toList 0 4) (fld s.data.toList 5 7) (fld s.data.toList 8 10) (fld s.data.toList 11 13) (fld s.data.toList 14 16) (fld s.data.toList 17 19) f) →
        Calls Tryd.prog 7 #[.string s] w (fun e w' => e = .returned (whenEnd (whenP s.data.toList)) ∧ Below w.heap.size w w') := by
      intro w hc hn
      refine hc.mono ?_
      rintro e w' ⟨rfl, hb⟩
      refine ⟨?_, hb⟩
      unfold whenP
      rw [hff, if_neg hn]
      rfl
    by_cases q1 : byteIs s 4 45
    rotate_left
    · exact none_of (refP_1 s h20 h100 f _ _ _ _ _ _ 0 SW ⟨rfl, rfl, rfl, rfl, rfl, rfl⟩ q1 w) (fun h => q1 ((byteIs_get (by decide)).2 h.1.2.1))
    by_cases q2 : byteIs s 7 45
    rotate_left
    · exact none_of (refP_2 s h20 h100 f _ _ _ _ _ _ 0 SW ⟨rfl, rfl, rfl, rfl, rfl, rfl⟩ q1 q2 w) (fun h => q2 ((byteIs_get (by decide)).2 h.1.2.2.1))
    by_cases q3 : byteIs s 10 84
    rotate_left
    · exact none_of (refP_3 s h20 h100 f _ _ _ _ _ _ 0 SW ⟨rfl, rfl, rfl, rfl, rfl, rfl⟩ q1 q2 q3 w) (fun h => q3 ((byteIs_get (by decide)).2 h.1.2.2.2.1))
    by_cases q4 : byteIs s 13 58
    rotate_left
    · exact none_of (refP_4 s h20 h100 f _ _ _ _ _ _ 0 SW ⟨rfl, rfl, rfl, rfl, rfl, rfl⟩ q1 q2 q3 q4 w) (fun h => q4 ((byteIs_get (by decide)).2 h.1.2.2.2.2.1))
    by_cases q5 : byteIs s 16 58
    rotate_left
    · exact none_of (refP_5 s h20 h100 f _ _ _ _ _ _ 0 SW ⟨rfl, rfl, rfl, rfl, rfl, rfl⟩ q1 q2 q3 q4 q5 w) (fun h => q5 ((byteIs_get (by decide)).2 h.1.2.2.2.2.2))
    by_cases q6 : fld s.data.toList 0 4 < 1970
    · exact none_of (refP_6 s h20 h100 f _ _ _ _ _ _ 0 SW ⟨rfl, rfl, rfl, rfl, rfl, rfl⟩ q1 q2 q3 q4 q5 q6 w) (fun h => by have h2 := h.2; unfold whenOk at h2; omega)
    by_cases q7 : fld s.data.toList 5 7 < 1
    · exact none_of (refP_7 s h20 h100 f _ _ _ _ _ _ 0 SW ⟨rfl, rfl, rfl, rfl, rfl, rfl⟩ q1 q2 q3 q4 q5 q6 q7 w) (fun h => by have h2 := h.2; unfold whenOk at h2; omega)
    by_cases q8 : 12 < fld s.data.toList 5 7
    · exact none_of (refP_8 s h20 h100 f _ _ _ _ _ _ 0 SW ⟨rfl, rfl, rfl, rfl, rfl, rfl⟩ q1 q2 q3 q4 q5 q6 q7 q8 w) (fun h => by have h2 := h.2; unfold whenOk at h2; omega)
    by_cases q9 : fld s.data.toList 8 10 < 1
    · exact none_of (refP_9 s h20 h100 f _ _ _ _ _ _ 0 SW ⟨rfl, rfl, rfl, rfl, rfl, rfl⟩ q1 q2 q3 q4 q5 q6 q7 q8 q9 w) (fun h => by have h2 := h.2; unfold whenOk at h2; omega)
    by_cases q10 : mlen (fld s.data.toList 0 4) (fld s.data.toList 5 7) < fld s.data.toList 8 10
    · exact none_of (refP_10 s h20 h100 f _ _ _ _ _ _ _ SW ⟨rfl, rfl, rfl, rfl, rfl, rfl⟩ rfl q1 q2 q3 q4 q5 q6 q7 q8 q9 q10 w) (fun h => by have h2 := h.2; unfold whenOk at h2; omega)
    by_cases q11 : fld s.data.toList 11 13 < 0
    · exact none_of (refP_11 s h20 h100 f _ _ _ _ _ _ _ SW ⟨rfl, rfl, rfl, rfl, rfl, rfl⟩ rfl q1 q2 q3 q4 q5 q6 q7 q8 q9 q10 q11 w) (fun h => by have h2 := h.2; unfold whenOk at h2; omega)
    by_cases q12 : 23 < fld s.data.toList 11 13
    · exact none_of (refP_12 s h20 h100 f _ _ _ _ _ _ _ SW ⟨rfl, rfl, rfl, rfl, rfl, rfl⟩ rfl q1 q2 q3 q4 q5 q6 q7 q8 q9 q10 q11 q12 w) (fun h => by have h2 := h.2; unfold whenOk at h2; omega)
    by_cases q13 : fld s.data.toList 14 16 < 0
    · exact none_of (refP_13 s h20 h100 f _ _ _ _ _ _ _ SW ⟨rfl, rfl, rfl, rfl, rfl, rfl⟩ rfl q1 q2 q3 q4 q5 q6 q7 q8 q9 q10 q11 q12 q13 w) (fun h => by have h2 := h.2; unfold whenOk at h2; omega)
    by_cases q14 : 59 < fld s.data.toList 14 16
    · exact none_of (refP_14 s h20 h100 f _ _ _ _ _ _ _ SW ⟨rfl, rfl, rfl, rfl, rfl, rfl⟩ rfl q1 q2 q3 q4 q5 q6 q7 q8 q9 q10 q11 q12 q13 q14 w) (fun h => by have h2 := h.2; unfold whenOk at h2; omega)
    by_cases q15 : fld s.data.toList 17 19 < 0
    · exact none_of (refP_15 s h20 h100 f _ _ _ _ _ _ _ SW ⟨rfl, rfl, rfl, rfl, rfl, rfl⟩ rfl q1 q2 q3 q4 q5 q6 q7 q8 q9 q10 q11 q12 q13 q14 q15 w) (fun h => by have h2 := h.2; unfold whenOk at h2; omega)
    by_cases q16 : 59 < fld s.data.toList 17 19
    · exact none_of (refP_16 s h20 h100 f _ _ _ _ _ _ _ SW ⟨rfl, rfl, rfl, rfl, rfl, rfl⟩ rfl q1 q2 q3 q4 q5 q6 q7 q8 q9 q10 q11 q12 q13 q14 q15 q16 w) (fun h => by have h2 := h.2; unfold whenOk at h2; omega)
    by_cases q17 : f < 0
    · exact none_of (refP_17 s h20 h100 f _ _ _ _ _ _ _ SW ⟨rfl, rfl, rfl, rfl, rfl, rfl⟩ rfl q1 q2 q3 q4 q5 q6 q7 q8 q9 q10 q11 q12 q13 q14 q15 q16 q17 w) (fun h => by have h2 := h.2; unfold whenOk at h2; omega)
    refine (refP_ok s h20 h100 f _ _ _ _ _ _ _ SW ⟨rfl, rfl, rfl, rfl, rfl, rfl⟩ rfl q1 q2 q3 q4 q5 q6 q7 q8 q9 q10 q11 q12 q13 q14 q15 q16 q17 hf9 w).mono ?_
    rintro e w' ⟨rfl, hb⟩
    refine ⟨?_, hb⟩
    unfold whenP
    rw [hff, if_pos ⟨⟨hsh, (byteIs_get (by decide)).1 q1, (byteIs_get (by decide)).1 q2, (byteIs_get (by decide)).1 q3, (byteIs_get (by decide)).1 q4, (byteIs_get (by decide)).1 q5⟩, by unfold whenOk; omega⟩]
    rfl
  · refine (refOut_any s h100 (fun f h => hsw ⟨f, h⟩) w).mono ?_
    rintro e w' ⟨rfl, hb⟩
    refine ⟨?_, hb⟩
    unfold whenP
    rw [if_neg]
    · rfl
    · rintro ⟨⟨h | h, -⟩, -⟩
      · exact hsw ⟨_, Or.inl ⟨by omega, (byteIs_get (by decide)).2 h.2.1, (byteIs_get (by decide)).2 h.2.2, rfl⟩⟩
      · exact hsw ⟨0, Or.inr ⟨by omega, (byteIs_get (by decide)).2 h.2, rfl⟩⟩
set_option maxHeartbeats 800000 in
theorem whenParses_walk (s : ByteArray) (hs : s.size ≤ maxLen) (w : World) (h : PowTab w) :
    Calls Tryd.prog 3 #[.string s] w fun e w' => e = .returned (.bool true) ∧ Below w.heap.size w w' := by
  unfold maxLen at hs
  have H1 := Lib.hid (fun W => awake16 W)
  have HT := Lib.hid h
  clear h
  by_cases h100 : s.size ≤ 100
  · have H2 := fun W => whenParse_any s (by omega) W
    have H3 := fun W => refParse_any s h100 W
    unfold whenEnd at H2 H3
    generalize oV (whenP s.data.toList) = v at *
    generalize (whenP s.data.toList).isSome = b at *
    replace H2 := Lib.hid H2
    replace H3 := Lib.hid H3
    go_enter Tryd.func3, Tryd.ntmps3
    go_wp2_with fail
    with_reducible refine (H1.out _ HT.out).mono ?_
    rintro e w1 ⟨rfl, hb1⟩
    have hw1 : Below w.heap.size w w1 := Below.trans (by repeat' (first | (with_reducible assumption) | (with_reducible exact Below.refl _ _) | (with_reducible refine below_drewN ?_ _) | (with_reducible refine Below.drew ?_) | (with_reducible refine Below.setCell ?_ ?_ _) | (with_reducible refine Below.alloc ?_ ?_ _) | omega | (simp; done) | (simp; omega))) (hb1.mono (by first | assumption | (simp; done) | (simp; omega)))
    have hz1 := hw1.size
    clear hb1
    go_wp2_with fail
    with_reducible refine (H2.out _).mono ?_
    rintro e w2 ⟨rfl, hb2⟩
    have hw2 : Below w.heap.size w w2 := Below.trans (by repeat' (first | (with_reducible assumption) | (with_reducible exact Below.refl _ _) | (with_reducible refine below_drewN ?_ _) | (with_reducible refine Below.drew ?_) | (with_reducible refine Below.setCell ?_ ?_ _) | (with_reducible refine Below.alloc ?_ ?_ _) | omega | (simp; done) | (simp; omega))) (hb2.mono (by first | assumption | (simp; done) | (simp; omega)))
    have hz2 := hw2.size
    clear hb2
    go_wp2_with fail
    with_reducible refine (H3.out _).mono ?_
    rintro e w3 ⟨rfl, hb3⟩
    have hw3 : Below w.heap.size w w3 := Below.trans (by repeat' (first | (with_reducible assumption) | (with_reducible exact Below.refl _ _) | (with_reducible refine below_drewN ?_ _) | (with_reducible refine Below.drew ?_) | (with_reducible refine Below.setCell ?_ ?_ _) | (with_reducible refine Below.alloc ?_ ?_ _) | omega | (simp; done) | (simp; omega))) (hb3.mono (by first | assumption | (simp; done) | (simp; omega)))
    have hz3 := hw3.size
    clear hb3
    go_wp2_with fail
    go_ret
    exact ⟨by first | rfl | simp, by repeat' (first | (with_reducible assumption) | (with_reducible exact Below.refl _ _) | (with_reducible refine below_drewN ?_ _) | (with_reducible refine Below.drew ?_) | (with_reducible refine Below.setCell ?_ ?_ _) | (with_reducible refine Below.alloc ?_ ?_ _) | omega | (simp; done) | (simp; omega))⟩
  · go_enter Tryd.func3, Tryd.ntmps3
    go_wp2_with fail
    with_reducible refine (H1.out _ HT.out).mono ?_
    rintro e w1 ⟨rfl, hb1⟩
    have hw1 : Below w.heap.size w w1 := Below.trans (by repeat' (first | (with_reducible assumption) | (with_reducible exact Below.refl _ _) | (with_reducible refine below_drewN ?_ _) | (with_reducible refine Below.drew ?_) | (with_reducible refine Below.setCell ?_ ?_ _) | (with_reducible refine Below.alloc ?_ ?_ _) | omega | (simp; done) | (simp; omega))) (hb1.mono (by first | assumption | (simp; done) | (simp; omega)))
    have hz1 := hw1.size
    clear hb1
    go_wp2_with fail
    go_ret
    exact ⟨rfl, by repeat' (first | (with_reducible assumption) | (with_reducible exact Below.refl _ _) | (with_reducible refine below_drewN ?_ _) | (with_reducible refine Below.drew ?_) | (with_reducible refine Below.setCell ?_ ?_ _) | (with_reducible refine Below.alloc ?_ ?_ _) | omega | (simp; done) | (simp; omega))⟩
end Go.Proofs.YtoidmnleedkbiaaDoor
