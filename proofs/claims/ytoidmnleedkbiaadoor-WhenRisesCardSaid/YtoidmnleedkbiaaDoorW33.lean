/- The law WhenRises. Condition: the tables of the row. -/
import Derived.Test.YtoidmnleedkbiaaDoorW23
import Derived.Test.YtoidmnleedkbiaaDoorRise
import Derived.WalkLawsBesides
import Derived.Outline
import Derived.Deep.QuietTactic
import Derived.BigQuiet
namespace Go.Proofs.YtoidmnleedkbiaaDoor
open Go.RowKit
set_option linter.unusedSimpArgs false
set_option linter.unusedVariables false
theorem whenTxt_len2 (y m d h i s f : Nat) : (whenTxt y m d h i s f).length = if f = 0 then 20 else 24 := by
  unfold whenTxt
  by_cases h0 : f = 0 <;> simp [h0, padK_length]
theorem ext_list (s : ByteArray) (n : Nat) : (s.extract 0 n).toList = s.data.toList.take n := by
  rw [ByteArray.toList_eq]
  simp
theorem whenText_of (v : Int) (v0 : -9223372036854775808 ≤ v) (v1 : v ≤ 9223372036854775807) :
    (∀ w, PowTab w → Calls Tryd.prog 8 #[.int .i64 v] w fun e w' => e = .returned (.tuple #[.string { data := #[] }, .bool false]) ∧ Below w.heap.size w w') ∨
    (0 ≤ v ∧ v ≤ 253402300799999 ∧ ∃ (y m d S F : Int), Ymd (v / 86400000) y m d ∧ 0 ≤ S ∧ S < 86400 ∧ v / 1000 = v / 86400000 * 86400 + S ∧
      ∀ w, PowTab w → Calls Tryd.prog 8 #[.int .i64 v] w fun e w' => e = .returned (.tuple #[.string ⟨(whenTxt y.toNat m.toNat (d + 1).toNat (S / 3600).toNat (S / 60 % 60).toNat (S % 60).toNat F.toNat).toArray⟩, .bool true]) ∧ Below w.heap.size w w') := by
  by_cases hr : v < 0 ∨ 253402300799999 < v
  · refine Or.inl fun w _ => (whenText_none v hr w).mono ?_
    rintro e w' ⟨rfl, rfl⟩
    exact ⟨rfl, Below.refl _ _⟩
  · obtain ⟨y, m, d, hy⟩ := ymd_exists (v / 86400000) (by omega) (by omega)
    obtain ⟨S, eS⟩ : ∃ S, v % 86400000 / 1000 = S := ⟨_, rfl⟩
    obtain ⟨F, eF⟩ : ∃ F, v % 86400000 % 1000 = F := ⟨_, rfl⟩
    exact Or.inr ⟨by omega, by omega, y, m, d, S, F, hy, by omega, by omega, by omega, fun W hW => whenText_walk v _ _ S F y m d (by omega) (by omega) rfl rfl eS eF (by omega) (by omega) (by omega) (by omega) (by omega) (by omega) (by omega) (by omega) hy W hW⟩
set_option maxHeartbeats 800000 in
theorem rises_out (a b : Int) (s t : ByteArray) (x y : Bool) (hn : x = false ∨ y = false ∨ b < a)
    (P : ∀ w, PowTab w → Calls Tryd.prog 8 #[.int .i64 a] w fun e w' => e = .returned (.tuple #[.string s, .bool x]) ∧ Below w.heap.size w w')
    (Q : ∀ w, PowTab w → Calls Tryd.prog 8 #[.int .i64 b] w fun e w' => e = .returned (.tuple #[.string t, .bool y]) ∧ Below w.heap.size w w') (w : World) (h : PowTab w) :
    Calls Tryd.prog 4 #[.int .i64 a, .int .i64 b] w fun e w' => e = .returned (.bool true) ∧ Below w.heap.size w w' := by
  have H1 := Lib.hid (fun W => awake16 W)
  have H2 := Lib.hid P
  have H3 := Lib.hid Q
  have HT := Lib.hid h
  clear h P Q
  rcases x with _ | _
  · clear hn
    go_enter Tryd.func4, Tryd.ntmps4
    go_wp2_with fail
    with_reducible refine (H1.out _ HT.out).mono ?_
    rintro e w1 ⟨rfl, hb1⟩
    have hw1 : Below w.heap.size w w1 := Below.trans (by repeat' (first | (with_reducible assumption) | (with_reducible exact Below.refl _ _) | (with_reducible refine below_drewN ?_ _) | (with_reducible refine Below.drew ?_) | (with_reducible refine Below.setCell ?_ ?_ _) | (with_reducible refine Below.alloc ?_ ?_ _) | omega | (simp; done) | (simp; omega))) (hb1.mono (by first | assumption | (simp; done) | (simp; omega)))
    have hz1 := hw1.size
    clear hb1
    go_wp2_with fail
    with_reducible refine (H2.out _ (tabIs_below HT.out hw1)).mono ?_
    rintro e w2 ⟨rfl, hb2⟩
    have hw2 : Below w.heap.size w w2 := Below.trans (by repeat' (first | (with_reducible assumption) | (with_reducible exact Below.refl _ _) | (with_reducible refine below_drewN ?_ _) | (with_reducible refine Below.drew ?_) | (with_reducible refine Below.setCell ?_ ?_ _) | (with_reducible refine Below.alloc ?_ ?_ _) | omega | (simp; done) | (simp; omega))) (hb2.mono (by first | assumption | (simp; done) | (simp; omega)))
    have hz2 := hw2.size
    clear hb2
    go_wp2_with fail
    with_reducible refine (H3.out _ (tabIs_below HT.out hw2)).mono ?_
    rintro e w3 ⟨rfl, hb3⟩
    have hw3 : Below w.heap.size w w3 := Below.trans (by repeat' (first | (with_reducible assumption) | (with_reducible exact Below.refl _ _) | (with_reducible refine below_drewN ?_ _) | (with_reducible refine Below.drew ?_) | (with_reducible refine Below.setCell ?_ ?_ _) | (with_reducible refine Below.alloc ?_ ?_ _) | omega | (simp; done) | (simp; omega))) (hb3.mono (by first | assumption | (simp; done) | (simp; omega)))
    have hz3 := hw3.size
    clear hb3
    go_wp2_with fail

    go_ret
    exact ⟨by first | rfl | simp, by repeat' (first | (with_reducible assumption) | (with_reducible exact Below.refl _ _) | (with_reducible refine below_drewN ?_ _) | (with_reducible refine Below.drew ?_) | (with_reducible refine Below.setCell ?_ ?_ _) | (with_reducible refine Below.alloc ?_ ?_ _) | omega | (simp; done) | (simp; omega))⟩
  · rcases y with _ | _
    · clear hn
      go_enter Tryd.func4, Tryd.ntmps4
      go_wp2_with fail
      with_reducible refine (H1.out _ HT.out).mono ?_
      rintro e w1 ⟨rfl, hb1⟩
      have hw1 : Below w.heap.size w w1 := Below.trans (by repeat' (first | (with_reducible assumption) | (with_reducible exact Below.refl _ _) | (with_reducible refine below_drewN ?_ _) | (with_reducible refine Below.drew ?_) | (with_reducible refine Below.setCell ?_ ?_ _) | (with_reducible refine Below.alloc ?_ ?_ _) | omega | (simp; done) | (simp; omega))) (hb1.mono (by first | assumption | (simp; done) | (simp; omega)))
      have hz1 := hw1.size
      clear hb1
      go_wp2_with fail
      with_reducible refine (H2.out _ (tabIs_below HT.out hw1)).mono ?_
      rintro e w2 ⟨rfl, hb2⟩
      have hw2 : Below w.heap.size w w2 := Below.trans (by repeat' (first | (with_reducible assumption) | (with_reducible exact Below.refl _ _) | (with_reducible refine below_drewN ?_ _) | (with_reducible refine Below.drew ?_) | (with_reducible refine Below.setCell ?_ ?_ _) | (with_reducible refine Below.alloc ?_ ?_ _) | omega | (simp; done) | (simp; omega))) (hb2.mono (by first | assumption | (simp; done) | (simp; omega)))
      have hz2 := hw2.size
      clear hb2
      go_wp2_with fail
      with_reducible refine (H3.out _ (tabIs_below HT.out hw2)).mono ?_
      rintro e w3 ⟨rfl, hb3⟩
      have hw3 : Below w.heap.size w w3 := Below.trans (by repeat' (first | (with_reducible assumption) | (with_reducible exact Below.refl _ _) | (with_reducible refine below_drewN ?_ _) | (with_reducible refine Below.drew ?_) | (with_reducible refine Below.setCell ?_ ?_ _) | (with_reducible refine Below.alloc ?_ ?_ _) | omega | (simp; done) | (simp; omega))) (hb3.mono (by first | assumption | (simp; done) | (simp; omega)))
      have hz3 := hw3.size
      clear hb3
      go_wp2_with fail

      go_ret
      exact ⟨by first | rfl | simp, by repeat' (first | (with_reducible assumption) | (with_reducible exact Below.refl _ _) | (with_reducible refine below_drewN ?_ _) | (with_reducible refine Below.drew ?_) | (with_reducible refine Below.setCell ?_ ?_ _) | (with_reducible refine Below.alloc ?_ ?_ _) | omega | (simp; done) | (simp; omega))⟩
    · have hab : b < a := by rcases hn with h | h | h <;> first | exact h | cases h
      clear hn
      go_enter Tryd.func4, Tryd.ntmps4
      go_wp2_with fail
      with_reducible refine (H1.out _ HT.out).mono ?_
      rintro e w1 ⟨rfl, hb1⟩
      have hw1 : Below w.heap.size w w1 := Below.trans (by repeat' (first | (with_reducible assumption) | (with_reducible exact Below.refl _ _) | (with_reducible refine below_drewN ?_ _) | (with_reducible refine Below.drew ?_) | (with_reducible refine Below.setCell ?_ ?_ _) | (with_reducible refine Below.alloc ?_ ?_ _) | omega | (simp; done) | (simp; omega))) (hb1.mono (by first | assumption | (simp; done) | (simp; omega)))
      have hz1 := hw1.size
      clear hb1
      go_wp2_with fail
      with_reducible refine (H2.out _ (tabIs_below HT.out hw1)).mono ?_
      rintro e w2 ⟨rfl, hb2⟩
      have hw2 : Below w.heap.size w w2 := Below.trans (by repeat' (first | (with_reducible assumption) | (with_reducible exact Below.refl _ _) | (with_reducible refine below_drewN ?_ _) | (with_reducible refine Below.drew ?_) | (with_reducible refine Below.setCell ?_ ?_ _) | (with_reducible refine Below.alloc ?_ ?_ _) | omega | (simp; done) | (simp; omega))) (hb2.mono (by first | assumption | (simp; done) | (simp; omega)))
      have hz2 := hw2.size
      clear hb2
      go_wp2_with fail
      with_reducible refine (H3.out _ (tabIs_below HT.out hw2)).mono ?_
      rintro e w3 ⟨rfl, hb3⟩
      have hw3 : Below w.heap.size w w3 := Below.trans (by repeat' (first | (with_reducible assumption) | (with_reducible exact Below.refl _ _) | (with_reducible refine below_drewN ?_ _) | (with_reducible refine Below.drew ?_) | (with_reducible refine Below.setCell ?_ ?_ _) | (with_reducible refine Below.alloc ?_ ?_ _) | omega | (simp; done) | (simp; omega))) (hb3.mono (by first | assumption | (simp; done) | (simp; omega)))
      have hz3 := hw3.size
      clear hb3
      go_wp2_with fail

      go_ret
      exact ⟨by first | rfl | simp, by repeat' (first | (with_reducible assumption) | (with_reducible exact Below.refl _ _) | (with_reducible refine below_drewN ?_ _) | (with_reducible refine Below.drew ?_) | (with_reducible refine Below.setCell ?_ ?_ _) | (with_reducible refine Below.alloc ?_ ?_ _) | omega | (simp; done) | (simp; omega))⟩
set_option maxHeartbeats 800000 in
theorem rises_in (a b : Int) (s t : ByteArray) (a0 : 0 ≤ a) (b0 : 0 ≤ b) (hab : a ≤ b) (b9 : b ≤ 253402300799999) (hs : 20 ≤ s.size) (ht : 20 ≤ t.size) (hs2 : s.size ≤ 24) (ht2 : t.size ≤ 24)
    (hA : (Op.bytesLess (s.extract 0 19).toList (t.extract 0 19).toList || (s.extract 0 19).toList == (t.extract 0 19).toList) = true)
    (hB : ((s.extract 0 19).toList == (t.extract 0 19).toList) = (a / 1000 == b / 1000))
    (P : ∀ w, PowTab w → Calls Tryd.prog 8 #[.int .i64 a] w fun e w' => e = .returned (.tuple #[.string s, .bool true]) ∧ Below w.heap.size w w')
    (Q : ∀ w, PowTab w → Calls Tryd.prog 8 #[.int .i64 b] w fun e w' => e = .returned (.tuple #[.string t, .bool true]) ∧ Below w.heap.size w w') (w : World) (h : PowTab w) :
    Calls Tryd.prog 4 #[.int .i64 a, .int .i64 b] w fun e w' => e = .returned (.bool true) ∧ Below w.heap.size w w' := by
  have H1 := Lib.hid (fun W => awake16 W)
  have H2 := Lib.hid P
  have H3 := Lib.hid Q
  have HT := Lib.hid h
  clear h P Q
  have z20 : (20 : Int) ≤ (s.size : Int) := by omega
  have y20 : (20 : Int) ≤ (t.size : Int) := by omega
  have z19 : (19 : Int) ≤ (s.size : Int) := by omega
  have y19 : (19 : Int) ≤ (t.size : Int) := by omega
  have d1 : decide ((20 : Int) ≤ (s.size : Int)) = true := decide_eq_true z20
  have d2 : decide ((20 : Int) ≤ (t.size : Int)) = true := decide_eq_true y20
  have hnl : ¬ b < a := by omega
  have eA : IntKind.i64.wrap (a.tdiv 1000) = a / 1000 := by rw [Int.tdiv_eq_ediv_of_nonneg a0]; exact IntWalk.i64_in _ (by omega)
  have eB : IntKind.i64.wrap (b.tdiv 1000) = b / 1000 := by rw [Int.tdiv_eq_ediv_of_nonneg b0]; exact IntWalk.i64_in _ (by omega)
  have fA : wrap64 (a.tdiv 1000) = a / 1000 := by rw [Int.tdiv_eq_ediv_of_nonneg a0]; exact IntWalk.wrap64_in _ (by omega)
  have fB : wrap64 (b.tdiv 1000) = b / 1000 := by rw [Int.tdiv_eq_ediv_of_nonneg b0]; exact IntWalk.wrap64_in _ (by omega)
  generalize a / 1000 = A at *
  generalize b / 1000 = B at *
  obtain ⟨q, hq⟩ : ∃ q : Bool, (A == B) = q := ⟨_, rfl⟩
  rw [hq] at hB
  rcases q with _ | _
  all_goals
    rw [hB] at hA
    simp only [Bool.or_false, Bool.or_true] at hA
    go_enter Tryd.func4, Tryd.ntmps4
    go_wp2_with fail
    with_reducible refine (H1.out _ HT.out).mono ?_
    rintro e w1 ⟨rfl, hb1⟩
    have hw1 : Below w.heap.size w w1 := Below.trans (by repeat' (first | (with_reducible assumption) | (with_reducible exact Below.refl _ _) | (with_reducible refine below_drewN ?_ _) | (with_reducible refine Below.drew ?_) | (with_reducible refine Below.setCell ?_ ?_ _) | (with_reducible refine Below.alloc ?_ ?_ _) | omega | (simp; done) | (simp; omega))) (hb1.mono (by first | assumption | (simp; done) | (simp; omega)))
    have hz1 := hw1.size
    clear hb1
    go_wp2_with fail
    with_reducible refine (H2.out _ (tabIs_below HT.out hw1)).mono ?_
    rintro e w2 ⟨rfl, hb2⟩
    have hw2 : Below w.heap.size w w2 := Below.trans (by repeat' (first | (with_reducible assumption) | (with_reducible exact Below.refl _ _) | (with_reducible refine below_drewN ?_ _) | (with_reducible refine Below.drew ?_) | (with_reducible refine Below.setCell ?_ ?_ _) | (with_reducible refine Below.alloc ?_ ?_ _) | omega | (simp; done) | (simp; omega))) (hb2.mono (by first | assumption | (simp; done) | (simp; omega)))
    have hz2 := hw2.size
    clear hb2
    go_wp2_with fail
    with_reducible refine (H3.out _ (tabIs_below HT.out hw2)).mono ?_
    rintro e w3 ⟨rfl, hb3⟩
    have hw3 : Below w.heap.size w w3 := Below.trans (by repeat' (first | (with_reducible assumption) | (with_reducible exact Below.refl _ _) | (with_reducible refine below_drewN ?_ _) | (with_reducible refine Below.drew ?_) | (with_reducible refine Below.setCell ?_ ?_ _) | (with_reducible refine Below.alloc ?_ ?_ _) | omega | (simp; done) | (simp; omega))) (hb3.mono (by first | assumption | (simp; done) | (simp; omega)))
    have hz3 := hw3.size
    clear hb3
    go_wp2_with fail
    go_quiet (fail)
    go_wp2_with fail
    go_ret
    exact ⟨by first | rfl | simp, by repeat' (first | (with_reducible assumption) | (with_reducible exact Below.refl _ _) | (with_reducible refine below_drewN ?_ _) | (with_reducible refine Below.drew ?_) | (with_reducible refine Below.setCell ?_ ?_ _) | (with_reducible refine Below.alloc ?_ ?_ _) | omega | (simp; done) | (simp; omega))⟩
theorem whenRises_all (a : Int) (b : Int) (a0 : -9223372036854775808 ≤ a) (a1 : a ≤ 9223372036854775807) (b0 : -9223372036854775808 ≤ b) (b1 : b ≤ 9223372036854775807) (w : World) (h : PowTab w) :
    Calls Tryd.prog 4 #[.int .i64 a, .int .i64 b] w fun e w' => e = .returned (.bool true) ∧ Below w.heap.size w w' := by
  rcases whenText_of a a0 a1 with P | ⟨p0, p1, y, m, d, S, F, hy, S0, S1, eS, P⟩
  · rcases whenText_of b b0 b1 with Q | ⟨q0, q1, z, n, e, T, G, hz, T0, T1, eT, Q⟩
    · exact rises_out a b _ _ _ _ (Or.inl rfl) P Q w h
    · exact rises_out a b _ _ _ _ (Or.inl rfl) P Q w h
  · rcases whenText_of b b0 b1 with Q | ⟨q0, q1, z, n, e, T, G, hz, T0, T1, eT, Q⟩
    · exact rises_out a b _ _ _ _ (Or.inr (Or.inl rfl)) P Q w h
    · by_cases hab : a ≤ b
      · have R := when_rise hy hz S0 S1 T0 T1 (by omega) F.toNat G.toNat
        have l1 := whenTxt_len2 y.toNat m.toNat (d + 1).toNat (S / 3600).toNat (S / 60 % 60).toNat (S % 60).toNat F.toNat
        have l2 := whenTxt_len2 z.toNat n.toNat (e + 1).toNat (T / 3600).toNat (T / 60 % 60).toNat (T % 60).toNat G.toNat
        rw [← eS, ← eT] at R
        generalize whenTxt y.toNat m.toNat (d + 1).toNat (S / 3600).toNat (S / 60 % 60).toNat (S % 60).toNat F.toNat = l at *
        generalize whenTxt z.toNat n.toNat (e + 1).toNat (T / 3600).toNat (T / 60 % 60).toNat (T % 60).toNat G.toNat = r at *
        have z1 : (⟨l.toArray⟩ : ByteArray).size = l.length := rfl
        have z2 : (⟨r.toArray⟩ : ByteArray).size = r.length := rfl
        refine rises_in a b ⟨l.toArray⟩ ⟨r.toArray⟩ p0 q0 hab q1 (by rw [z1, l1]; split <;> decide) (by rw [z2, l2]; split <;> decide) (by rw [z1, l1]; split <;> decide) (by rw [z2, l2]; split <;> decide) ?_ ?_ P Q w h
        · rw [ext_list, ext_list]
          rcases R.1 with h1 | h1
          · show (Op.bytesLess (l.take 19) (r.take 19) || _) = true
            rw [h1]; rfl
          · show (_ || (l.take 19 == r.take 19)) = true
            rw [h1]; simp
        · rw [ext_list, ext_list, Bool.eq_iff_iff, beq_iff_eq, beq_iff_eq]
          exact R.2
      · exact rises_out a b _ _ _ _ (Or.inr (Or.inr (by omega))) P Q w h
end Go.Proofs.YtoidmnleedkbiaaDoor
