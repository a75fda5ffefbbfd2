/- Contracts of whole.Text and whole.Parse. Conditions: texts of at most 1000 bytes; the table of powers of 10 and the two errors of strconv are laid. -/
import Derived.Test.YtdfpknomhambcaaDoorW3
import Derived.Test.YtdfpknomhambcaaDoorW6
namespace Go.Proofs.YtdfpknomhambcaaDoor
open Go.RowKit Go.Sort Go.Lib
set_option linter.unusedSimpArgs false
set_option linter.unusedVariables false

theorem tabIs_below {P : Program} {w w' : World} {name : String} {k : IntKind} {zs : List Int} (h : Lib.TabIs P w name k zs) (hb : Below w.heap.size w w') : Lib.TabIs P w' name k zs := by
  unfold Lib.TabIs World.var? at *
  cases hg : P.globalNamed name with
  | none => simp [hg] at h
  | some g =>
    simp only [hg, Option.bind_some] at h ⊢
    have hlt : g < w.heap.size := by
      rcases Nat.lt_or_ge g w.heap.size with h' | h'
      · exact h'
      · rw [Array.getElem?_eq_none h'] at h; simp at h
    rw [hb.block g hlt]
    exact h
def ErrAt (w : World) (g : Nat) : Prop := ∃ ev : Value, w.cell? ⟨g, 0, none⟩ = some ev ∧ (ev = .nilIface ∨ ∃ te pe, ev = .iface te pe)
set_option maxHeartbeats 400000 in
theorem wholeText_any (v : Int) (v0 : -9223372036854775808 ≤ v) (v1 : v ≤ 9223372036854775807) (w : World) (ht : PowTab w) :
    Calls Tryd.prog 17 #[.int .i64 v] w fun e w' => e = .returned (.string ⟨(Lib.itoa v).toArray⟩) ∧ Below w.heap.size w w' := by
  have F : Calls Tryd.prog 32 #[.int .i64 v, .int .i64 10] w fun e w' => e = .returned (.string ⟨(Lib.itoa v).toArray⟩) ∧ Below w.heap.size w w' := by
    refine (Tryd.strconv_FormatInt_10 v v0 v1 w ht).mono ?_
    rintro e w' ⟨rfl, k, os, rfl⟩
    exact ⟨rfl, below_grow _ w (Nat.le_refl _) k os⟩
  have F' := hide F
  clear F ht
  generalize Lib.itoa v = L at *
  go_enter Tryd.func17, Tryd.ntmps17
  go_wp2_with fail
  with_reducible refine (unhide F').mono ?_
  rintro e w' ⟨rfl, hb⟩
  go_wp2_with fail
  go_ret
  exact ⟨rfl, hb⟩
theorem bs_ne {a b : ByteArray} (h : a ≠ b) : (a == b) = false := by
  show (a.data == b.data) = false
  rw [beq_eq_false_iff_ne]
  intro h2
  exact h (ByteArray.ext h2)
set_option maxHeartbeats 1600000 in
theorem wholeParse_any (s : ByteArray) (hs : s.size ≤ 1000) (w : World) (ht : PowTab w) (he1 : ErrAt w 1) (he2 : ErrAt w 2) :
    Calls Tryd.prog 18 #[.string s] w fun e w' => e = .returned (.tuple #[.int .i64 (iV (canonInt s.data.toList)), .bool (canonInt s.data.toList).isSome]) ∧ Below w.heap.size w w' := by
  have HT := hide ht
  cases hp : Lib.parseIntB 64 s.data.toList with
  | ok v =>
    obtain ⟨v0, v1⟩ := parse_range hp
    have P : Calls Tryd.prog 33 #[.string s, .int .i64 10, .int .i64 64] w fun e w' => e = .returned (.tuple #[.int .i64 v, .nilIface]) ∧ Below w.heap.size w w' := by
      refine (Tryd.strconv_ParseInt_10_at64_ok s (by omega) v hp w).mono ?_
      rintro e w' ⟨rfl, rfl | ⟨t, rfl⟩⟩
      · exact ⟨rfl, Below.refl _ _⟩
      · exact ⟨rfl, Lib.bytesWorld_below _ _ _⟩
    have P' := hide P
    have TX := fun w' (h : Below w.heap.size w w') => wholeText_any v v0 v1 w' (tabIs_below (unhide HT) h)
    have hc : canonInt s.data.toList = if Lib.itoa v = s.data.toList then some v else none := by unfold canonInt; rw [hp]
    rw [hc]
    clear P hc ht he1 he2
    by_cases he : Lib.itoa v = s.data.toList
    · rw [if_pos he]
      have e2 : (⟨(Lib.itoa v).toArray⟩ : ByteArray) = s := by rw [he]
      rw [e2] at TX
      have TX' := hide TX
      clear TX he e2 hp
      go_enter Tryd.func18, Tryd.ntmps18
      go_wp2_with fail
      with_reducible refine (unhide P').mono ?_
      rintro e w1 ⟨rfl, hb1⟩
      go_wp2_with fail
      with_reducible refine (unhide TX' _ (by repeat' (first | (with_reducible assumption) | (with_reducible exact Below.refl _ _) | (with_reducible refine below_drewN ?_ _) | (with_reducible refine Below.drew ?_) | (with_reducible refine Below.setCell ?_ ?_ _) | (with_reducible refine Below.alloc ?_ ?_ _) | omega | (simp; done) | (simp; omega)))).mono ?_
      rintro e w2 ⟨rfl, hb2⟩
      have hb3 := hb1.trans (hb2.mono hb1.size)
      go_wp2_with fail
      go_ret2
      exact ⟨rfl, by repeat' (first | (with_reducible assumption) | (with_reducible exact Below.refl _ _) | (with_reducible refine below_drewN ?_ _) | (with_reducible refine Below.drew ?_) | (with_reducible refine Below.setCell ?_ ?_ _) | (with_reducible refine Below.alloc ?_ ?_ _) | omega | (simp; done) | (simp; omega))⟩
    · rw [if_neg he]
      have hne2 : (Lib.itoa v == s.toList) = false := by
        rw [ByteArray.toList_eq, beq_eq_false_iff_ne]; exact he
      have hne3 : ((⟨(Lib.itoa v).toArray⟩ : ByteArray) == s) = false := bs_ne (fun h => he (by rw [← h]))
      have TX' := hide TX
      clear TX he hp
      go_enter Tryd.func18, Tryd.ntmps18
      go_wp2_with fail
      with_reducible refine (unhide P').mono ?_
      rintro e w1 ⟨rfl, hb1⟩
      go_wp2_with fail
      with_reducible refine (unhide TX' _ (by repeat' (first | (with_reducible assumption) | (with_reducible exact Below.refl _ _) | (with_reducible refine below_drewN ?_ _) | (with_reducible refine Below.drew ?_) | (with_reducible refine Below.setCell ?_ ?_ _) | (with_reducible refine Below.alloc ?_ ?_ _) | omega | (simp; done) | (simp; omega)))).mono ?_
      rintro e w2 ⟨rfl, hb2⟩
      have hb3 := hb1.trans (hb2.mono hb1.size)
      go_wp2_with fail
      go_ret2
      exact ⟨rfl, by repeat' (first | (with_reducible assumption) | (with_reducible exact Below.refl _ _) | (with_reducible refine below_drewN ?_ _) | (with_reducible refine Below.drew ?_) | (with_reducible refine Below.setCell ?_ ?_ _) | (with_reducible refine Below.alloc ?_ ?_ _) | omega | (simp; done) | (simp; omega))⟩
  | «syntax» =>
    have hc : canonInt s.data.toList = none := by unfold canonInt; rw [hp]
    rw [hc]
    obtain ⟨ev, hv, hev⟩ := he1
    have P : Calls Tryd.prog 33 #[.string s, .int .i64 10, .int .i64 64] w fun e w' => ∃ N, e = .returned (.tuple #[.int .i64 0, .iface 64 (.pointer (some ⟨N, 0, none⟩))]) ∧ Below w.heap.size w w' := by
      refine (Tryd.strconv_ParseInt_10_at64_syntax s (by omega) hp ev w hv hev).mono ?_
      rintro e w' ⟨N, rfl, _, _, hb⟩
      exact ⟨N, rfl, hb⟩
    have P' := hide P
    clear P hc ht hv hev he2 hp
    go_enter Tryd.func18, Tryd.ntmps18
    go_wp2_with fail
    with_reducible refine (unhide P').mono ?_
    rintro e w1 ⟨N, rfl, hb1⟩
    go_wp2_with fail
    go_ret2
    exact ⟨rfl, by repeat' (first | (with_reducible assumption) | (with_reducible exact Below.refl _ _) | (with_reducible refine below_drewN ?_ _) | (with_reducible refine Below.drew ?_) | (with_reducible refine Below.setCell ?_ ?_ _) | (with_reducible refine Below.alloc ?_ ?_ _) | omega | (simp; done) | (simp; omega))⟩
  | range =>
    have hc : canonInt s.data.toList = none := by unfold canonInt; rw [hp]
    rw [hc]
    obtain ⟨ev, hv, hev⟩ := he2
    obtain ⟨x, hx⟩ : ∃ x, Lib.intSat 64 s.data.toList = x := ⟨_, rfl⟩
    have P : Calls Tryd.prog 33 #[.string s, .int .i64 10, .int .i64 64] w fun e w' => ∃ N, e = .returned (.tuple #[.int .i64 x, .iface 64 (.pointer (some ⟨N, 0, none⟩))]) ∧ Below w.heap.size w w' := by
      refine (Tryd.strconv_ParseInt_10_at64_range s (by omega) hp ev w hv hev).mono ?_
      rintro e w' ⟨N, rfl, _, _, hb⟩
      exact ⟨N, by rw [hx], hb⟩
    have P' := hide P
    clear P hc ht hv hev he1 hp hx
    go_enter Tryd.func18, Tryd.ntmps18
    go_wp2_with fail
    with_reducible refine (unhide P').mono ?_
    rintro e w1 ⟨N, rfl, hb1⟩
    go_wp2_with fail
    go_ret2
    exact ⟨rfl, by repeat' (first | (with_reducible assumption) | (with_reducible exact Below.refl _ _) | (with_reducible refine below_drewN ?_ _) | (with_reducible refine Below.drew ?_) | (with_reducible refine Below.setCell ?_ ?_ _) | (with_reducible refine Below.alloc ?_ ?_ _) | omega | (simp; done) | (simp; omega))⟩
end Go.Proofs.YtdfpknomhambcaaDoor
