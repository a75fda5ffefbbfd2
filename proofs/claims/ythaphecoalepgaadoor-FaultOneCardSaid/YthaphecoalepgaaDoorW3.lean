/- Contracts of the reference's number and ParseInt. Condition: texts of at most 1000 bytes. -/
import Derived.Test.YthaphecoalepgaaDoorW2
import Derived.Test.YthaphecoalepgaaDoorTab
namespace Go.Proofs.YthaphecoalepgaaDoor
open Go.RowKit
set_option linter.unusedSimpArgs false
set_option linter.unusedVariables false

theorem dval_app (a : Nat) (l m : List UInt8) : dval a (l ++ m) = dval (dval a l) m := by unfold dval; rw [List.foldl_append]
theorem dval_take (l : List UInt8) (k : Nat) : dval 0 (l.take k) ≤ dval 0 l := by
  have e : dval 0 l = dval (dval 0 (l.take k)) (l.drop k) := by rw [← dval_app, List.take_append_drop]
  rw [e]; exact dval_ge _ _
theorem refNum_bad {l : List UInt8} {m k : Nat} (hk : k < l.length) (h : isD l[k] = false) : refNum l m = none := by
  unfold refNum
  rw [if_neg]
  rintro ⟨_, _, _, ha, _⟩
  have := List.all_eq_true.1 ha l[k] (List.getElem_mem hk)
  rw [h] at this
  cases this
theorem refNum_great {l : List UInt8} {m : Nat} (k : Nat) (h : m < dval 0 (l.take k)) : refNum l m = none := by
  unfold refNum
  rw [if_neg]
  rintro ⟨_, _, _, _, hd⟩
  have := dval_take l k
  omega
theorem refNum_early {l : List UInt8} {m : Nat} (h : l = [] ∨ 20 < l.length ∨ (1 < l.length ∧ hdIs l 48 48 = true)) : refNum l m = none := by
  unfold refNum
  rw [if_neg]
  rintro ⟨h1, h2, h3, _, _⟩
  rcases h with h | h | ⟨h, h'⟩
  · exact h1 h
  · omega
  · rcases h3 with h3 | h3
    · omega
    · rw [h'] at h3; cases h3
def nV (o : Option Nat) : Int := ((o.getD 0 : Nat) : Int)
theorem ret_ub {a b : Int} {p q : Bool} (h1 : a = b) (h2 : p = q) : Ending.returned (.tuple #[.int .u64 a, .bool p]) = .returned (.tuple #[.int .u64 b, .bool q]) := by rw [h1, h2]
theorem isEmpty_size (s : ByteArray) : s.toList.isEmpty = decide (s.size = 0) := by
  rw [ByteArray.toList_eq]
  have e : s.data.toList.length = s.size := by simp
  rw [← e]
  cases s.data.toList <;> simp
theorem hd_at (s : ByteArray) (h : 0 < s.size) (c d : Int) : hdIs s.data.toList c d = (((s[0]'h).toNat : Int) == c || ((s[0]'h).toNat : Int) == d) := by
  have := hdIs_at (l := s.data.toList) (i := 0) (by simpa using h) c d
  rw [List.drop_zero] at this
  exact this
set_option maxHeartbeats 1600000 in
set_option maxRecDepth 100000 in
theorem number_any (s : ByteArray) (hs : s.size ≤ 100000) (m : Int) (m0 : 9 ≤ m) (m1 : m ≤ 9223372036854775808) (w : World) :
    Calls Tryd.prog 22 #[.string s, .int .u64 m] w fun e w' => e = .returned (.tuple #[.int .u64 (nV (refNum s.data.toList m.toNat)), .bool (refNum s.data.toList m.toNat).isSome]) ∧ w = w' := by
  have hlen : s.data.toList.length = s.size := by simp
  have hE := isEmpty_size s
  by_cases h0 : s.size = 0
  · have hno : refNum s.data.toList m.toNat = none := refNum_early (Or.inl (List.eq_nil_of_length_eq_zero (hlen.trans h0)))
    rw [hno]
    rw [decide_eq_true h0] at hE
    clear hno hlen h0
    go_enter Tryd.func22, Tryd.ntmps22
    go_wp2_with fail
    go_ret2
    exact ⟨rfl, rfl⟩
  · rw [decide_eq_false h0] at hE
    have hp : 0 < s.size := by omega
    by_cases h20 : 20 < s.size
    · have hno : refNum s.data.toList m.toNat = none := refNum_early (Or.inr (Or.inl (by rw [hlen]; exact h20)))
      rw [hno]
      clear hno hlen
      go_enter Tryd.func22, Tryd.ntmps22
      go_wp2_with fail
      go_ret2
      exact ⟨rfl, rfl⟩
    · have hd0 := hd_at s hp 48 48
      rw [Bool.or_self] at hd0
      by_cases hz : 1 < s.size ∧ (((s[0]'hp).toNat : Int) == 48) = true
      · obtain ⟨z1, z2⟩ := hz
        have hno : refNum s.data.toList m.toNat = none := refNum_early (Or.inr (Or.inr ⟨by rw [hlen]; exact z1, by rw [hd0]; exact z2⟩))
        rw [hno]
        clear hno hlen hd0
        go_enter Tryd.func22, Tryd.ntmps22
        go_wp2_with fail
        go_ret2
        exact ⟨rfl, rfl⟩
      · have HZ : Hid (s.data.toList.length = 1 ∨ hdIs s.data.toList 48 48 = false) := hide (by
          rw [hd0, hlen]
          rcases Bool.eq_false_or_eq_true (((s[0]'hp).toNat : Int) == 48) with hx | hx
          · left
            have : ¬ 1 < s.size := fun h => hz ⟨h, hx⟩
            omega
          · exact Or.inr hx)
        have hcase : ((((s[0]'hp).toNat : Int) == 48) = false) ∨ ((((s[0]'hp).toNat : Int) == 48) = true ∧ ¬ 1 < s.size) := by
          rcases Bool.eq_false_or_eq_true (((s[0]'hp).toNat : Int) == 48) with hx | hx
          · exact Or.inr ⟨hx, fun h => hz ⟨h, hx⟩⟩
          · exact Or.inl hx
        obtain ⟨P, hP⟩ : ∃ P, refNum s.data.toList m.toNat = P := ⟨_, rfl⟩
        rw [hP]
        have HP := Lib.hid hP
        have HL := Lib.hid hlen
        clear hP hlen hz hd0
        rcases hcase with hA | ⟨hA, hB⟩
        all_goals
          go_enter Tryd.func22, Tryd.ntmps22
          go_wp2_with fail
          clear hE hA
          try clear hB
          go_loop [6, 7] (fun x i => ∃ (k : Nat) (v : Int), x = .int .u64 v ∧ i = .int .i64 k ∧ k ≤ s.size ∧ Hid ((s.data.toList.take k).all isD = true) ∧ Hid ((dval 0 (s.data.toList.take k) : Int) = v) ∧ 0 ≤ v ∧ v ≤ m) (fun _ i => s.size - (intOf i).toNat)
          case atStart => exact ⟨0, 0, rfl, rfl, Nat.zero_le _, hide rfl, hide rfl, by omega, by omega⟩
          case round =>
            obtain ⟨k, v, rfl, rfl, hk, HALL, HV, v0, v1⟩ := hrel
            by_cases hlt : k < s.size
            · have hbyte : s[k].toNat < 256 := UInt8.toNat_lt _
              have hin : k < s.data.toList.length := by rw [HL.out]; exact hlt
              have hgk : s.data.toList[k] = s[k] := rfl
              by_cases hd1 : s[k].toNat < 48
              · have hno : P = none := by rw [← HP.out]; exact refNum_bad hin (by rw [hgk, Bool.eq_false_iff]; intro h; have := isD_iff.1 h; omega)
                subst hno
                clear hgk
                go_wp2_with fail
                go_ret2
                exact ⟨rfl, rfl⟩
              · by_cases hd2 : 57 < s[k].toNat
                · have hno : P = none := by rw [← HP.out]; exact refNum_bad hin (by rw [hgk, Bool.eq_false_iff]; intro h; have := isD_iff.1 h; omega)
                  subst hno
                  clear hgk
                  go_wp2_with fail
                  go_ret2
                  exact ⟨rfl, rfl⟩
                · have hsub : IntKind.u8.wrap ((s[k].toNat : Int) - 48) = (s[k].toNat : Int) - 48 := IntWalk.u8_in _ (by omega)
                  have hsn : Hid ((dval 0 (s.data.toList.take (k + 1)) : Int) = v * 10 + ((s[k].toNat : Int) - 48)) := hide (by
                    have := unhide HV
                    rw [take_more s k hlt, dval_snoc]; omega)
                  have hal : Hid ((s.data.toList.take (k + 1)).all isD = true) := hide (by
                    rw [take_more s k hlt, List.all_append, unhide HALL, List.all_cons, isD_iff.2 ⟨by omega, by omega⟩]; rfl)
                  clear hgk
                  have hnm : ¬ m < (s[k].toNat : Int) - 48 := by omega
                  by_cases hg : (m - ((s[k].toNat : Int) - 48)) / 10 < v
                  · have hno : P = none := by
                      rw [← HP.out]
                      exact refNum_great (k + 1) (by have := unhide hsn; omega)
                    subst hno
                    go_wp2_with fail
                    go_ret2
                    exact ⟨rfl, rfl⟩
                  · have hfit : v * 10 + ((s[k].toNat : Int) - 48) ≤ m := by omega
                    go_wp2_with fail
                    go_round
                    case rel => exact ⟨k + 1, v * 10 + ((s[k].toNat : Int) - 48), rfl, by go_num, by omega, hal, hsn, by omega, hfit⟩
                    case measure => simp [intOf]; omega
            · have hke : k = s.size := by omega
              subst hke
              have hfull : s.data.toList.take s.size = s.data.toList := List.take_of_length_le (by rw [HL.out]; exact Nat.le_refl _)
              have hso : refNum s.data.toList m.toNat = some v.toNat := by
                have ha := unhide HALL
                have hv := unhide HV
                rw [hfull] at ha hv
                unfold refNum
                rw [if_pos ⟨fun h => by have := HL.out; rw [h] at this; simp at this; omega, by rw [HL.out]; omega, unhide HZ, ha, by omega⟩]
                congr 1
                omega
              have HSO : Hid (nV P = v ∧ P.isSome = true) := hide (by
                rw [← HP.out, hso]
                exact ⟨by unfold nV; simp; omega, rfl⟩)
              clear hso hfull
              go_wp2_with fail
              go_ret2
              exact ⟨ret_ub (unhide HSO).1.symm (unhide HSO).2.symm, rfl⟩
end Go.Proofs.YthaphecoalepgaaDoor
