/- The contract of when.field: the number of some digits of a text. Condition: at most four digits of a text of at most 1000 bytes. -/
import Derived.Test.YtoidmnleedkbiaaDoorW12
import Derived.Lib.ConvBytes
import Derived.Lib.AtoiErrMem
import Derived.Outline
namespace Go.Proofs.YtoidmnleedkbiaaDoor
open Go.RowKit
set_option linter.unusedSimpArgs false
set_option linter.unusedVariables false

def fldV (n : Int) : Int := if n < 0 then 0 else n
def fldB (n least most : Int) : Bool := decide (0 ≤ n) && (decide (least ≤ n) && decide (n ≤ most))
theorem dval_bd : ∀ (l : List UInt8), l.length ≤ 4 → l.all isD = true → dval 0 l ≤ 9999
  | [], _, _ => Nat.zero_le _
  | [a], _, h => by
    simp only [List.all_cons, Bool.and_eq_true] at h
    have := isD_iff.1 h.1
    simp [dval]; omega
  | [a, b], _, h => by
    simp only [List.all_cons, Bool.and_eq_true] at h
    have := isD_iff.1 h.1; have := isD_iff.1 h.2.1
    simp [dval]; omega
  | [a, b, c], _, h => by
    simp only [List.all_cons, Bool.and_eq_true] at h
    have := isD_iff.1 h.1; have := isD_iff.1 h.2.1; have := isD_iff.1 h.2.2.1
    simp [dval]; omega
  | [a, b, c, d], _, h => by
    simp only [List.all_cons, Bool.and_eq_true] at h
    have := isD_iff.1 h.1; have := isD_iff.1 h.2.1; have := isD_iff.1 h.2.2.1; have := isD_iff.1 h.2.2.2.1
    simp [dval]; omega
  | _ :: _ :: _ :: _ :: _ :: l, h, _ => by simp at h
theorem numOf_bad {l : List UInt8} {k : Nat} (hk : k < l.length) (h : isD l[k] = false) : numOf l = -1 := by
  unfold numOf
  rw [if_neg]
  intro ha
  have := List.all_eq_true.1 ha l[k] (List.getElem_mem hk)
  rw [h] at this
  cases this
set_option maxHeartbeats 1600000 in
set_option maxRecDepth 100000 in
theorem field_any (s t : ByteArray) (a b : Int) (ha0 : 0 ≤ a) (hab : a ≤ b) (hbs : b ≤ s.size) (hs : s.size ≤ 1000) (ht : s.extract a.toNat b.toNat = t) (htz : t.size ≤ 4) (least most : Int) (w : World) :
    Calls Tryd.prog 9 #[.string s, .int .i64 a, .int .i64 b, .int .i64 least, .int .i64 most] w fun e w' =>
      e = .returned (.tuple #[.int .i64 (fldV (numOf t.data.toList)), .bool (fldB (numOf t.data.toList) least most)]) ∧ Below w.heap.size w w' := by
  have kc := fun (W : World) => Lib.run_convert_string_bytes (P := Tryd.prog) W 9 36 5 t Tryd.underlying9 Tryd.underlying36 Tryd.underlying5
  obtain ⟨L, hL⟩ : ∃ L, t.data.toList = L := ⟨_, rfl⟩
  have HL := hide hL
  rw [hL]
  clear hL
  go_enter Tryd.func9, Tryd.ntmps9
  go_wp2_with fail
  clear kc
  have HC := hide (fun j hj => Lib.bytesWorld_cell w 5 t j hj)
  have hB := Lib.bytesWorld_below w 5 t
  generalize Lib.bytesWorld w 5 t = W0 at *
  generalize grownCap w t.size 0 5 = C at *
  have HLL : Hid (L.length = t.size) := hide (by rw [← unhide HL]; simp)
  go_loop [12, 21] (fun x i => ∃ (k : Nat) (v : Int), x = .int .i64 v ∧ i = .int .i64 k ∧ k ≤ t.size ∧ Hid ((L.take k).all isD = true) ∧ Hid ((dval 0 (L.take k) : Int) = v) ∧ 0 ≤ v ∧ v ≤ 9999) (fun _ i => t.size - (intOf i).toNat)
  case atStart => exact ⟨0, 0, rfl, rfl, Nat.zero_le _, hide rfl, hide rfl, by decide, by decide⟩
  case round =>
    obtain ⟨k, v, rfl, rfl, hk, HALL, HV, v0, v1⟩ := hrel
    by_cases hlt : k < t.size
    · have hin : k < L.length := by rw [unhide HLL]; exact hlt
      have hcell : W0.cell? ⟨w.heap.size, k, none⟩ = some (.int .u8 ((L[k]).toNat : Int)) := by
        have := unhide HC k hlt
        rw [unhide HL, List.getD_eq_getElem?_getD, List.getElem?_eq_getElem hin] at this
        exact this
      obtain ⟨c, hc⟩ : ∃ c : Int, c = ((L[k]).toNat : Int) := ⟨_, rfl⟩
      rw [← hc] at hcell
      have hbyte : (L[k]).toNat < 256 := UInt8.toNat_lt _
      have c0 : 0 ≤ c := by omega
      have c1 : c ≤ 255 := by omega
      by_cases hd1 : c < 48
      · have hno : Hid (numOf L = -1) := hide (numOf_bad hin (by rw [Bool.eq_false_iff]; intro h; have := isD_iff.1 h; omega))
        clear hc
        go_wp2_with fail
        go_ret2
        exact ⟨by rw [unhide hno]; rfl, by repeat' (first | (with_reducible assumption) | (with_reducible exact Below.refl _ _) | (with_reducible refine below_drewN ?_ _) | (with_reducible refine Below.drew ?_) | (with_reducible refine Below.setCell ?_ ?_ _) | (with_reducible refine Below.alloc ?_ ?_ _) | omega | (simp; done) | (simp; omega))⟩
      · by_cases hd2 : 57 < c
        · have hno : Hid (numOf L = -1) := hide (numOf_bad hin (by rw [Bool.eq_false_iff]; intro h; have := isD_iff.1 h; omega))
          clear hc
          go_wp2_with fail
          go_ret2
          exact ⟨by rw [unhide hno]; rfl, by repeat' (first | (with_reducible assumption) | (with_reducible exact Below.refl _ _) | (with_reducible refine below_drewN ?_ _) | (with_reducible refine Below.drew ?_) | (with_reducible refine Below.setCell ?_ ?_ _) | (with_reducible refine Below.alloc ?_ ?_ _) | omega | (simp; done) | (simp; omega))⟩
        · have hts : L.take (k + 1) = L.take k ++ [L[k]] := List.take_succ_eq_append_getElem hin
          have hal : Hid ((L.take (k + 1)).all isD = true) := hide (by
            rw [hts, List.all_append, unhide HALL, List.all_cons, isD_iff.2 ⟨by omega, by omega⟩]; rfl)
          have hsn : Hid ((dval 0 (L.take (k + 1)) : Int) = 10 * v + (c - 48)) := hide (by
            have := unhide HV
            rw [hts, dval_snoc]; omega)
          have hv9 : 10 * v + (c - 48) ≤ 9999 := by
            have := dval_bd (L.take (k + 1)) (by rw [List.length_take]; omega) (unhide hal)
            have := unhide hsn
            omega
          have hsub : IntKind.u8.wrap (c - 48) = c - 48 := IntWalk.u8_in _ (by omega)
          clear hc hts
          go_wp2_with fail
          go_round
          case rel => exact ⟨k + 1, 10 * v + (c - 48), rfl, by go_num, by omega, hal, hsn, by omega, hv9⟩
          case measure => simp [intOf]; omega
    · have hke : k = t.size := by omega
      have hfull : L.take k = L := List.take_of_length_le (by rw [unhide HLL]; omega)
      have HN : Hid (numOf L = v) := hide (by
        have ha := unhide HALL
        have hv := unhide HV
        rw [hfull] at ha hv
        unfold numOf
        rw [if_pos ha, hv])
      clear hfull
      by_cases q1 : least ≤ v
      · by_cases q2 : v ≤ most
        · have HF : Hid (fldV v = v ∧ fldB v least most = true) := hide ⟨if_neg (by omega), by unfold fldB; simp [v0, q1, q2]⟩
          go_wp2_with fail
          go_ret2
          exact ⟨by rw [unhide HN, (unhide HF).1, (unhide HF).2]; first | rfl | simp [*], by repeat' (first | (with_reducible assumption) | (with_reducible exact Below.refl _ _) | (with_reducible refine below_drewN ?_ _) | (with_reducible refine Below.drew ?_) | (with_reducible refine Below.setCell ?_ ?_ _) | (with_reducible refine Below.alloc ?_ ?_ _) | omega | (simp; done) | (simp; omega))⟩
        · have HF : Hid (fldV v = v ∧ fldB v least most = false) := hide ⟨if_neg (by omega), by unfold fldB; simp [q2]⟩
          go_wp2_with fail
          go_ret2
          exact ⟨by rw [unhide HN, (unhide HF).1, (unhide HF).2]; first | rfl | simp [*], by repeat' (first | (with_reducible assumption) | (with_reducible exact Below.refl _ _) | (with_reducible refine below_drewN ?_ _) | (with_reducible refine Below.drew ?_) | (with_reducible refine Below.setCell ?_ ?_ _) | (with_reducible refine Below.alloc ?_ ?_ _) | omega | (simp; done) | (simp; omega))⟩
      · have HF : Hid (fldV v = v ∧ fldB v least most = false) := hide ⟨if_neg (by omega), by unfold fldB; simp [q1]⟩
        go_wp2_with fail
        go_ret2
        exact ⟨by rw [unhide HN, (unhide HF).1, (unhide HF).2]; first | rfl | simp [*], by repeat' (first | (with_reducible assumption) | (with_reducible exact Below.refl _ _) | (with_reducible refine below_drewN ?_ _) | (with_reducible refine Below.drew ?_) | (with_reducible refine Below.setCell ?_ ?_ _) | (with_reducible refine Below.alloc ?_ ?_ _) | omega | (simp; done) | (simp; omega))⟩
end Go.Proofs.YtoidmnleedkbiaaDoor
