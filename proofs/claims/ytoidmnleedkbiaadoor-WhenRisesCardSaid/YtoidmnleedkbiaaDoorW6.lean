/- Contracts of when.put: a number's digits, noughts ahead. Condition: it has no more digits; when.put: the table of powers of 10 is laid. -/
import Derived.Test.YtoidmnleedkbiaaDoorTab
import Derived.Test.YtoidmnleedkbiaaDoorW2
import Derived.Test.YtoidmnleedkbiaaDoorW5
import Derived.Test.YtoidmnleedkbiaaDoorShelf
import Derived.Lib.AppendIntMem
namespace Go.Proofs.YtoidmnleedkbiaaDoor
open Go.RowKit Go.Sort Go.Lib
set_option linter.unusedSimpArgs false
set_option linter.unusedVariables false

abbrev PowTab (w : World) : Prop := Lib.TabIs Tryd.prog w "internal/strconv.uint64pow10" .u64 Lib.pow10Tab
def PadSo (n : Nat) (l : List UInt8) : Prop := ∃ j, l = List.replicate j 48 ++ Lib.decDigits n
theorem padSo_start (n : Nat) : PadSo n (Lib.decDigits n) := ⟨0, rfl⟩
theorem padSo_round {n : Nat} {l : List UInt8} (h : PadSo n l) : PadSo n (48 :: l) := by
  obtain ⟨j, rfl⟩ := h
  exact ⟨j + 1, rfl⟩
theorem padSo_end {n k : Nat} {l : List UInt8} (h : PadSo n l) (hk : 1 ≤ k) (hn : n < 10 ^ k) (hl : l.length = k) : padK k n = l := by
  obtain ⟨j, rfl⟩ := h
  rw [List.length_append, List.length_replicate, Lib.decDigits_length] at hl
  rw [padK_eq k n hk hn, show k - Lib.nDigits n = j by omega]
theorem itoa_any (n : Int) (n0 : 0 ≤ n) (n1 : n ≤ 9223372036854775807) (w : World) (ht : PowTab w) :
    Calls Tryd.prog 17 #[.int .i64 n] w fun e w' => e = .returned (.string ⟨(Lib.decDigits n.toNat).toArray⟩) ∧ Below w.heap.size w w' := by
  refine (Tryd.strconv_Itoa n (by omega) n1 w ht).mono ?_
  rintro e w' ⟨rfl, k, os, rfl⟩
  refine ⟨?_, below_grow _ w (Nat.le_refl _) k os⟩
  unfold Lib.itoa
  rw [if_neg (by omega)]

set_option maxHeartbeats 1600000 in
theorem put_any (n k : Int) (n0 : 0 ≤ n) (k0 : 1 ≤ k) (k1 : k ≤ 4) (hn : n.toNat < 10 ^ k.toNat) (w : World) (htab : PowTab w) :
    Calls Tryd.prog 15 #[.int .i64 n, .int .i64 k] w fun e w' => e = .returned (.string ⟨(padK k.toNat n.toNat).toArray⟩) ∧ Below w.heap.size w w' := by
  have hb : n ≤ 9999 := by
    have : 10 ^ k.toNat ≤ 10 ^ 4 := Nat.pow_le_pow_right (by decide) (by omega)
    omega
  have D := itoa_any n n0 (by omega) w htab
  have hnd : Hid (Lib.nDigits n.toNat ≤ k.toNat) := hide (nDigits_of_lt k.toNat n.toNat (by omega) hn)
  have HN := hide hn
  obtain ⟨t0, ht0⟩ : ∃ t : ByteArray, t = ⟨(Lib.decDigits n.toNat).toArray⟩ := ⟨_, rfl⟩
  rw [← ht0] at D
  have D' : Hid (∀ w' : World, w' = w → Calls Tryd.prog 17 #[.int .i64 n] w' fun e w2 => e = .returned (.string t0) ∧ Below w'.heap.size w' w2) := hide (fun w' h => h ▸ D)
  have hst : Hid (PadSo n.toNat t0.data.toList) := hide (by rw [ht0]; exact padSo_start _)
  have hlt : t0.size ≤ 4 := by
    have := unhide hnd
    rw [ht0]
    show (Lib.decDigits n.toNat).toArray.size ≤ 4
    rw [List.size_toArray, Lib.decDigits_length]; omega
  have hlt2 : Hid ((t0.size : Int) ≤ k) := hide (by
    have := unhide hnd
    have e : t0.size = Lib.nDigits n.toNat := by
      rw [ht0]
      show (Lib.decDigits n.toNat).toArray.size = _
      rw [List.size_toArray, Lib.decDigits_length]
    omega)
  clear D ht0 hn htab
  have hk2 : ({ data := #[48] } : ByteArray).size = 1 := rfl
  go_enter Tryd.func15, Tryd.ntmps15
  go_wp2_with fail
  with_reducible refine (unhide D' _ rfl).mono ?_
  rintro e w1 ⟨rfl, hb1⟩
  go_wp2_with fail
  go_loopg [5] 4 (fun g t wr => ∃ tb : ByteArray, t = .string tb ∧ Hid (PadSo n.toNat tb.data.toList) ∧ tb.size ≤ 4 ∧ Hid ((tb.size : Int) ≤ k) ∧ 4 - tb.size ≤ g ∧ Below w.heap.size w wr)
  case atStart => exact ⟨t0, rfl, hst, hlt, hlt2, by omega, hb1⟩
  case round =>
    obtain ⟨tb, rfl, hso, hle, hle2, hg, hbw⟩ := hrel
    by_cases hl : (tb.size : Int) < k
    · have hs2 : tb.size ≤ 3 := by omega
      have hss : 1 + tb.size ≤ 5 := by omega
      have hn := hide (padSo_round (unhide hso))
      have hz : Hid ((((⟨#[48]⟩ : ByteArray) ++ tb).size : Int) = 1 + tb.size) := hide (by rw [ByteArray.size_append]; show ((1 + tb.size : Nat) : Int) = _; omega)
      have hz2 : Hid (((⟨#[48]⟩ : ByteArray) ++ tb).size = 1 + tb.size) := hide (by rw [ByteArray.size_append]; rfl)
      have he : Hid ((((⟨#[48]⟩ : ByteArray) ++ tb)).data.toList = 48 :: tb.data.toList) := hide (by simp)
      go_wp2_with fail
      go_roundg (4 - (1 + tb.size))
      case measure => omega
      case rel =>
        refine ⟨_, rfl, ?_, ?_, ?_, ?_, by repeat' (first | (with_reducible assumption) | (with_reducible exact Below.refl _ _) | (with_reducible refine below_drewN ?_ _) | (with_reducible refine Below.drew ?_) | (with_reducible refine Below.setCell ?_ ?_ _) | (with_reducible refine Below.alloc ?_ ?_ _) | omega | (simp; done) | (simp; omega))⟩
        · rw [unhide he]; exact hn
        · rw [unhide hz2]; omega
        · rw [unhide hz]; exact hide (by omega)
        · rw [unhide hz2]; exact Nat.le_refl _
    · have HF : Hid (tb = ⟨(padK k.toNat n.toNat).toArray⟩) := hide (by
        have e : tb.data.toList.length = tb.size := by simp
        have := padSo_end (unhide hso) (by omega) (unhide HN) (show tb.data.toList.length = k.toNat by have := unhide hle2; omega)
        exact ByteArray.ext (by rw [this]))
      go_wp2_with fail
      go_ret
      exact ⟨ret_sb (unhide HF), by repeat' (first | (with_reducible assumption) | (with_reducible exact Below.refl _ _) | (with_reducible refine below_drewN ?_ _) | (with_reducible refine Below.drew ?_) | (with_reducible refine Below.setCell ?_ ?_ _) | (with_reducible refine Below.alloc ?_ ?_ _) | omega | (simp; done) | (simp; omega))⟩
end Go.Proofs.YtoidmnleedkbiaaDoor
