/- Contracts of the reference's Digits and Int. No condition. -/
import Derived.Test.YtpgooajifehbbaaDoorProg
import Derived.Test.YtpgooajifehbbaaDoorAid
import Derived.Test.YtpgooajifehbbaaDoorLex2
import Derived.Lib.ParseIntB
import Derived.Outline
namespace Go.Proofs.YtpgooajifehbbaaDoor
open Go.RowKit
set_option linter.unusedSimpArgs false
set_option linter.unusedVariables false

theorem conv_one (W : World) (n : Int) :
    (convert 56 9 (.slice (some ⟨W.heap.size, 0, none⟩) 1 1)).run Tryd.prog (W.alloc (.cells #[.int .u8 n] 5)) = .ok (.string ⟨#[UInt8.ofNat n.toNat]⟩) (W.alloc (.cells #[.int .u8 n] 5)) := by
  have h := run_convert_bytes_arg (P := Tryd.prog) (W.alloc (.cells #[.int .u8 n] 5)) 56 5 Tryd.underlying56 Tryd.underlying5 W.heap.size 0 1 1 [n] rfl (fun i hi => by
    obtain rfl : i = 0 := by omega
    simp) 9 Tryd.underlying9
  rw [h]; rfl
/-- What a round of Digits keeps. -/
def DigSo (n q : Nat) (t : List UInt8) : Prop := Lib.decDigits n = Lib.decDigits q ++ t ∧ n ≤ 18446744073709551615
theorem digSo_len {n q : Nat} {t : List UInt8} (h : DigSo n q t) : t.length ≤ 19 := by
  have a := nDigits_of_lt 20 n (by decide) (by have := h.2; omega)
  rw [← Lib.decDigits_length, h.1, List.length_append, Lib.decDigits_length] at a
  have := Lib.nDigits_pos q
  omega
theorem digSo_round {n q : Nat} {t : List UInt8} (h : DigSo n q t) (hq : ¬ q < 10) : DigSo n (q / 10) (UInt8.ofNat (48 + q % 10) :: t) := by
  refine ⟨?_, h.2⟩
  rw [h.1, decDigits_ten hq, List.append_assoc]; rfl
theorem ret_sb {a b : ByteArray} (h : a = b) : Ending.returned (.string a) = .returned (.string b) := by rw [h]
theorem one_cat (x : UInt8) (t : ByteArray) : (⟨#[x]⟩ : ByteArray) ++ t = ⟨(x :: t.data.toList).toArray⟩ := ByteArray.ext (by simp)
set_option maxRecDepth 100000 in
set_option maxHeartbeats 1600000 in
theorem digits5_any (v : Int) (v0 : 0 ≤ v) (v1 : v ≤ 18446744073709551615) (w : World) :
    Calls Tryd.prog 35 #[.int .u64 v] w fun e w' => e = .returned (.string ⟨(Lib.decDigits v.toNat).toArray⟩) ∧ Below w.heap.size w w' := by
  obtain ⟨n, hn⟩ : ∃ n, n = v.toNat := ⟨_, rfl⟩
  have h0 : Hid (DigSo n v.toNat []) := hide ⟨by rw [hn]; simp, by omega⟩
  have hg0 : Hid (v.toNat ≤ n) := hide (by omega)
  rw [← hn]
  clear hn
  have j1 := conv_one
  go_enter Tryd.func35, Tryd.ntmps35
  go_wp2_with fail
  go_loopg [0, 3] n (fun g x s wr => ∃ (q : Int) (t : ByteArray), x = .int .u64 q ∧ s = .string t ∧ 0 ≤ q ∧ q ≤ 18446744073709551615 ∧ Hid (DigSo n q.toNat t.data.toList) ∧ Hid (q.toNat ≤ g) ∧ Below w.heap.size w wr)
  case atStart => exact ⟨v, ⟨#[]⟩, rfl, rfl, v0, v1, h0, hg0, by repeat' (first | (with_reducible assumption) | (with_reducible exact Below.refl _ _) | (with_reducible refine below_drewN ?_ _) | (with_reducible refine Below.drew ?_) | (with_reducible refine Below.setCell ?_ ?_ _) | (with_reducible refine Below.alloc ?_ ?_ _) | omega | (simp; done) | (simp; omega))⟩
  case round =>
    obtain ⟨q, t, rfl, rfl, q0, q1, hso, hg, hbw⟩ := hrel
    have hl : t.size ≤ 19 := by
      have e : t.data.toList.length = t.size := by simp
      rw [← e]
      exact digSo_len (unhide hso)
    have hls : 1 + t.size ≤ 20 := by omega
    have hsz := hbw.size
    by_cases hq : 9 < q
    · have hn := hide (digSo_round (unhide hso) (by omega))
      have e1 : Hid ((q / 10).toNat = q.toNat / 10) := hide (by omega)
      have e2 : Hid ((48 + q % 10).toNat = 48 + q.toNat % 10) := hide (by omega)
      go_wp2_with fail
      go_roundg (q / 10).toNat
      case measure => have := unhide hg; omega
      case rel =>
        refine ⟨q / 10, _, rfl, rfl, by omega, by omega, hide ?_, hide (Nat.le_refl _), by repeat' (first | (with_reducible assumption) | (with_reducible exact Below.refl _ _) | (with_reducible refine below_drewN ?_ _) | (with_reducible refine Below.drew ?_) | (with_reducible refine Below.setCell ?_ ?_ _) | (with_reducible refine Below.alloc ?_ ?_ _) | omega | (simp; done) | (simp; omega))⟩
        rw [one_cat, unhide e1, unhide e2]
        exact unhide hn
    · have HF : Hid ((⟨#[UInt8.ofNat (48 + q).toNat]⟩ : ByteArray) ++ t = ⟨(Lib.decDigits n).toArray⟩) := hide (by
        rw [one_cat, (unhide hso).1, Lib.decDigits_one (by omega), show (48 + q).toNat = 48 + q.toNat by omega]; rfl)
      go_wp2_with fail
      go_ret
      exact ⟨ret_sb (unhide HF), by repeat' (first | (with_reducible assumption) | (with_reducible exact Below.refl _ _) | (with_reducible refine below_drewN ?_ _) | (with_reducible refine Below.drew ?_) | (with_reducible refine Below.setCell ?_ ?_ _) | (with_reducible refine Below.alloc ?_ ?_ _) | omega | (simp; done) | (simp; omega))⟩
set_option maxRecDepth 100000 in
set_option maxHeartbeats 800000 in
theorem int5_any (v : Int) (v0 : -9223372036854775808 ≤ v) (v1 : v ≤ 9223372036854775807) (w : World) :
    Calls Tryd.prog 17 #[.int .i64 v] w fun e w' => e = .returned (.string ⟨(Lib.itoa v).toArray⟩) ∧ Below w.heap.size w w' := by
  by_cases hv : v < 0
  · have hi : Hid (Lib.itoa v = 45 :: Lib.decDigits v.natAbs) := hide (by unfold Lib.itoa; rw [if_pos hv])
    have D := fun w => digits5_any (-(v + 1) + 1) (by omega) (by omega) w
    have e1 : (-(v + 1) + 1).toNat = v.natAbs := by omega
    rw [e1] at D
    have D' := hide D
    have hlen : Hid ((Lib.decDigits v.natAbs).length ≤ 20) := hide (by rw [Lib.decDigits_length]; exact nDigits_of_lt 20 _ (by decide) (by omega))
    obtain ⟨t, ht⟩ : ∃ t : ByteArray, t = ⟨(Lib.decDigits v.natAbs).toArray⟩ := ⟨_, rfl⟩
    have htl : 1 + t.size ≤ 21 := by
      have := unhide hlen
      rw [ht]
      show 1 + (Lib.decDigits v.natAbs).toArray.size ≤ 21
      rw [List.size_toArray]; omega
    have HT : Hid ((⟨#[45]⟩ : ByteArray) ++ t = ⟨(Lib.itoa v).toArray⟩) := hide (by rw [one_cat, unhide hi, ht])
    rw [← ht] at D
    have D' := hide D
    clear D ht e1 hlen hi
    have hk2 : ({ data := #[45] } : ByteArray).size = 1 := rfl
    go_enter Tryd.func17, Tryd.ntmps17
    go_wp2_with fail
    with_reducible refine (unhide D' _).mono ?_
    rintro e w' ⟨rfl, hb⟩
    go_wp2_with fail
    go_ret
    exact ⟨ret_sb (unhide HT), hb⟩
  · have D := fun w => digits5_any v (by omega) (by omega) w
    have hi : Lib.itoa v = Lib.decDigits v.toNat := by unfold Lib.itoa; rw [if_neg hv]
    rw [← hi] at D
    have D' := hide D
    clear D hi
    go_enter Tryd.func17, Tryd.ntmps17
    go_wp2_with fail
    with_reducible refine (unhide D' _).mono ?_
    rintro e w' ⟨rfl, hb⟩
    go_wp2_with fail
    go_ret
    exact ⟨rfl, hb⟩
end Go.Proofs.YtpgooajifehbbaaDoor
