/- The law WhenBack, of every time. -/
import Derived.Test.YtdfpknomhambcaaDoorW25
namespace Go.Proofs.YtdfpknomhambcaaDoor
open Go.RowKit
set_option linter.unusedSimpArgs false
set_option linter.unusedVariables false
theorem whenBack_all (v : Int) (v0 : -9223372036854775808 ≤ v) (v1 : v ≤ 9223372036854775807) (w : World) (h : PowTab w) :
    Calls Tryd.prog 5 #[.int .i64 v] w fun e w' => e = .returned (.bool true) ∧ Below w.heap.size w w' := by
  by_cases hr : v < 0 ∨ 253402300799999 < v
  · exact whenBack_none v hr w h
  · obtain ⟨y, m, d, hy⟩ := ymd_exists (v / 86400000) (by omega) (by omega)
    obtain ⟨S, eS⟩ : ∃ S, v % 86400000 / 1000 = S := ⟨_, rfl⟩
    obtain ⟨F, eF⟩ : ∃ F, v % 86400000 % 1000 = F := ⟨_, rfl⟩
    have P := fun W hW => whenText_walk v _ _ S F y m d (by omega) (by omega) rfl rfl eS eF (by omega) (by omega) (by omega) (by omega) (by omega) (by omega) (by omega) (by omega) hy W hW
    obtain ⟨b1, b2, b3, b4, b5, b6, b7⟩ := hy
    have hml := mlen_bd y m
    have hb := when_back y.toNat m.toNat (d + 1).toNat (S / 3600).toNat (S / 60 % 60).toNat (S % 60).toNat F.toNat (by omega) (by omega) (by omega) (by omega) (by omega) (by omega) (by omega) (by
      unfold whenOk
      rw [Int.toNat_of_nonneg (show 0 ≤ y by omega), Int.toNat_of_nonneg (show 0 ≤ m by omega)]
      omega)
    have hlen := whenTxt_len y.toNat m.toNat (d + 1).toNat (S / 3600).toNat (S / 60 % 60).toNat (S % 60).toNat F.toNat
    have hv : whenVal y.toNat m.toNat (d + 1).toNat (S / 3600).toNat (S / 60 % 60).toNat (S % 60).toNat F.toNat = v := by
      unfold whenVal
      rw [Int.toNat_of_nonneg (show 0 ≤ y by omega), Int.toNat_of_nonneg (show 0 ≤ m by omega)]
      omega
    rw [hv] at hb
    generalize whenTxt y.toNat m.toNat (d + 1).toNat (S / 3600).toNat (S / 60 % 60).toNat (S % 60).toNat F.toNat = l at *
    have hsz : (⟨l.toArray⟩ : ByteArray).size = l.length := rfl
    refine whenBack_some v ⟨l.toArray⟩ (by omega) (by omega) ?_ P (fun W => ?_) w h
    · rw [hsz, hlen]
      split
      · left; exact ⟨rfl, by omega⟩
      · right; exact ⟨rfl, by omega⟩
    · have hp := whenParse_any ⟨l.toArray⟩ (by rw [hsz, hlen]; split <;> omega) W
      rw [show (⟨l.toArray⟩ : ByteArray).data.toList = l from rfl, hb] at hp
      exact hp
end Go.Proofs.YtdfpknomhambcaaDoor
