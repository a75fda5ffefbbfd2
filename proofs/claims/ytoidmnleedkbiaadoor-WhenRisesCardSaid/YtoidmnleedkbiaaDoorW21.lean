/- The bytes of s[:19] + s[23:]. No program. -/
import Derived.Test.YtoidmnleedkbiaaDoorW20
namespace Go.Proofs.YtoidmnleedkbiaaDoor
set_option linter.unusedSimpArgs false
set_option linter.unusedVariables false
theorem byteIs_get {s : ByteArray} {k c : Nat} (hc : c < 256) : byteIs s k c ↔ s.data.toList[k]? = some (UInt8.ofNat c) := by
  constructor
  · rintro ⟨h, e⟩
    have hin : k < s.data.toList.length := by simpa using h
    rw [List.getElem?_eq_getElem hin]
    congr 1
    apply UInt8.toNat_inj.1
    rw [UInt8.toNat_ofNat']
    show (s[k]'h).toNat = _
    omega
  · intro h
    obtain ⟨hin, e⟩ := List.getElem?_eq_some_iff.1 h
    refine ⟨by simpa using hin, ?_⟩
    show (s.data.toList[k]).toNat = c
    rw [e, UInt8.toNat_ofNat']
    omega
theorem joined (s : ByteArray) (hz : s.size = 24) : (s.extract 0 19 ++ s.extract 23 24).data.toList = s.data.toList.take 19 ++ s.data.toList.drop 23 := by
  have hl : s.data.toList.length = 24 := by simpa using hz
  rw [ByteArray.data_append, Array.toList_append]
  congr 1
  · simp
  · simp
    exact List.take_of_length_le (by simp; omega)
end Go.Proofs.YtoidmnleedkbiaaDoor
