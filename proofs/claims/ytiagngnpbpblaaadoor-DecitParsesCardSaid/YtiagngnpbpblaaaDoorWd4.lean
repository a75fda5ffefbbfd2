/- Contracts of strconv.FormatUint at base 10, of strings.TrimLeft where nothing is to be trimmed, and of wide.Text. Condition: the table of powers of 10 is laid. -/
import Derived.Test.YtiagngnpbpblaaaDoorWd3
import Derived.Test.YtiagngnpbpblaaaDoorDv2
import Derived.Test.YtiagngnpbpblaaaDoorPar
import Derived.Outline
namespace Go.Proofs.YtiagngnpbpblaaaDoor
open Go.RowKit Go.Sort Go.Lib
set_option linter.unusedSimpArgs false
set_option linter.unusedVariables false

abbrev PowTab (w : World) : Prop := Lib.TabIs Tryd.prog w "internal/strconv.uint64pow10" .u64 Lib.pow10Tab
theorem tabIs_below {P : Program} {w w' : World} {name : String} {k : IntKind} {zs : List Int} (h : TabIs P w name k zs) (hb : Below w.heap.size w w') : TabIs P w' name k zs := by
  unfold TabIs World.var? at *
  cases hg : P.globalNamed name with
  | none => simp [hg] at h
  | some g =>
    simp only [hg, Option.bind_some] at h ⊢
    have hlt : g < w.heap.size := by
      rcases Nat.lt_or_ge g w.heap.size with h' | h'
      · exact h'
      · rw [Array.getElem?_eq_none h'] at h; simp at h
    rw [hb.block g hlt]
    exact h
set_option maxRecDepth 100000 in
set_option maxHeartbeats 400000 in
theorem fmtUint_any (u : Int) (u0 : 0 ≤ u) (hu : u ≤ 18446744073709551615) (w : World) (htab : PowTab w) :
    Calls Tryd.prog 51 #[.int .u64 u, .int .i64 10] w fun e w' => e = .returned (.string ⟨(Lib.decDigits u.toNat).toArray⟩) ∧ Below w.heap.size w w' := by
  obtain ⟨n, rfl⟩ := Int.eq_ofNat_of_zero_le u0
  have F := Lib.hid (fmtUint_in n (by omega) w htab)
  clear htab
  rw [Int.toNat_natCast]
  generalize Lib.decDigits n = L at *
  go_enter Tryd.func51, Tryd.ntmps51
  go_wp2_with fail
  with_reducible refine (F.out).mono ?_
  rintro e w' ⟨rfl, hb⟩
  go_wp2_with fail
  go_ret
  exact ⟨rfl, hb⟩

set_option maxRecDepth 100000 in
set_option maxHeartbeats 400000 in
theorem trimByte_same (s : ByteArray) (hs : 0 < s.size) (hs2 : s.size ≤ 1000) (c : Int) (hc : ((s[0]'hs).toNat : Int) ≠ c) (w : World) :
    Calls Tryd.prog 27 #[.string s, .int .u8 c] w fun e w' => e = .returned (.string s) ∧ w = w' := by
  have hl : ((0 : Int) < s.size) := by omega
  have hcb : (((s[0]'hs).toNat : Int) == c) = false := beq_f hc
  clear hc
  go_enter Tryd.func27, Tryd.ntmps27
  go_wp2_with fail
  refine wp_loop_rounds 1 ?_
  rw [rounds_succ]
  go_wp2_with fail
  go_ret
  exact ⟨rfl, rfl⟩
set_option maxHeartbeats 800000 in
set_option maxRecDepth 100000 in
theorem trimLeft_same (s : ByteArray) (hs : s.size ≤ 1000) (hh : ∀ h : 0 < s.size, ((s[0]'h).toNat : Int) ≠ 48) (w : World) :
    Calls Tryd.prog 10 #[.string s, .string ⟨#[48]⟩] w fun e w' => e = .returned (.string s) ∧ w = w' := by
  by_cases h0 : s.size = 0
  · have hnil : s.toList = [] := by rw [ByteArray.toList_eq]; exact List.eq_nil_of_length_eq_zero (by simpa using h0)
    clear hh
    go_enter Tryd.func10, Tryd.ntmps10
    go_wp2_with fail
    go_ret
    exact ⟨rfl, rfl⟩
  · have hpos : 0 < s.size := by omega
    have B := Lib.hid (trimByte_same s hpos hs 48 (hh hpos))
    have hne : s.toList ≠ [] := by
      rw [ByteArray.toList_eq]
      intro h
      have e : s.data.toList.length = s.size := by simp
      rw [h] at e
      rw [← e] at hpos
      exact absurd hpos (by decide)
    have hne2 : s.toList.isEmpty = false := by cases h : s.toList with
      | nil => exact absurd h hne
      | cons => rfl
    have hk : ({ data := #[48] } : ByteArray).toList = [48] := by rw [ByteArray.toList_eq]
    have hk3 : ∀ h, ({ data := #[48] } : ByteArray)[0]'h = (48 : UInt8) := fun _ => rfl
    have hk4 : ((48 : UInt8).toNat : Int) = 48 := rfl
    have hk2 : ({ data := #[48] } : ByteArray).size = 1 := rfl
    clear hh hne hpos h0 hs
    go_enter Tryd.func10, Tryd.ntmps10
    go_wp2_with fail
    with_reducible refine (B.out _).mono ?_
    rintro e w' ⟨rfl, rfl⟩
    go_wp2_with fail
    go_ret
    exact ⟨rfl, rfl⟩
end Go.Proofs.YtiagngnpbpblaaaDoor
