/- strings.IndexAny of any text, looking for two ASCII letters: the short text of any bytes. -/
import Derived.Test.YtiagngnpbpblaaaDoorQ12
namespace Go.Proofs.YtiagngnpbpblaaaDoor
open Go.Shelf Go.RowKit Go.Lib
variable {P : Program} {ρ : Ren}
set_option linter.unusedSimpArgs false
set_option linter.unusedVariables false

set_option maxHeartbeats 8000000 in
set_option maxRecDepth 1000000 in
theorem idxAny_short (L : Lays.n153 P ρ) (s : ByteArray) (w : World) (h8 : s.size ≤ 8) :
    Calls P (ρ.f 153) #[.string s, .string { data := #[101, 69] }] w fun e w' => e = .returned (.int .i64 (Lib.indexAny s.data.toList [101, 69])) ∧ Below w.heap.size w w' := by
  obtain ⟨chars, hch⟩ : ∃ c : ByteArray, ({ data := #[101, 69] } : ByteArray) = c := ⟨_, rfl⟩
  have HCL : Aside (chars.data.toList = [101, 69]) := by rw [← hch]; exact rfl
  have HCS : Aside (chars.size = 2) := by rw [← hch]; exact rfl
  have HCA : Aside (∀ i (h : i < chars.size), (chars[i]'h).toNat < 128) := by
    subst hch
    intro i h
    have : i < 2 := h
    rcases (show i = 0 ∨ i = 1 by omega) with rfl | rfl
    · show (101 : UInt8).toNat < 128; decide
    · show (69 : UInt8).toNat < 128; decide
  rw [hch]
  clear hch
  have h2 : 2 ≤ chars.size := by rw [HCS.out]; exact Nat.le_refl _
  have hemp : chars.toList.isEmpty = false := by
    rw [Lib.toList_data, HCL.out]; rfl
  have hn1 : ((chars.size : Int) == 1) = false := beq_eq_false_iff_ne.2 (by omega)
  have h8z : decide ((8 : Int) < (s.size : Int)) = false := decide_eq_false (by omega)
  have t3 := L.t3; have a3 := L.a3; have z3 := L.z3; have v3 := L.v3
  have t4 := L.t4; have a4 := L.a4; have z4 := L.z4; have v4 := L.v4
  have t5 := L.t5; have a5 := L.a5; have z5 := L.z5; have v5 := L.v5
  have t9 := L.t9; have a9 := L.a9; have z9 := L.z9; have v9 := L.v9
  have t21 := L.t21; have a21 := L.a21; have z21 := L.z21; have v21 := L.v21
  have e152 : ∀ args w, (callFunc (ρ.f 152) args).run P w = .ok (.enter (ρ.f 152) args) w := enters_of L.f152 (by kernel_rfl) rfl
  have e226 : ∀ args w, (callFunc (ρ.f 226) args).run P w = .ok (.enter (ρ.f 226) args) w := enters_of L.f226 (by kernel_rfl) rfl
  go_enter L.f153, Body.n153_ntmps ρ
  go_wp2_with (go_at_fn (ρ.f 226); refine (Any.strings_shouldUseASCIISet { L with } _ _).mono ?_; rintro e w' ⟨rfl, hw⟩; rw [hw, h8z])
  go_loopg [9, 10] s.size (fun g _ _ wx => ∃ i : Nat, i + g = s.size ∧ wx.heap[w.heap.size]? = some (.stringIter s i) ∧ Below w.heap.size w wx ∧ Lib.NoAny s.data.toList [101, 69] i)
  case atStart => exact ⟨0, by omega, by simp [World.iter_heap], (Below.refl _ _).alloc (Nat.le_refl _) _, Lib.NoAny.zero _ _⟩
  case round =>
    obtain ⟨i, hig, hit, hbw, hno⟩ := hrel
    have HN : Aside (Lib.NoAny s.data.toList [101, 69] i) := hno
    have hz := hbw.size
    clear hno
    cases gk with
    | zero =>
      obtain rfl : i = s.size := by omega
      have hnx := fun ty => run_next_end_at (P := P) wr w.heap.size s s.size ty hit (Nat.lt_irrefl _)
      go_wp2
      go_ret
      exact ⟨by rw [Lib.indexAny_none (by rw [← Lib.size_eq]; exact HN.out)]; rfl, hbw⟩
    | succ g =>
      have hi : i < s.size := by omega
      obtain ⟨x, hx⟩ : ∃ x : UInt8, s[i]'hi = x := ⟨_, rfl⟩
      have hxl : s.data.toList[i]? = some x := by rw [← hx]; exact Lib.data_getElem? s i hi
      have Hx : Aside (s.data.toList[i]? = some x) := hxl
      by_cases hx128 : x.toNat < 128
      · have hnx := fun ty => run_next_ascii_at (P := P) wr w.heap.size s i ty hit hi (by rw [hx]; exact hx128)
        rw [hx] at hnx
        have hit2 := iterAt_heap wr w.heap.size s i (i + 1) hit
        have hbw2 := below_iterAt hbw (Nat.le_refl w.heap.size) s (i + 1)
        clear hxl hx
        have hcon := Lib.contains_iff_indexByte [101, 69] x
        rw [← HCL.out] at hcon
        have hback : ((x.toNat : Int)).toNat.toUInt8 = x := by simp
        cases hin : chars.data.toList.contains x
        · rw [hin] at hcon
          have hlt : ¬ ((0 : Int) ≤ Lib.indexByte chars.data.toList x) := of_decide_eq_false hcon.symm
          clear hcon
          rw [HCL.out] at hin
          go_wp2_with (go_at_fn (ρ.f 152); refine (Any.strings_IndexRune_ascii { L with } _ _ _ (by omega) (by omega)).mono ?_; rintro e w' ⟨rfl, hw⟩; rw [hw, hback])
          go_roundg g
          case measure => omega
          case rel => exact ⟨i + 1, by omega, hit2, hbw2, HN.out.succ Hx.out hin⟩
        · rw [hin] at hcon
          have hge : (0 : Int) ≤ Lib.indexByte chars.data.toList x := of_decide_eq_true hcon.symm
          clear hcon
          rw [HCL.out] at hin
          go_wp2_with (go_at_fn (ρ.f 152); refine (Any.strings_IndexRune_ascii { L with } _ _ _ (by omega) (by omega)).mono ?_; rintro e w' ⟨rfl, hw⟩; rw [hw, hback])
          go_ret
          exact ⟨by rw [Lib.indexAny_hit HN.out Hx.out hin]; rfl, hbw2⟩
      · have hsp := span_of s i hi (by rw [get_list s (i + 0) x (by rw [Nat.add_zero]; exact hxl)]; omega)
        have hle := decode_le s i
        have hnx := fun ty => run_next_any_at (P := P) wr w.heap.size s i ty hit hi
        obtain ⟨r, hr⟩ : ∃ r, (Utf8.decode s i).1 = r := ⟨_, rfl⟩
        obtain ⟨k, hk⟩ : ∃ k, (Utf8.decode s i).2 = k := ⟨_, rfl⟩
        have hnext := noAny_span hsp HN.out
        obtain ⟨⟨k1, k4, kS⟩, _, hr128⟩ := hsp
        rw [hr] at hle hr128
        rw [hk] at k1 k4 kS hnext
        simp only [hr, hk] at hnx
        have hit2 := iterAt_heap wr w.heap.size s i (i + k) hit
        have hbw2 := below_iterAt hbw (Nat.le_refl w.heap.size) s (i + k)
        have HNX := Lib.hid hnext
        clear hnext hxl hx hr hk Hx
        have hCR := fun w => idxRune_hi { L with } chars HCS.out HCA.out (r : Int) w (by omega) (by omega)
        have hm1 : ¬ ((0 : Int) ≤ -1) := by decide
        go_wp2_with (go_at_fn (ρ.f 152); refine (hCR _).mono ?_; rintro e w' ⟨rfl, hw⟩)
        have hsz2 := iterAt_size wr w.heap.size s (i + k)
        have hlt : w.heap.size < wr.heap.size := (Array.getElem?_eq_some_iff.1 hit).1
        go_roundg (s.size - (i + k))
        case measure => omega
        case rel => exact ⟨i + k, by omega, by rw [hw.block _ (by rw [hsz2]; exact hlt)]; exact hit2, hbw2.trans (hw.mono (by rw [hsz2]; omega)), HNX.out⟩
end Go.Proofs.YtiagngnpbpblaaaDoor
