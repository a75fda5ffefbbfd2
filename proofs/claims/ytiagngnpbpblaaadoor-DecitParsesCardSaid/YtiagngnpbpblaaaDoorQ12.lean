/- strings.IndexAny of a short text (8 bytes or less) of any bytes, looking for the letters e and E: a contract over any program. -/
import Derived.Shelf.Strings.IndexAnyAll
import Derived.Lib.OthersKept
import Derived.Lib.Hide
import Derived.Deep.Cut
import Derived.BigQuiet
import Derived.Shelf.RegionOpenPlain
import Derived.WalkKit
import Derived.BigCall
import Derived.BigGuard
import Derived.Deep.Draws
import Derived.WalkMore
import Derived.Laws.Runes
import Derived.Shelf.Small.Utf8
namespace Go.Proofs.YtiagngnpbpblaaaDoor
open Go.Shelf Go.RowKit Go.Lib
variable {P : Program} {ρ : Ren}
set_option linter.unusedSimpArgs false
set_option linter.unusedVariables false

theorem belowN (w : World) (n : Nat) : Below w.heap.size w (w.drewN n) := ⟨rfl, rfl, rfl, Nat.le_refl _, fun _ _ => rfl⟩
theorem get_list (s : ByteArray) (k : Nat) (b : UInt8) (h : s.data.toList[k]? = some b) : s.get! k = b := by
  have hk : k < s.size := by
    have := (List.getElem?_eq_some_iff.1 h).1
    rw [← Lib.size_eq] at this
    exact this
  have e := Lib.data_getElem? s k hk
  rw [h] at e
  have g := get_at s k hk
  rw [Nat.add_zero] at g
  rw [g]
  exact (Option.some.inj e).symm
/-- What one step of a text's reading covers, at a byte of 128 or more. -/
def Span (s : ByteArray) (pos : Nat) (d : Nat × Nat) : Prop := (1 ≤ d.2 ∧ d.2 ≤ 4 ∧ pos + d.2 ≤ s.size) ∧ (∀ k, k < d.2 → 128 ≤ (s.get! (pos + k)).toNat) ∧ 128 ≤ d.1
theorem span_of (s : ByteArray) (pos : Nat) (h : pos < s.size) (ha : 128 ≤ (s.get! (pos + 0)).toNat) : Span s pos (Utf8.decode s pos) := by
  have hn : ¬ (s.get! (pos + 0)).toNat < 128 := by omega
  have one : Span s pos (Utf8.runeError, 1) := ⟨⟨by decide, by decide, by show pos + 1 ≤ s.size; omega⟩, fun k hk => by
    obtain rfl : k = 0 := by have : k < 1 := hk; omega
    exact ha, by decide⟩
  simp only [Utf8.decode, hn, if_false]
  split
  · rename_i h1
    simp only [Bool.and_eq_true, decide_eq_true_eq, beq_iff_eq] at h1
    split
    · rename_i h2
      refine ⟨⟨by show 1 ≤ 2; decide, by show 2 ≤ 4; decide, by show pos + 2 ≤ s.size; omega⟩, fun k hk => ?_, by show 128 ≤ _; omega⟩
      have : k < 2 := hk
      rcases (show k = 0 ∨ k = 1 by omega) with rfl | rfl
      · exact ha
      · omega
    · exact one
  · split
    · rename_i h1
      simp only [Bool.and_eq_true, decide_eq_true_eq, beq_iff_eq] at h1
      split
      · rename_i h2
        simp only [Bool.and_eq_true, decide_eq_true_eq] at h2
        refine ⟨⟨by show 1 ≤ 3; decide, by show 3 ≤ 4; decide, by show pos + 3 ≤ s.size; omega⟩, fun k hk => ?_, by show 128 ≤ _; omega⟩
        have : k < 3 := hk
        rcases (show k = 0 ∨ k = 1 ∨ k = 2 by omega) with rfl | rfl | rfl
        · exact ha
        · omega
        · omega
      · exact one
    · split
      · rename_i h1
        simp only [Bool.and_eq_true, decide_eq_true_eq, beq_iff_eq] at h1
        split
        · rename_i h2
          simp only [Bool.and_eq_true, decide_eq_true_eq] at h2
          refine ⟨⟨by show 1 ≤ 4; decide, by show 4 ≤ 4; decide, by show pos + 4 ≤ s.size; omega⟩, fun k hk => ?_, by show 128 ≤ _; omega⟩
          have : k < 4 := hk
          rcases (show k = 0 ∨ k = 1 ∨ k = 2 ∨ k = 3 by omega) with rfl | rfl | rfl | rfl
          · exact ha
          · omega
          · omega
          · omega
        · exact one
      · exact one
theorem noAny_span {s : ByteArray} {pos : Nat} {d : Nat × Nat} (hs : Span s pos d) (hno : Lib.NoAny s.data.toList [101, 69] pos) : Lib.NoAny s.data.toList [101, 69] (pos + d.2) := fun j b hj hb => by
  by_cases h : j < pos
  · exact hno j b h hb
  · have e := hs.2.1 (j - pos) (by omega)
    have g := get_list s j b hb
    rw [show pos + (j - pos) = j by omega, g] at e
    cases hc : ([101, 69] : List UInt8).contains b
    · rfl
    · have : b = 101 ∨ b = 69 := by simpa using hc
      rcases this with rfl | rfl <;> exact absurd e (by decide)
theorem enc_two (r : Int) (h0 : 128 ≤ r) (hv : Utf8.valid r = true) : ∃ E : ByteArray, Utf8.encode r = E ∧ (2048 ≤ r → 3 ≤ E.size ∧ E.size ≤ 4) ∧ (r < 2048 → E.size = 2 ∧ ∀ h : 1 < E.size, 128 ≤ (E[1]'h).toNat) := by
  refine ⟨_, rfl, fun h => ?_, fun h => ?_⟩
  · simp only [Utf8.encode, hv, if_true]
    rw [if_neg (by omega), if_neg (by omega)]
    split
    · exact ⟨by show 3 ≤ 3; decide, by show 3 ≤ 4; decide⟩
    · exact ⟨by show 3 ≤ 4; decide, by show 4 ≤ 4; decide⟩
  · have e : Utf8.encode r = ⟨#[UInt8.ofNat (0xC0 + r.toNat / 64), UInt8.ofNat (0x80 + r.toNat % 64)]⟩ := by
      simp only [Utf8.encode, hv, if_true]
      rw [if_neg (by omega), if_pos (by omega)]
    rw [e]
    refine ⟨rfl, fun _ => ?_⟩
    show 128 ≤ (UInt8.ofNat (0x80 + r.toNat % 64)).toNat
    rw [UInt8.toNat_ofNat']
    have := Nat.mod_lt r.toNat (show 64 > 0 by decide)
    omega

set_option maxHeartbeats 4000000 in
set_option maxRecDepth 1000000 in
/-- strings.IndexRune in a text of two ASCII letters, at a rune that is none. -/
theorem idxRune_hi (L : Lays.n152 P ρ) (s : ByteArray) (hs2 : s.size = 2) (hsa : ∀ i (h : i < s.size), (s[i]'h).toNat < 128) (r : Int) (w : World) (h0 : 128 ≤ r) (h1 : r ≤ 2147483647) :
    Calls P (ρ.f 152) #[.string s, .int .i32 r] w fun e w' => e = .returned (.int .i64 (-1)) ∧ Below w.heap.size w w' := by
  have mixed := L.mixed
  have t3 := L.t3; have a3 := L.a3; have z3 := L.z3; have v3 := L.v3
  have t4 := L.t4; have a4 := L.a4; have z4 := L.z4; have v4 := L.v4
  have t5 := L.t5; have a5 := L.a5; have z5 := L.z5; have v5 := L.v5
  have t9 := L.t9; have a9 := L.a9; have z9 := L.z9; have v9 := L.v9
  have t21 := L.t21; have a21 := L.a21; have z21 := L.z21; have v21 := L.v21
  have e137 : ∀ args w, (callFunc (ρ.f 137) args).run P w = .ok (.enter (ρ.f 137) args) w := enters_of L.f137 (by kernel_rfl) rfl
  have e119 : ∀ args w, (callFunc (ρ.f 119) args).run P w = .ok (.enter (ρ.f 119) args) w := enters_of L.f119 (by kernel_rfl) rfl
  have HSA := Lib.hid hsa
  have hsl : s.size ≤ 2 := by omega
  have hsg : 2 ≤ s.size := by omega
  clear hsa hs2
  have hlo : ¬ (r < 128) := by omega
  have hnn : (0 : Int) ≤ r := by omega
  by_cases he : r = 65533
  · have heb : (r == 65533) = true := beq_iff_eq.2 he
    go_enter L.f152, Body.n152_ntmps ρ
    go_wp2
    go_loopg [5, 6] 2 (fun g _ _ wx => ∃ i : Nat, i + g = 2 ∧ wx = w.iter s i)
    case atStart => exact ⟨0, rfl, rfl⟩
    case round =>
      obtain ⟨i, hig, rfl⟩ := hrel
      cases gk with
      | zero =>
        obtain rfl : i = s.size := by omega
        have hnx := run_next_end (P := P) w s s.size
        go_wp2
        go_ret
        exact ⟨rfl, (Below.refl _ _).alloc (Nat.le_refl _) _⟩
      | succ g =>
        have hi : i < s.size := by omega
        have hx := HSA.out i hi
        have hnx := fun ty => run_next_ascii (P := P) w s i ty hi hx
        have hne : (((s[i]'hi).toNat : Int) == 65533) = false := beq_eq_false_iff_ne.2 (by omega)
        go_wp2
        go_roundg g
        case measure => omega
        case rel => exact ⟨i + 1, by omega, rfl⟩
  · have heb : (r == 65533) = false := beq_eq_false_iff_ne.2 he
    cases hv : Lib.validRune r
    · go_enter L.f152, Body.n152_ntmps ρ
      go_wp2_with (go_at_fn (ρ.f 119); refine (Any.utf8_ValidRune { L with } _ _).mono ?_; rintro e w' ⟨rfl, hw⟩; rw [hw, hv])
      go_ret
      exact ⟨rfl, Below.refl _ _⟩
    · obtain ⟨E, hE, hbig, hsml⟩ := enc_two r h0 (by rw [validRune_eq]; exact hv)
      have hEs : 2 ≤ E.size ∧ E.size ≤ 4 := by
        by_cases h : r < 2048
        · have := (hsml h).1; omega
        · have := hbig (by omega); omega
      obtain ⟨hE1, hE2⟩ := hEs
      have hcv : ∀ w, (convert (ρ.t 21) (ρ.t 9) (.int .i32 r)).run P w = .ok (.string E) w := fun w => by rw [run_convert_int_string w _ _ _ _ (by rw [t21]; rfl) t9, hE]
      clear hE
      go_enter L.f152, Body.n152_ntmps ρ
      go_wp2_with (go_at_fn (ρ.f 119); refine (Any.utf8_ValidRune { L with } _ _).mono ?_; rintro e w' ⟨rfl, hw⟩; rw [hw, hv])
      go_step3
      go_wp2
      go_loopg [9, 10] 0 (fun _ i _ wx => i = .int .i64 ((E.size : Int) - 1) ∧ wx = w)
      case atStart => exact ⟨by first | rfl | (simp; done) | go_num, rfl⟩
      case round =>
        obtain ⟨rfl, rfl⟩ := hrel
        by_cases hr : r < 2048
        · obtain ⟨q1, q2⟩ := hsml hr
          obtain ⟨c, hc⟩ : ∃ c : UInt8, E[1]'hE1 = c := ⟨_, rfl⟩
          obtain ⟨x, hx⟩ : ∃ x : UInt8, s[1]'hsg = x := ⟨_, rfl⟩
          have hc128 : 128 ≤ c.toNat := by rw [← hc]; exact q2 _
          have hx128 : x.toNat < 128 := by rw [← hx]; exact HSA.out 1 _
          have hne : ((x.toNat : Int) == (c.toNat : Int)) = false := beq_eq_false_iff_ne.2 (by omega)
          have hl1 : ((E.size : Int) - 1) = 1 := by omega
          have hlt : (1 : Int) < (s.size : Int) := by omega
          have hltE : (1 : Int) < (E.size : Int) := by omega
          have hback : ((c.toNat : Int)).toNat.toUInt8 = c := by simp
          have hext : (s.extract 2 s.size).data.toList = [] := by
            apply List.eq_nil_of_length_eq_zero
            have : (s.extract 2 s.size).data.toList.length = (s.extract 2 s.size).size := by simp
            rw [this, ByteArray.size_extract]; omega
          have hsi : (2 : Int) ≤ (s.size : Int) := by omega
          clear q1 q2 hbig hsml
          simp only [hl1]
          have hw2 : IntKind.i64.wrap 2 = 2 := by decide
          have hixn : Lib.indexByte (s.extract 2 s.size).data.toList c = -1 := by rw [hext]; rfl
          clear hext
          go_wp2
          go_step3
          go_wp2
          go_quiet_o (fail)
          go_wp2
          go_region_with_o (first | (go_at_fn (ρ.f 137); refine (Any.strings_IndexByte { L with } _ _ _).mono ?_; rintro e w' ⟨rfl, hw⟩; rw [hw, hback, hixn]))
          all_goals go_wp2
          rw [Exit.noGoto_ret]
          try go_wp2
          try rw [Exit.noGoto_ret]
          try go_wp2
          go_ret
          exact ⟨rfl, belowN _ _⟩
        · have q3 := (hbig (by omega)).1
          go_wp2
          go_ret
          exact ⟨rfl, Below.refl _ _⟩
end Go.Proofs.YtiagngnpbpblaaaDoor
