/- strings.IndexAny of a short text (8 bytes or less) of any bytes, looking for the letters e and E: a contract over any program. strings.IndexAny of any text, looking for two ASCII letters: the short text of any bytes. strings.IndexAny(t, "eE") of any text t. The plain law of DecitSigns: a sign or noughts ahead of a text that begins with a digit. The walk of DecitSigns. Condition: the table of powers of 10 is laid; some integer stands at the library's MaxLen. -/
import Derived.Shelf.Strings.IndexAnyAll
import Derived.Lib.OthersKept
import Derived.Lib.Hide
import Derived.Deep.Cut
import Derived.BigQuiet
import Derived.Shelf.RegionOpenPlain
import Derived.WalkKit
import Derived.BigCall
import Derived.BigGuard
import Derived.Deep.Draws
import Derived.WalkMore
import Derived.Laws.Runes
import Derived.Shelf.Small.Utf8
import Derived.Test.YtpgooajifehbbaaDoorQ4
import Derived.Test.YtpgooajifehbbaaDoorQ10
namespace Go.Proofs.YtpgooajifehbbaaDoor
section
open Go.Shelf Go.RowKit Go.Lib
variable {P : Program} {ρ : Ren}
set_option linter.unusedSimpArgs false
set_option linter.unusedVariables false

theorem belowN (w : World) (n : Nat) : Below w.heap.size w (w.drewN n) := ⟨rfl, rfl, rfl, Nat.le_refl _, fun _ _ => rfl⟩
theorem get_list (s : ByteArray) (k : Nat) (b : UInt8) (h : s.data.toList[k]? = some b) : s.get! k = b := by
  have hk : k < s.size := by
    have := (List.getElem?_eq_some_iff.1 h).1
    rw [← Lib.size_eq] at this
    exact this
  have e := Lib.data_getElem? s k hk
  rw [h] at e
  have g := get_at s k hk
  rw [Nat.add_zero] at g
  rw [g]
  exact (Option.some.inj e).symm
/-- What one step of a text's reading covers, at a byte of 128 or more. -/
def Span (s : ByteArray) (pos : Nat) (d : Nat × Nat) : Prop := (1 ≤ d.2 ∧ d.2 ≤ 4 ∧ pos + d.2 ≤ s.size) ∧ (∀ k, k < d.2 → 128 ≤ (s.get! (pos + k)).toNat) ∧ 128 ≤ d.1
theorem span_of (s : ByteArray) (pos : Nat) (h : pos < s.size) (ha : 128 ≤ (s.get! (pos + 0)).toNat) : Span s pos (Utf8.decode s pos) := by
  have hn : ¬ (s.get! (pos + 0)).toNat < 128 := by omega
  have one : Span s pos (Utf8.runeError, 1) := ⟨⟨by decide, by decide, by show pos + 1 ≤ s.size; omega⟩, fun k hk => by
    obtain rfl : k = 0 := by have : k < 1 := hk; omega
    exact ha, by decide⟩
  simp only [Utf8.decode, hn, if_false]
  split
  · rename_i h1
    simp only [Bool.and_eq_true, decide_eq_true_eq, beq_iff_eq] at h1
    split
    · rename_i h2
      refine ⟨⟨by show 1 ≤ 2; decide, by show 2 ≤ 4; decide, by show pos + 2 ≤ s.size; omega⟩, fun k hk => ?_, by show 128 ≤ _; omega⟩
      have : k < 2 := hk
      rcases (show k = 0 ∨ k = 1 by omega) with rfl | rfl
      · exact ha
      · omega
    · exact one
  · split
    · rename_i h1
      simp only [Bool.and_eq_true, decide_eq_true_eq, beq_iff_eq] at h1
      split
      · rename_i h2
        simp only [Bool.and_eq_true, decide_eq_true_eq] at h2
        refine ⟨⟨by show 1 ≤ 3; decide, by show 3 ≤ 4; decide, by show pos + 3 ≤ s.size; omega⟩, fun k hk => ?_, by show 128 ≤ _; omega⟩
        have : k < 3 := hk
        rcases (show k = 0 ∨ k = 1 ∨ k = 2 by omega) with rfl | rfl | rfl
        · exact ha
        · omega
        · omega
      · exact one
    · split
      · rename_i h1
        simp only [Bool.and_eq_true, decide_eq_true_eq, beq_iff_eq] at h1
        split
        · rename_i h2
          simp only [Bool.and_eq_true, decide_eq_true_eq] at h2
          refine ⟨⟨by show 1 ≤ 4; decide, by show 4 ≤ 4; decide, by show pos + 4 ≤ s.size; omega⟩, fun k hk => ?_, by show 128 ≤ _; omega⟩
          have : k < 4 := hk
          rcases (show k = 0 ∨ k = 1 ∨ k = 2 ∨ k = 3 by omega) with rfl | rfl | rfl | rfl
          · exact ha
          · omega
          · omega
          · omega
        · exact one
      · exact one
theorem noAny_span {s : ByteArray} {pos : Nat} {d : Nat × Nat} (hs : Span s pos d) (hno : Lib.NoAny s.data.toList [101, 69] pos) : Lib.NoAny s.data.toList [101, 69] (pos + d.2) := fun j b hj hb => by
  by_cases h : j < pos
  · exact hno j b h hb
  · have e := hs.2.1 (j - pos) (by omega)
    have g := get_list s j b hb
    rw [show pos + (j - pos) = j by omega, g] at e
    cases hc : ([101, 69] : List UInt8).contains b
    · rfl
    · have : b = 101 ∨ b = 69 := by simpa using hc
      rcases this with rfl | rfl <;> exact absurd e (by decide)
theorem enc_two (r : Int) (h0 : 128 ≤ r) (hv : Utf8.valid r = true) : ∃ E : ByteArray, Utf8.encode r = E ∧ (2048 ≤ r → 3 ≤ E.size ∧ E.size ≤ 4) ∧ (r < 2048 → E.size = 2 ∧ ∀ h : 1 < E.size, 128 ≤ (E[1]'h).toNat) := by
  refine ⟨_, rfl, fun h => ?_, fun h => ?_⟩
  · simp only [Utf8.encode, hv, if_true]
    rw [if_neg (by omega), if_neg (by omega)]
    split
    · exact ⟨by show 3 ≤ 3; decide, by show 3 ≤ 4; decide⟩
    · exact ⟨by show 3 ≤ 4; decide, by show 4 ≤ 4; decide⟩
  · have e : Utf8.encode r = ⟨#[UInt8.ofNat (0xC0 + r.toNat / 64), UInt8.ofNat (0x80 + r.toNat % 64)]⟩ := by
      simp only [Utf8.encode, hv, if_true]
      rw [if_neg (by omega), if_pos (by omega)]
    rw [e]
    refine ⟨rfl, fun _ => ?_⟩
    show 128 ≤ (UInt8.ofNat (0x80 + r.toNat % 64)).toNat
    rw [UInt8.toNat_ofNat']
    have := Nat.mod_lt r.toNat (show 64 > 0 by decide)
    omega

set_option maxHeartbeats 4000000 in
set_option maxRecDepth 1000000 in
/-- strings.IndexRune in a text of two ASCII letters, at a rune that is none. -/
theorem idxRune_hi (L : Lays.n152 P ρ) (s : ByteArray) (hs2 : s.size = 2) (hsa : ∀ i (h : i < s.size), (s[i]'h).toNat < 128) (r : Int) (w : World) (h0 : 128 ≤ r) (h1 : r ≤ 2147483647) :
    Calls P (ρ.f 152) #[.string s, .int .i32 r] w fun e w' => e = .returned (.int .i64 (-1)) ∧ Below w.heap.size w w' := by
  have mixed := L.mixed
  have t3 := L.t3; have a3 := L.a3; have z3 := L.z3; have v3 := L.v3
  have t4 := L.t4; have a4 := L.a4; have z4 := L.z4; have v4 := L.v4
  have t5 := L.t5; have a5 := L.a5; have z5 := L.z5; have v5 := L.v5
  have t9 := L.t9; have a9 := L.a9; have z9 := L.z9; have v9 := L.v9
  have t21 := L.t21; have a21 := L.a21; have z21 := L.z21; have v21 := L.v21
  have e137 : ∀ args w, (callFunc (ρ.f 137) args).run P w = .ok (.enter (ρ.f 137) args) w := enters_of L.f137 (by kernel_rfl) rfl
  have e119 : ∀ args w, (callFunc (ρ.f 119) args).run P w = .ok (.enter (ρ.f 119) args) w := enters_of L.f119 (by kernel_rfl) rfl
  have HSA := Lib.hid hsa
  have hsl : s.size ≤ 2 := by omega
  have hsg : 2 ≤ s.size := by omega
  clear hsa hs2
  have hlo : ¬ (r < 128) := by omega
  have hnn : (0 : Int) ≤ r := by omega
  by_cases he : r = 65533
  · have heb : (r == 65533) = true := beq_iff_eq.2 he
    go_enter L.f152, Body.n152_ntmps ρ
    go_wp2
    go_loopg [5, 6] 2 (fun g _ _ wx => ∃ i : Nat, i + g = 2 ∧ wx = w.iter s i)
    case atStart => exact ⟨0, rfl, rfl⟩
    case round =>
      obtain ⟨i, hig, rfl⟩ := hrel
      cases gk with
      | zero =>
        obtain rfl : i = s.size := by omega
        have hnx := run_next_end (P := P) w s s.size
        go_wp2
        go_ret
        exact ⟨rfl, (Below.refl _ _).alloc (Nat.le_refl _) _⟩
      | succ g =>
        have hi : i < s.size := by omega
        have hx := HSA.out i hi
        have hnx := fun ty => run_next_ascii (P := P) w s i ty hi hx
        have hne : (((s[i]'hi).toNat : Int) == 65533) = false := beq_eq_false_iff_ne.2 (by omega)
        go_wp2
        go_roundg g
        case measure => omega
        case rel => exact ⟨i + 1, by omega, rfl⟩
  · have heb : (r == 65533) = false := beq_eq_false_iff_ne.2 he
    cases hv : Lib.validRune r
    · go_enter L.f152, Body.n152_ntmps ρ
      go_wp2_with (go_at_fn (ρ.f 119); refine (Any.utf8_ValidRune { L with } _ _).mono ?_; rintro e w' ⟨rfl, hw⟩; rw [hw, hv])
      go_ret
      exact ⟨rfl, Below.refl _ _⟩
    · obtain ⟨E, hE, hbig, hsml⟩ := enc_two r h0 (by rw [validRune_eq]; exact hv)
      have hEs : 2 ≤ E.size ∧ E.size ≤ 4 := by
        by_cases h : r < 2048
        · have := (hsml h).1; omega
        · have := hbig (by omega); omega
      obtain ⟨hE1, hE2⟩ := hEs
      have hcv : ∀ w, (convert (ρ.t 21) (ρ.t 9) (.int .i32 r)).run P w = .ok (.string E) w := fun w => by rw [run_convert_int_string w _ _ _ _ (by rw [t21]; rfl) t9, hE]
      clear hE
      go_enter L.f152, Body.n152_ntmps ρ
      go_wp2_with (go_at_fn (ρ.f 119); refine (Any.utf8_ValidRune { L with } _ _).mono ?_; rintro e w' ⟨rfl, hw⟩; rw [hw, hv])
      go_step3
      go_wp2
      go_loopg [9, 10] 0 (fun _ i _ wx => i = .int .i64 ((E.size : Int) - 1) ∧ wx = w)
      case atStart => exact ⟨by first | rfl | (simp; done) | go_num, rfl⟩
      case round =>
        obtain ⟨rfl, rfl⟩ := hrel
        by_cases hr : r < 2048
        · obtain ⟨q1, q2⟩ := hsml hr
          obtain ⟨c, hc⟩ : ∃ c : UInt8, E[1]'hE1 = c := ⟨_, rfl⟩
          obtain ⟨x, hx⟩ : ∃ x : UInt8, s[1]'hsg = x := ⟨_, rfl⟩
          have hc128 : 128 ≤ c.toNat := by rw [← hc]; exact q2 _
          have hx128 : x.toNat < 128 := by rw [← hx]; exact HSA.out 1 _
          have hne : ((x.toNat : Int) == (c.toNat : Int)) = false := beq_eq_false_iff_ne.2 (by omega)
          have hl1 : ((E.size : Int) - 1) = 1 := by omega
          have hlt : (1 : Int) < (s.size : Int) := by omega
          have hltE : (1 : Int) < (E.size : Int) := by omega
          have hback : ((c.toNat : Int)).toNat.toUInt8 = c := by simp
          have hext : (s.extract 2 s.size).data.toList = [] := by
            apply List.eq_nil_of_length_eq_zero
            have : (s.extract 2 s.size).data.toList.length = (s.extract 2 s.size).size := by simp
            rw [this, ByteArray.size_extract]; omega
          have hsi : (2 : Int) ≤ (s.size : Int) := by omega
          clear q1 q2 hbig hsml
          simp only [hl1]
          have hw2 : IntKind.i64.wrap 2 = 2 := by decide
          have hixn : Lib.indexByte (s.extract 2 s.size).data.toList c = -1 := by rw [hext]; rfl
          clear hext
          go_wp2
          go_step3
          go_wp2
          go_quiet_o (fail)
          go_wp2
          go_region_with_o (first | (go_at_fn (ρ.f 137); refine (Any.strings_IndexByte { L with } _ _ _).mono ?_; rintro e w' ⟨rfl, hw⟩; rw [hw, hback, hixn]))
          all_goals go_wp2
          rw [Exit.noGoto_ret]
          try go_wp2
          try rw [Exit.noGoto_ret]
          try go_wp2
          go_ret
          exact ⟨rfl, belowN _ _⟩
        · have q3 := (hbig (by omega)).1
          go_wp2
          go_ret
          exact ⟨rfl, Below.refl _ _⟩
end
section
open Go.Shelf Go.RowKit Go.Lib
variable {P : Program} {ρ : Ren}
set_option linter.unusedSimpArgs false
set_option linter.unusedVariables false

set_option maxHeartbeats 8000000 in
set_option maxRecDepth 1000000 in
theorem idxAny_short (L : Lays.n153 P ρ) (s : ByteArray) (w : World) (h8 : s.size ≤ 8) :
    Calls P (ρ.f 153) #[.string s, .string { data := #[101, 69] }] w fun e w' => e = .returned (.int .i64 (Lib.indexAny s.data.toList [101, 69])) ∧ Below w.heap.size w w' := by
  obtain ⟨chars, hch⟩ : ∃ c : ByteArray, ({ data := #[101, 69] } : ByteArray) = c := ⟨_, rfl⟩
  have HCL : Aside (chars.data.toList = [101, 69]) := by rw [← hch]; exact rfl
  have HCS : Aside (chars.size = 2) := by rw [← hch]; exact rfl
  have HCA : Aside (∀ i (h : i < chars.size), (chars[i]'h).toNat < 128) := by
    subst hch
    intro i h
    have : i < 2 := h
    rcases (show i = 0 ∨ i = 1 by omega) with rfl | rfl
    · show (101 : UInt8).toNat < 128; decide
    · show (69 : UInt8).toNat < 128; decide
  rw [hch]
  clear hch
  have h2 : 2 ≤ chars.size := by rw [HCS.out]; exact Nat.le_refl _
  have hemp : chars.toList.isEmpty = false := by
    rw [Lib.toList_data, HCL.out]; rfl
  have hn1 : ((chars.size : Int) == 1) = false := beq_eq_false_iff_ne.2 (by omega)
  have h8z : decide ((8 : Int) < (s.size : Int)) = false := decide_eq_false (by omega)
  have t3 := L.t3; have a3 := L.a3; have z3 := L.z3; have v3 := L.v3
  have t4 := L.t4; have a4 := L.a4; have z4 := L.z4; have v4 := L.v4
  have t5 := L.t5; have a5 := L.a5; have z5 := L.z5; have v5 := L.v5
  have t9 := L.t9; have a9 := L.a9; have z9 := L.z9; have v9 := L.v9
  have t21 := L.t21; have a21 := L.a21; have z21 := L.z21; have v21 := L.v21
  have e152 : ∀ args w, (callFunc (ρ.f 152) args).run P w = .ok (.enter (ρ.f 152) args) w := enters_of L.f152 (by kernel_rfl) rfl
  have e226 : ∀ args w, (callFunc (ρ.f 226) args).run P w = .ok (.enter (ρ.f 226) args) w := enters_of L.f226 (by kernel_rfl) rfl
  go_enter L.f153, Body.n153_ntmps ρ
  go_wp2_with (go_at_fn (ρ.f 226); refine (Any.strings_shouldUseASCIISet { L with } _ _).mono ?_; rintro e w' ⟨rfl, hw⟩; rw [hw, h8z])
  go_loopg [9, 10] s.size (fun g _ _ wx => ∃ i : Nat, i + g = s.size ∧ wx.heap[w.heap.size]? = some (.stringIter s i) ∧ Below w.heap.size w wx ∧ Lib.NoAny s.data.toList [101, 69] i)
  case atStart => exact ⟨0, by omega, by simp [World.iter_heap], (Below.refl _ _).alloc (Nat.le_refl _) _, Lib.NoAny.zero _ _⟩
  case round =>
    obtain ⟨i, hig, hit, hbw, hno⟩ := hrel
    have HN : Aside (Lib.NoAny s.data.toList [101, 69] i) := hno
    have hz := hbw.size
    clear hno
    cases gk with
    | zero =>
      obtain rfl : i = s.size := by omega
      have hnx := fun ty => run_next_end_at (P := P) wr w.heap.size s s.size ty hit (Nat.lt_irrefl _)
      go_wp2
      go_ret
      exact ⟨by rw [Lib.indexAny_none (by rw [← Lib.size_eq]; exact HN.out)]; rfl, hbw⟩
    | succ g =>
      have hi : i < s.size := by omega
      obtain ⟨x, hx⟩ : ∃ x : UInt8, s[i]'hi = x := ⟨_, rfl⟩
      have hxl : s.data.toList[i]? = some x := by rw [← hx]; exact Lib.data_getElem? s i hi
      have Hx : Aside (s.data.toList[i]? = some x) := hxl
      by_cases hx128 : x.toNat < 128
      · have hnx := fun ty => run_next_ascii_at (P := P) wr w.heap.size s i ty hit hi (by rw [hx]; exact hx128)
        rw [hx] at hnx
        have hit2 := iterAt_heap wr w.heap.size s i (i + 1) hit
        have hbw2 := below_iterAt hbw (Nat.le_refl w.heap.size) s (i + 1)
        clear hxl hx
        have hcon := Lib.contains_iff_indexByte [101, 69] x
        rw [← HCL.out] at hcon
        have hback : ((x.toNat : Int)).toNat.toUInt8 = x := by simp
        cases hin : chars.data.toList.contains x
        · rw [hin] at hcon
          have hlt : ¬ ((0 : Int) ≤ Lib.indexByte chars.data.toList x) := of_decide_eq_false hcon.symm
          clear hcon
          rw [HCL.out] at hin
          go_wp2_with (go_at_fn (ρ.f 152); refine (Any.strings_IndexRune_ascii { L with } _ _ _ (by omega) (by omega)).mono ?_; rintro e w' ⟨rfl, hw⟩; rw [hw, hback])
          go_roundg g
          case measure => omega
          case rel => exact ⟨i + 1, by omega, hit2, hbw2, HN.out.succ Hx.out hin⟩
        · rw [hin] at hcon
          have hge : (0 : Int) ≤ Lib.indexByte chars.data.toList x := of_decide_eq_true hcon.symm
          clear hcon
          rw [HCL.out] at hin
          go_wp2_with (go_at_fn (ρ.f 152); refine (Any.strings_IndexRune_ascii { L with } _ _ _ (by omega) (by omega)).mono ?_; rintro e w' ⟨rfl, hw⟩; rw [hw, hback])
          go_ret
          exact ⟨by rw [Lib.indexAny_hit HN.out Hx.out hin]; rfl, hbw2⟩
      · have hsp := span_of s i hi (by rw [get_list s (i + 0) x (by rw [Nat.add_zero]; exact hxl)]; omega)
        have hle := decode_le s i
        have hnx := fun ty => run_next_any_at (P := P) wr w.heap.size s i ty hit hi
        obtain ⟨r, hr⟩ : ∃ r, (Utf8.decode s i).1 = r := ⟨_, rfl⟩
        obtain ⟨k, hk⟩ : ∃ k, (Utf8.decode s i).2 = k := ⟨_, rfl⟩
        have hnext := noAny_span hsp HN.out
        obtain ⟨⟨k1, k4, kS⟩, _, hr128⟩ := hsp
        rw [hr] at hle hr128
        rw [hk] at k1 k4 kS hnext
        simp only [hr, hk] at hnx
        have hit2 := iterAt_heap wr w.heap.size s i (i + k) hit
        have hbw2 := below_iterAt hbw (Nat.le_refl w.heap.size) s (i + k)
        have HNX := Lib.hid hnext
        clear hnext hxl hx hr hk Hx
        have hCR := fun w => idxRune_hi { L with } chars HCS.out HCA.out (r : Int) w (by omega) (by omega)
        have hm1 : ¬ ((0 : Int) ≤ -1) := by decide
        go_wp2_with (go_at_fn (ρ.f 152); refine (hCR _).mono ?_; rintro e w' ⟨rfl, hw⟩)
        have hsz2 := iterAt_size wr w.heap.size s (i + k)
        have hlt : w.heap.size < wr.heap.size := (Array.getElem?_eq_some_iff.1 hit).1
        go_roundg (s.size - (i + k))
        case measure => omega
        case rel => exact ⟨i + k, by omega, by rw [hw.block _ (by rw [hsz2]; exact hlt)]; exact hit2, hbw2.trans (hw.mono (by rw [hsz2]; omega)), HNX.out⟩
end
section
open Go.RowKit
set_option linter.unusedSimpArgs false
set_option linter.unusedVariables false

theorem idx_any (t : ByteArray) (hs : t.size ≤ 100000) : IdxT t := fun w => by
  have h116 : (Tryd.prog.info? (Tryd.lays153_ren.t 116)).map (fun i => (i.zero, i.size)) = some (some (.agg (Array.replicate 256 (.bool false))), 256) := by kernel_rfl
  by_cases h8 : t.size ≤ 8
  · exact idxAny_short Tryd.lays153 t w h8
  · refine (Any.strings_IndexAny_long Tryd.lays153 (zero_of_info h116).1 (zero_of_info h116).2 t { data := #[101, 69] } w (by decide) (by omega) (by omega) (by decide) ascii_eE).mono fun e w' ⟨h1, h2⟩ => ⟨h1, ?_⟩
    rw [h2]
    exact ((Below.refl _ _).alloc (Nat.le_refl _) _).alloc (by simp) _
end
section
open Go.Lib
set_option linter.unusedSimpArgs false
set_option linter.unusedVariables false

theorem idx_cons {c : UInt8} (h : ([101, 69] : List UInt8).contains c = false) (t : List UInt8) : indexAny (c :: t) [101, 69] = if indexAny t [101, 69] == -1 then -1 else indexAny t [101, 69] + 1 := by
  rw [indexAny, h]; rfl
theorem mant_cons {c : UInt8} (h : ([101, 69] : List UInt8).contains c = false) (t : List UInt8) : mantL (c :: t) = c :: mantL t ∧ expOk (c :: t) = expOk t ∧ expV (c :: t) = expV t := by
  have hg := indexAny_ge [101, 69] t
  have hi := idx_cons h t
  by_cases h1 : indexAny t [101, 69] = -1
  · rw [h1] at hi
    have hi2 : indexAny (c :: t) [101, 69] = -1 := hi
    refine ⟨?_, ?_, ?_⟩
    · unfold mantL; rw [hi2, h1]; rfl
    · unfold expOk; rw [hi2, h1]; rfl
    · unfold expV; rw [hi2, h1]; rfl
  · obtain ⟨i, hk⟩ : ∃ i : Nat, indexAny t [101, 69] = i := ⟨(indexAny t [101, 69]).toNat, by omega⟩
    have hb : ((i : Int) == -1) = false := beq_eq_false_iff_ne.2 (by omega)
    rw [hk, hb] at hi
    have hi2 : indexAny (c :: t) [101, 69] = ((i + 1 : Nat) : Int) := by rw [hi]; rfl
    have hp : powL (c :: t) = powL t := by
      unfold powL; rw [hi2, hk, Int.toNat_natCast, Int.toNat_natCast]; rfl
    refine ⟨?_, ?_, ?_⟩
    · unfold mantL
      rw [hi2, hk, if_pos (by omega), if_pos (by omega), Int.toNat_natCast, Int.toNat_natCast]; rfl
    · unfold expOk; rw [hi2, hk, hp, if_pos (by omega), if_pos (by omega)]
    · have p1 : (0 : Int) ≤ ((i + 1 : Nat) : Int) := by omega
      have p2 : (0 : Int) ≤ (i : Int) := by omega
      unfold expV; rw [hi2, hk, hp, if_pos p1, if_pos p2]
theorem first46 : ∀ m : List UInt8, (46 : UInt8) ∉ m ∨ ∃ a b, m = a ++ 46 :: b ∧ (46 : UInt8) ∉ a
  | [] => Or.inl (by simp)
  | c :: m => by
    by_cases hc : c = 46
    · subst hc; exact Or.inr ⟨[], m, rfl, by simp⟩
    · rcases first46 m with h | ⟨a, b, e, h⟩
      · exact Or.inl (fun hm => by
          rcases List.mem_cons.1 hm with h1 | h1
          · exact hc h1.symm
          · exact h h1)
      · exact Or.inr ⟨c :: a, b, by rw [e]; rfl, fun hm => by
          rcases List.mem_cons.1 hm with h1 | h1
          · exact hc h1.symm
          · exact h h1⟩
theorem cut_miss {m : List UInt8} (h : (46 : UInt8) ∉ m) : digL m = m ∧ behL m = 0 := by
  have e : cut m [46] = (m, [], false) := by unfold cut; rw [idx46_miss m h]; rfl
  unfold digL behL
  rw [e]
  exact ⟨List.append_nil _, rfl⟩
theorem cut_hit {a b : List UInt8} (h : (46 : UInt8) ∉ a) : digL (a ++ 46 :: b) = a ++ b ∧ behL (a ++ 46 :: b) = b.length := by
  have e : cut (a ++ 46 :: b) [46] = (a, b, true) := by
    unfold cut
    rw [idx46_hit b a h, if_pos (by omega)]
    simp
  unfold digL behL
  rw [e]
  exact ⟨rfl, rfl⟩
theorem dig_cons {c : UInt8} (h : c ≠ 46) (m : List UInt8) : digL (c :: m) = c :: digL m ∧ behL (c :: m) = behL m := by
  rcases first46 m with hm | ⟨a, b, rfl, hm⟩
  · have h2 : (46 : UInt8) ∉ c :: m := fun hx => by
      rcases List.mem_cons.1 hx with h1 | h1
      · exact h h1.symm
      · exact hm h1
    obtain ⟨e1, e2⟩ := cut_miss hm
    obtain ⟨e3, e4⟩ := cut_miss h2
    exact ⟨by rw [e3, e1], by rw [e4, e2]⟩
  · have h2 : (46 : UInt8) ∉ c :: a := fun hx => by
      rcases List.mem_cons.1 hx with h1 | h1
      · exact h h1.symm
      · exact hm h1
    obtain ⟨e1, e2⟩ := cut_hit (b := b) hm
    obtain ⟨e3, e4⟩ := cut_hit (b := b) h2
    rw [← List.cons_append]
    exact ⟨by rw [e3, e1]; rfl, by rw [e4, e2]⟩
theorem isD_facts {c : UInt8} (h : isD c = true) : ([101, 69] : List UInt8).contains c = false ∧ c ≠ 46 ∧ c ≠ 43 ∧ c ≠ 45 ∧ c ≠ 78 ∧ c ≠ 73 := by
  obtain ⟨h1, h2⟩ := dig_ne h
  refine ⟨?_, ?_, ?_, ?_, ?_, ?_⟩
  · cases hc : ([101, 69] : List UInt8).contains c
    · rfl
    · have : c = 101 ∨ c = 69 := by simpa using hc
      rcases this with rfl | rfl <;> exact absurd h2 (by decide)
  all_goals (rintro rfl; first | exact absurd h2 (by decide) | exact absurd h1 (by decide))
theorem strip_dig {c : UInt8} {r : List UInt8} (h : isD c = true) : stripS (c :: r) = c :: r ∧ hdIs (c :: r) 45 45 = false ∧ hdIs (c :: r) 43 45 = false := by
  obtain ⟨h1, h2⟩ := dig_ne h
  have e1 : hdIs (c :: r) 43 45 = false := by
    show ((c.toNat : Int) == 43 || (c.toNat : Int) == 45) = false
    rw [beq_eq_false_iff_ne.2 (by omega), beq_eq_false_iff_ne.2 (by omega)]; rfl
  refine ⟨?_, ?_, e1⟩
  · unfold stripS; rw [e1]; rfl
  · show ((c.toNat : Int) == 45 || (c.toNat : Int) == 45) = false
    rw [beq_eq_false_iff_ne.2 (by omega)]; rfl
theorem num_strip {l m : List UInt8} (h : stripS l = stripS m) : numOk l = numOk m ∧ qOf l = qOf m ∧ dOf l = dOf m := by
  refine ⟨?_, ?_, ?_⟩
  · unfold numOk; rw [h]
  · unfold qOf; rw [h]
  · unfold dOf; rw [h]
/-- A nought ahead of a digit. -/
theorem num_nought {c : UInt8} {r : List UInt8} (h : isD c = true) : numOk (48 :: c :: r) = numOk (c :: r) ∧ qOf (48 :: c :: r) = qOf (c :: r) ∧ dOf (48 :: c :: r) = dOf (c :: r) := by
  have h0 : isD 48 = true := by decide
  obtain ⟨i1, i2, _⟩ := isD_facts h
  obtain ⟨k1, k2, _⟩ := isD_facts h0
  obtain ⟨s1, _⟩ := strip_dig (r := r) h
  obtain ⟨s2, _⟩ := strip_dig (r := c :: r) h0
  obtain ⟨m1, m2, m3⟩ := mant_cons i1 r
  obtain ⟨n1, n2, n3⟩ := mant_cons k1 (c :: r)
  rw [m1] at n1
  obtain ⟨d1, d2⟩ := dig_cons i2 (mantL r)
  obtain ⟨e1, e2⟩ := dig_cons k2 (c :: mantL r)
  rw [d1] at e1
  refine ⟨?_, ?_, ?_⟩
  · unfold numOk digOk
    rw [s1, s2, n1, m1, n2, e1, d1]
    rw [List.all_cons, h0, Bool.true_and]; rfl
  · unfold qOf
    rw [s1, s2, n1, m1, n3, e2]
  · unfold dOf
    rw [s1, s2, n1, m1, e1, d1]; rfl
theorem num_noughts {c : UInt8} {r : List UInt8} (h : isD c = true) : ∀ n, ∃ c' r', List.replicate n 48 ++ c :: r = c' :: r' ∧ isD c' = true ∧ numOk (c' :: r') = numOk (c :: r) ∧ qOf (c' :: r') = qOf (c :: r) ∧ dOf (c' :: r') = dOf (c :: r)
  | 0 => ⟨c, r, rfl, h, rfl, rfl, rfl⟩
  | n + 1 => by
    obtain ⟨c', r', e, h1, h2, h3, h4⟩ := num_noughts h n
    obtain ⟨a1, a2, a3⟩ := num_nought (r := r') h1
    exact ⟨48, c' :: r', by rw [List.replicate_succ, List.cons_append, e], by decide, a1.trans h2, a2.trans h3, a3.trans h4⟩
theorem decP_num {l : List UInt8} (h1 : l ≠ [78, 97, 78]) (h2 : l ≠ [73, 110, 102, 105, 110, 105, 116, 121]) (h3 : l ≠ [45, 73, 110, 102, 105, 110, 105, 116, 121]) (hl : l.length ≤ 300) : decP l = if numOk l = false then (0, 0, 3) else finR (hdIs l 45 45) (qOf l) (dOf l) := by
  unfold decP
  rw [if_neg h1, if_neg h2, if_neg h3]
  by_cases hn : numOk l = false
  · rw [if_pos hn, if_pos hn]
  · rw [if_neg hn, if_neg hn, if_neg (by omega)]
theorem decP_dig {c : UInt8} {r : List UInt8} (h : isD c = true) (hl : (c :: r).length ≤ 300) : decP (c :: r) = if numOk (c :: r) = false then (0, 0, 3) else finR false (qOf (c :: r)) (dOf (c :: r)) := by
  obtain ⟨_, _, _, i45, i78, i73⟩ := isD_facts h
  rw [decP_num (fun e => i78 (by injection e)) (fun e => i73 (by injection e)) (fun e => i45 (by injection e)) hl, (strip_dig h).2.1]
theorem decP_noughts {c : UInt8} {r : List UInt8} (h : isD c = true) (n : Nat) (hl : n + (c :: r).length ≤ 300) : decP (List.replicate n 48 ++ c :: r) = decP (c :: r) := by
  obtain ⟨c', r', e, h1, h2, h3, h4⟩ := num_noughts (r := r) h n
  have hl2 : (c' :: r').length ≤ 300 := by rw [← e, List.length_append, List.length_replicate]; exact hl
  rw [e, decP_dig h1 hl2, decP_dig h (by omega), h2, h3, h4]
theorem decP_plus {c : UInt8} {r : List UInt8} (h : isD c = true) (hl : (c :: r).length + 1 ≤ 300) : decP (43 :: c :: r) = decP (c :: r) := by
  have e : stripS (43 :: c :: r) = stripS (c :: r) := by rw [(strip_dig h).1]; rfl
  obtain ⟨e1, e2, e3⟩ := num_strip e
  rw [decP_num (fun e => by injection e with e _; exact absurd e (by decide)) (fun e => by injection e with e _; exact absurd e (by decide)) (fun e => by injection e with e _; exact absurd e (by decide)) (by simpa using hl), decP_dig h (by omega), e1, e2, e3]
  rfl
theorem decP_minus {c : UInt8} {r : List UInt8} (h : isD c = true) (hl : (c :: r).length + 1 ≤ 300) : decP (45 :: c :: r) = if numOk (c :: r) = false then (0, 0, 3) else finR true (qOf (c :: r)) (dOf (c :: r)) := by
  have e : stripS (45 :: c :: r) = stripS (c :: r) := by rw [(strip_dig h).1]; rfl
  obtain ⟨e1, e2, e3⟩ := num_strip e
  obtain ⟨_, _, _, i45, i78, i73⟩ := isD_facts h
  rw [decP_num (fun e => by injection e with e _; exact absurd e (by decide)) (fun e => by injection e with e _; exact absurd e (by decide)) (fun e => by injection e with _ e; injection e with e _; exact i73 e) (by simpa using hl), e1, e2, e3]
  rfl
theorem cof_lt {core : List UInt8} {z : Int} (h : (coefL core z.toNat).length ≤ 34) : cofV core z < 10000000000000000000000000000000000 := by
  unfold cofV pV
  cases hp : parseOf (coefL core z.toNat) with
  | none => exact by show (0 : Int) < _; decide
  | some v =>
    unfold parseOf at hp
    split at hp
    · rename_i hc
      injection hp with hp
      subst hp
      have h1 := decVal_lt _ (coefL core z.toNat) rfl hc.2.1
      have h2 : 10 ^ (coefL core z.toNat).length ≤ 10 ^ 34 := Nat.pow_le_pow_right (by decide) h
      have h3 : (10 : Nat) ^ 34 = 10000000000000000000000000000000000 := by decide
      rw [h3] at h2
      exact Int.ofNat_lt.2 (Nat.lt_of_lt_of_le h1 h2)
    · cases hp
theorem fin_sign (q : Int) (dg : List UInt8) : (finR true q dg).2 = (finR false q dg).2 ∧ ((finR false q dg).2.2 = 0 → (finR true q dg).1 = (finR false q dg).1 + 9223372036854775808) ∧ 0 ≤ (finR false q dg).1 ∧ (finR false q dg).1 < 9223372036854775808 := by
  obtain ⟨core, hc⟩ : ∃ core, trimRightB dg 48 = core := ⟨_, rfl⟩
  cases hf : farOf q dg.length (trimRightB dg 48).length
  · rw [hc] at hf
    obtain ⟨x, hx⟩ : ∃ x, expOf q dg.length core.length = x := ⟨_, rfl⟩
    obtain ⟨V, hV⟩ : ∃ V, cofV core (q + dg.length - core.length - x) = V := ⟨_, rfl⟩
    rw [fin_ok (ng := true) hc hf hx hV, fin_ok (ng := false) hc hf hx hV]
    have hcb := cof_bd core (q + dg.length - core.length - x)
    unfold farOf at hf
    rw [Bool.or_eq_false_iff, decide_eq_false_iff_not, decide_eq_false_iff_not] at hf
    obtain ⟨f1, f2⟩ := hf
    have hV2 : V < 10000000000000000000000000000000000 ∧ -6176 ≤ x ∧ x ≤ 6111 := by
      rw [← hV]
      unfold expOf leastOf mostOf at *
      by_cases h0 : core.length = 0
      · rw [if_pos h0] at *
        refine ⟨cof_lt ?_, by omega, by omega⟩
        have : core = [] := List.eq_nil_of_length_eq_zero h0
        unfold coefL; rw [if_pos this]; decide
      · rw [if_neg h0] at *
        refine ⟨cof_lt ?_, by omega, by omega⟩
        have : core ≠ [] := fun e => h0 (by rw [e]; rfl)
        unfold coefL; rw [if_neg this, List.length_append, List.length_replicate]
        omega
    obtain ⟨v1, x0, x1⟩ := hV2
    rw [hV] at hcb
    have hj : jOk (V / 18446744073709551616) (V % 18446744073709551616) x = true := jOk_true _ _ _ (by rw [wV_div hcb.1]; omega) (by omega) (by omega)
    unfold jHigh
    rw [hj]
    refine ⟨rfl, fun _ => ?_, ?_, ?_⟩
    · show (x + 6176) * 562949953421312 + V / 18446744073709551616 + 9223372036854775808 = (x + 6176) * 562949953421312 + V / 18446744073709551616 + 0 + 9223372036854775808
      omega
    · show 0 ≤ (x + 6176) * 562949953421312 + V / 18446744073709551616 + 0
      omega
    · show (x + 6176) * 562949953421312 + V / 18446744073709551616 + 0 < 9223372036854775808
      omega
  · rw [fin_far (ng := true) hf, fin_far (ng := false) hf]
    exact ⟨rfl, fun h => absurd h (by decide), by decide, by decide⟩
/-- What DecitSigns looks at. -/
theorem decP_signs {c : UInt8} {r : List UInt8} (h : isD c = true) (hl : (c :: r).length + 1 ≤ 300) : (decP (45 :: c :: r)).2 = (decP (c :: r)).2 ∧ ((decP (c :: r)).2.2 = 0 → (decP (45 :: c :: r)).1 = (decP (c :: r)).1 + 9223372036854775808) ∧ 0 ≤ (decP (c :: r)).1 ∧ (decP (c :: r)).1 < 9223372036854775808 := by
  rw [decP_minus h hl, decP_dig h (by omega)]
  by_cases hn : numOk (c :: r) = false
  · rw [if_pos hn, if_pos hn]
    exact ⟨rfl, fun h => absurd h (by decide), by decide, by decide⟩
  · rw [if_neg hn, if_neg hn]
    exact fin_sign _ _
end
section
open Go.RowKit
set_option linter.unusedSimpArgs false
set_option linter.unusedVariables false

theorem cat_one15 (c : UInt8) (s : ByteArray) : (({ data := #[c] } : ByteArray) ++ s).data.toList = c :: s.data.toList := by simp
theorem par_of (s : ByteArray) (hs : s.size ≤ 1000) {a b c : Int} (h : decP s.data.toList = (a, b, c)) (w : World) (hM : MaxAt w) :
    Calls Tryd.prog 11 #[.string s] w fun e w' => e = .returned (.tuple #[.int .u64 a, .int .u64 b, .int .i64 c]) ∧ Below w.heap.size w w' := by
  refine (decParse_any s hs (idx_any s (by omega)) (fun _ => idx_any _ (by rw [ByteArray.size_extract]; omega)) w hM).mono ?_
  rintro e w' ⟨hr, hb⟩
  unfold DecRet at hr
  rw [h] at hr
  exact ⟨hr, hb⟩
set_option maxHeartbeats 6400000 in
set_option maxRecDepth 100000 in
theorem decitSigns_walk (s : ByteArray) (n : Int) (hs : s.size ≤ 9223372036854775807) (n0 : -9223372036854775808 ≤ n) (n1 : n ≤ 9223372036854775807) (w : World) (hL : Laid15 w) :
    Calls Tryd.prog 6 #[.string s, .int .i64 n] w fun e w' => e = .returned (.bool true) ∧ Below w.heap.size w w' := by
  have HL := Lib.hid hL
  clear hL
  have AW := Lib.hid awake15
  by_cases q1 : s.size < 1
  · go_enter Tryd.func6, Tryd.ntmps6
    go_wp2_with fail
    with_reducible refine (AW.out _ HL.out).mono ?_
    rintro e w1 ⟨rfl, hb1⟩
    have hw1 : Below w.heap.size w w1 := Below.trans (by repeat' (first | (with_reducible assumption) | (with_reducible exact Below.refl _ _) | (with_reducible refine below_drewN ?_ _) | (with_reducible refine Below.drew ?_) | (with_reducible refine Below.setCell ?_ ?_ _) | (with_reducible refine Below.alloc ?_ ?_ _) | omega | (simp; done) | (simp; omega))) (hb1.mono (by first | assumption | (simp; done) | (simp; omega)))
    have hz1 := hw1.size
    clear hb1
    go_wp2_with fail
    go_ret
    exact ⟨rfl, by repeat' (first | (with_reducible assumption) | (with_reducible exact Below.refl _ _) | (with_reducible refine below_drewN ?_ _) | (with_reducible refine Below.drew ?_) | (with_reducible refine Below.setCell ?_ ?_ _) | (with_reducible refine Below.alloc ?_ ?_ _) | omega | (simp; done) | (simp; omega))⟩
  · by_cases q2 : 200 < s.size
    · go_enter Tryd.func6, Tryd.ntmps6
      go_wp2_with fail
      with_reducible refine (AW.out _ HL.out).mono ?_
      rintro e w1 ⟨rfl, hb1⟩
      have hw1 : Below w.heap.size w w1 := Below.trans (by repeat' (first | (with_reducible assumption) | (with_reducible exact Below.refl _ _) | (with_reducible refine below_drewN ?_ _) | (with_reducible refine Below.drew ?_) | (with_reducible refine Below.setCell ?_ ?_ _) | (with_reducible refine Below.alloc ?_ ?_ _) | omega | (simp; done) | (simp; omega))) (hb1.mono (by first | assumption | (simp; done) | (simp; omega)))
      have hz1 := hw1.size
      clear hb1
      go_wp2_with fail
      go_ret
      exact ⟨rfl, by repeat' (first | (with_reducible assumption) | (with_reducible exact Below.refl _ _) | (with_reducible refine below_drewN ?_ _) | (with_reducible refine Below.drew ?_) | (with_reducible refine Below.setCell ?_ ?_ _) | (with_reducible refine Below.alloc ?_ ?_ _) | omega | (simp; done) | (simp; omega))⟩
    · by_cases q3 : n < 0
      · go_enter Tryd.func6, Tryd.ntmps6
        go_wp2_with fail
        with_reducible refine (AW.out _ HL.out).mono ?_
        rintro e w1 ⟨rfl, hb1⟩
        have hw1 : Below w.heap.size w w1 := Below.trans (by repeat' (first | (with_reducible assumption) | (with_reducible exact Below.refl _ _) | (with_reducible refine below_drewN ?_ _) | (with_reducible refine Below.drew ?_) | (with_reducible refine Below.setCell ?_ ?_ _) | (with_reducible refine Below.alloc ?_ ?_ _) | omega | (simp; done) | (simp; omega))) (hb1.mono (by first | assumption | (simp; done) | (simp; omega)))
        have hz1 := hw1.size
        clear hb1
        go_wp2_with fail
        go_ret
        exact ⟨rfl, by repeat' (first | (with_reducible assumption) | (with_reducible exact Below.refl _ _) | (with_reducible refine below_drewN ?_ _) | (with_reducible refine Below.drew ?_) | (with_reducible refine Below.setCell ?_ ?_ _) | (with_reducible refine Below.alloc ?_ ?_ _) | omega | (simp; done) | (simp; omega))⟩
      · by_cases q4 : 50 < n
        · go_enter Tryd.func6, Tryd.ntmps6
          go_wp2_with fail
          with_reducible refine (AW.out _ HL.out).mono ?_
          rintro e w1 ⟨rfl, hb1⟩
          have hw1 : Below w.heap.size w w1 := Below.trans (by repeat' (first | (with_reducible assumption) | (with_reducible exact Below.refl _ _) | (with_reducible refine below_drewN ?_ _) | (with_reducible refine Below.drew ?_) | (with_reducible refine Below.setCell ?_ ?_ _) | (with_reducible refine Below.alloc ?_ ?_ _) | omega | (simp; done) | (simp; omega))) (hb1.mono (by first | assumption | (simp; done) | (simp; omega)))
          have hz1 := hw1.size
          clear hb1
          go_wp2_with fail
          go_ret
          exact ⟨rfl, by repeat' (first | (with_reducible assumption) | (with_reducible exact Below.refl _ _) | (with_reducible refine below_drewN ?_ _) | (with_reducible refine Below.drew ?_) | (with_reducible refine Below.setCell ?_ ?_ _) | (with_reducible refine Below.alloc ?_ ?_ _) | omega | (simp; done) | (simp; omega))⟩
        · have hp : 0 < s.size := by omega
          obtain ⟨c, hc⟩ : ∃ c : UInt8, s[0]'hp = c := ⟨_, rfl⟩
          by_cases q5 : c.toNat < 48
          · go_enter Tryd.func6, Tryd.ntmps6
            go_wp2_with fail
            with_reducible refine (AW.out _ HL.out).mono ?_
            rintro e w1 ⟨rfl, hb1⟩
            have hw1 : Below w.heap.size w w1 := Below.trans (by repeat' (first | (with_reducible assumption) | (with_reducible exact Below.refl _ _) | (with_reducible refine below_drewN ?_ _) | (with_reducible refine Below.drew ?_) | (with_reducible refine Below.setCell ?_ ?_ _) | (with_reducible refine Below.alloc ?_ ?_ _) | omega | (simp; done) | (simp; omega))) (hb1.mono (by first | assumption | (simp; done) | (simp; omega)))
            have hz1 := hw1.size
            clear hb1
            go_wp2_with fail
            go_ret
            exact ⟨rfl, by repeat' (first | (with_reducible assumption) | (with_reducible exact Below.refl _ _) | (with_reducible refine below_drewN ?_ _) | (with_reducible refine Below.drew ?_) | (with_reducible refine Below.setCell ?_ ?_ _) | (with_reducible refine Below.alloc ?_ ?_ _) | omega | (simp; done) | (simp; omega))⟩
          · by_cases q6 : 57 < c.toNat
            · go_enter Tryd.func6, Tryd.ntmps6
              go_wp2_with fail
              with_reducible refine (AW.out _ HL.out).mono ?_
              rintro e w1 ⟨rfl, hb1⟩
              have hw1 : Below w.heap.size w w1 := Below.trans (by repeat' (first | (with_reducible assumption) | (with_reducible exact Below.refl _ _) | (with_reducible refine below_drewN ?_ _) | (with_reducible refine Below.drew ?_) | (with_reducible refine Below.setCell ?_ ?_ _) | (with_reducible refine Below.alloc ?_ ?_ _) | omega | (simp; done) | (simp; omega))) (hb1.mono (by first | assumption | (simp; done) | (simp; omega)))
              have hz1 := hw1.size
              clear hb1
              go_wp2_with fail
              go_ret
              exact ⟨rfl, by repeat' (first | (with_reducible assumption) | (with_reducible exact Below.refl _ _) | (with_reducible refine below_drewN ?_ _) | (with_reducible refine Below.drew ?_) | (with_reducible refine Below.setCell ?_ ?_ _) | (with_reducible refine Below.alloc ?_ ?_ _) | omega | (simp; done) | (simp; omega))⟩
            · have hd : isD c = true := by unfold isD; rw [Bool.and_eq_true, decide_eq_true_eq, decide_eq_true_eq]; omega
              obtain ⟨r, hr⟩ : ∃ r, s.data.toList = c :: r := by
                have hl : s.data.toList.length = s.size := by simp
                have hg : s.data.toList[0]? = some c := by rw [← hc]; exact Lib.data_getElem? s 0 hp
                cases he : s.data.toList with
                | nil => rw [he] at hl; simp at hl; omega
                | cons x r =>
                  rw [he] at hg
                  obtain rfl : x = c := by simpa using hg
                  exact ⟨r, rfl⟩
              have hrl : (c :: r).length = s.size := by rw [← hr]; simp
              obtain ⟨N, rfl⟩ : ∃ N : Nat, n = (N : Int) := ⟨n.toNat, by omega⟩
              obtain ⟨⟨p1, p2, p3⟩, hP⟩ : ∃ R, decP (c :: r) = R := ⟨_, rfl⟩
              obtain ⟨⟨m1, m2, m3⟩, hM⟩ : ∃ R, decP (45 :: c :: r) = R := ⟨_, rfl⟩
              obtain ⟨s1, s2, s3, s4⟩ := decP_signs hd (r := r) (by omega)
              rw [hP, hM] at s1 s2
              rw [hP] at s3 s4
              obtain ⟨rfl, rfl⟩ : m2 = p2 ∧ m3 = p3 := by simpa using s1
              have P1 := Lib.hid (fun (w : World) (h : MaxAt w) => par_of (a := p1) (b := m2) (c := m3) s (by omega) (by rw [hr]; exact hP) w h)
              have P2 := Lib.hid (fun (w : World) (h : MaxAt w) => par_of (a := p1) (b := m2) (c := m3) ({ data := #[43] } ++ s) (by rw [ByteArray.size_append]; show 1 + s.size ≤ 1000; omega) (by rw [cat_one15, hr, decP_plus hd (by omega)]; exact hP) w h)
              have P3 := Lib.hid (fun (w : World) (h : MaxAt w) => par_of (a := m1) (b := m2) (c := m3) ({ data := #[45] } ++ s) (by rw [ByteArray.size_append]; show 1 + s.size ≤ 1000; omega) (by rw [cat_one15, hr]; exact hM) w h)
              have P4 := Lib.hid (fun (Z : ByteArray) (hz : Z.data.toList = List.replicate N 48 ++ c :: r) (hzs : Z.size ≤ 1000) (w : World) (h : MaxAt w) => par_of (a := p1) (b := m2) (c := m3) Z hzs (by rw [hz, decP_noughts hd N (by omega)]; exact hP) w h)
              have HR := Lib.hid hr
              have S2 := Lib.hid (show m3 = 0 → IntKind.u64.wrap (p1 + 9223372036854775808) = m1 from fun h => by
                have e : m1 = p1 + 9223372036854775808 := s2 h
                have b0 : 0 ≤ p1 := s3
                have b1 : p1 < 9223372036854775808 := s4
                rw [e]; exact IntWalk.u64_in _ (by omega))
              have hN : N ≤ 50 := by omega
              have hsl : s.size ≤ 200 := by omega
              have hsg : 1 ≤ s.size := by omega
              have hk1 : ({ data := #[43] } : ByteArray).size = 1 := rfl
              have hk2 : ({ data := #[45] } : ByteArray).size = 1 := rfl
              have hk3 : ({ data := #[48] } : ByteArray).size = 1 := rfl
              have HD := Lib.hid hd
              clear hP hM s1 s2 s3 s4 hr hrl hd
              go_enter Tryd.func6, Tryd.ntmps6
              go_wp2_with fail
              with_reducible refine (AW.out _ HL.out).mono ?_
              rintro e w1 ⟨rfl, hb1⟩
              have hw1 : Below w.heap.size w w1 := Below.trans (by repeat' (first | (with_reducible assumption) | (with_reducible exact Below.refl _ _) | (with_reducible refine below_drewN ?_ _) | (with_reducible refine Below.drew ?_) | (with_reducible refine Below.setCell ?_ ?_ _) | (with_reducible refine Below.alloc ?_ ?_ _) | omega | (simp; done) | (simp; omega))) (hb1.mono (by first | assumption | (simp; done) | (simp; omega)))
              have hz1 := hw1.size
              clear hb1
              go_wp2_with fail
              with_reducible refine (P1.out _ (laid15_max (laid15_below HL.out hw1))).mono ?_
              rintro e w2 ⟨rfl, hb2⟩
              have hw2 : Below w.heap.size w w2 := hw1.trans (hb2.mono hz1)
              have hz2 := hw2.size
              clear hb2
              go_wp2_with fail
              with_reducible refine (P2.out _ (laid15_max (laid15_below HL.out hw2))).mono ?_
              rintro e w3 ⟨rfl, hb3⟩
              have hw3 : Below w.heap.size w w3 := hw2.trans (hb3.mono hz2)
              have hz3 := hw3.size
              clear hb3
              go_wp2_with fail
              with_reducible refine (P3.out _ (laid15_max (laid15_below HL.out hw3))).mono ?_
              rintro e w4 ⟨rfl, hb4⟩
              have hw4 : Below w.heap.size w w4 := hw3.trans (hb4.mono hz3)
              have hz4 := hw4.size
              clear hb4
              go_wp2_with fail
              go_loopw [14, 15] (fun z i W => ∃ (Z : ByteArray) (K : Nat), z = .string Z ∧ i = .int .i64 K ∧ K ≤ N ∧ Hid (Z.data.toList = List.replicate K 48 ++ s.data.toList) ∧ Z.size = K + s.size ∧ Below w.heap.size w W) (fun _ i _ => N - (intOf i).toNat)
              case atStart => exact ⟨s, 0, rfl, rfl, Nat.zero_le _, Lib.hid rfl, by omega, hw4⟩
              case round =>
                obtain ⟨Z, K, rfl, rfl, hK, HZ, hZs, hbw⟩ := hrel
                have hz5 := hbw.size
                by_cases hlt : K < N
                · have hsum : 1 + Z.size ≤ 1000 := by omega
                  have HZ2 : Hid (({ data := #[48] } ++ Z : ByteArray).data.toList = List.replicate (K + 1) 48 ++ s.data.toList) := Lib.hid (by rw [cat_one15, HZ.out, List.replicate_succ]; rfl)
                  have hZ2s : ({ data := #[48] } ++ Z : ByteArray).size = K + 1 + s.size := by rw [ByteArray.size_append, hk3]; omega
                  have HS2 := Lib.hid hZ2s
                  have HS1 := Lib.hid hZs
                  clear hZ2s hZs
                  go_wp2_with fail
                  go_roundw
                  case rel => exact ⟨_, K + 1, rfl, by go_num, by omega, HZ2, HS2.out, hbw⟩
                  case measure => first | (simp [intOf]; done) | (simp [intOf]; omega)
                · obtain rfl : K = N := by omega
                  have hZ1000 : Z.size ≤ 1000 := by omega
                  have HZ3 : Hid (Z.data.toList = List.replicate K 48 ++ c :: r) := Lib.hid (by rw [← HR.out]; exact HZ.out)
                  have HS1 := Lib.hid hZs
                  have S2v := S2.out
                  clear hZs
                  go_wp2_with fail
                  with_reducible refine (P4.out Z HZ3.out hZ1000 _ (laid15_max (laid15_below HL.out hbw))).mono ?_
                  rintro e w6 ⟨rfl, hb6⟩
                  have hw6 : Below w.heap.size w w6 := hbw.trans (hb6.mono hz5)
                  have hz6 := hw6.size
                  clear hb6
                  by_cases hm : m3 = 0
                  · have hwr := S2v hm
                    subst hm
                    clear S2v
                    go_wp2_with fail
                    go_ret
                    exact ⟨by first | rfl | (simp; done), by repeat' (first | (with_reducible assumption) | (with_reducible exact Below.refl _ _) | (with_reducible refine below_drewN ?_ _) | (with_reducible refine Below.drew ?_) | (with_reducible refine Below.setCell ?_ ?_ _) | (with_reducible refine Below.alloc ?_ ?_ _) | omega | (simp; done) | (simp; omega))⟩
                  · have hmb : (m3 == 0) = false := beq_eq_false_iff_ne.2 hm
                    clear S2v
                    go_wp2_with fail
                    go_ret
                    exact ⟨by first | rfl | (simp; done), by repeat' (first | (with_reducible assumption) | (with_reducible exact Below.refl _ _) | (with_reducible refine below_drewN ?_ _) | (with_reducible refine Below.drew ?_) | (with_reducible refine Below.setCell ?_ ?_ _) | (with_reducible refine Below.alloc ?_ ?_ _) | omega | (simp; done) | (simp; omega))⟩
end
end Go.Proofs.YtpgooajifehbbaaDoor
